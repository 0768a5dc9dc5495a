/-
  Parts of the proof, put together (15). No condition.
-/
import Derived.Below
import Derived.Carry
import Derived.Deep.Slices
import Derived.OpenShut
import Derived.ProofKit
import Derived.Test.YtaofijjjheiknaaGreatRows
import Derived.Deep.SlicePairs
import Derived.Test.YtaofijjjheiknaaGreatP14
set_option linter.unusedVariables false
set_option linter.unusedSimpArgs false
set_option linter.unnecessarySimpa false
set_option maxHeartbeats 4000000
open Classical renaming byContradiction→BS
open Go.IntKind renaming wrap→AL
open Go.Proofs.Tryz renaming prog→AC
open Int renaming toNat_natCast→AU,toNat_of_nonneg→DM
open List renaming cons_append→AA,nil_append→AB,mem_cons_self→AE,mem_cons_of_mem→AF,getElem?_eq_getElem→AG,length_append→AH,length_cons→AJ,getElem?_eq_some_iff→AK,getD_eq_getElem?_getD→AM,mem_cons→AN,mem_map→AO,append_nil→AP,length_map→AQ,mem_append→AR,length_nil→AS,append_assoc→AV,flatten_cons→AW,mem_singleton→AX,map_cons→AZ,mem_of_getElem?→A0,flatten_nil→A4,take_of_length_le→A5,pairwise_map→A6,count_append→A8,mem_range→A9,range→BA,pairwise_iff_getElem→BB,flatMap_cons→BC,getElem?_append_right→BE,getElem?_map→BH,getElem?_append_left→BK,mem_append_right→BN,mem_append_left→BO,take_add_one→BP,getElem?_drop→BU,getElem?_eq_none→BW,replicate→BX,mem_flatMap→BZ,getElem_mem→B7,pairwise_append→CB,perm_append_comm→CD,map_map→CH,getElem?_range→CK,pairwise_lt_range→CV,mem_iff_getElem?→DA,ext_getElem?→DI,drop_zero→DL,not_mem_nil→DP
open List.Pairwise renaming nil→DJ
open List.Perm renaming append_left→BL,of_eq→DF
open Nat renaming reduceAdd→AD,le_refl→AI,zero_le→AT,mul_le_mul_right→BD,lt_trichotomy→B5,add_zero→B6,add_sub_cancel→CG,mul_le_mul_left→CJ
open Option.some renaming inj→BF,injEq→BG
open Go.Proofs.Tryz
open Go.Value renaming int→Z9
open Go.IntKind renaming i64→Z8
namespace Go.Proofs.YtaofijjjheiknaaGreat
open Go.SL Go.Tup Go.Srt Go.Gr
theorem Re {v col:Nat} {hts ts:List T5} {z:T5}:z∈Cj v col hts ts↔∃t∈ts,z=Bf hts col v col t:=by rw[(Xa _ _ _ _).mem_iff,AO];exact⟨fun ⟨t,h,e⟩=>⟨t,h,e.symm⟩,fun ⟨t,h,e⟩=>⟨t,h,e.symm⟩⟩
theorem Rg {v col:Nat} (hc:col=1∨col=2) (hts ts:List T5):((Cj v col hts ts).map (·.c0)).Perm (ts.map (·.c0)):=by refine((Xa _ _ _ _).map _).trans (DF ?_);rw[CH];refine List.map_congr_left fun t _=>?_;rcases hc with rfl|rfl<;>rfl
section
variable {N:Nat} {es:List IE} {lab:List Int} {fl:List Bool} {r b:List T5} {tl:List (Nat×Fo)} {l:List T5} {qs:List T5}
theorem mU (lab:List Int):(Bb lab).Pairwise fun a c=>a.c0<c.c0:=by unfold Bb;rw[A6];exact CV.imp fun h=>by dsimp only;omega
theorem E3 {u:Nat} {x:Int} (h:lab[u]? =some x):lkV (Bb lab) (u:Int) 1=x:=by have hu:=(AK.1 h).1;refine Jj (t:=⟨(u:Int),x,0,0,0⟩) (mU lab) ?_ rfl;unfold Bb;refine AO.2 ⟨u,A9.2 hu,?_⟩;rw[AM,h];rfl
theorem E4 (hT:Ao N es lab b tl l):l.Pairwise fun a c=>a.c2≠c.c2:=by rw[BB];intro i j hi hj aa hc;have e1:=Dy (r:=l) hi;have e2:=Dy (r:=l) hj;rw[AG hi] at e1;rw[AG hj] at e2;rw[BF e1,BF e2] at hc;have:=hT.num_inj (by rw[←hT.len];exact hi) (by rw[←hT.len];exact hj) hc;omega
end
theorem cZ {a b:List T5} (ha:a.Pairwise fun x y=>x.c0<y.c0) (hb:b.Pairwise fun x y=>x.c0<y.c0) (h:∀z,z∈a↔z∈b):a=b:=by
 have aa:∀{l:List T5},l.Pairwise (fun x y=>x.c0<y.c0)→l.Nodup:=fun h=>h.imp fun ab he=>by rw[he] at ab;omega
 exact((List.perm_ext_iff_of_nodup (aa ha) (aa hb)).2 h).eq_of_pairwise (le:=fun x y=>x.c0<y.c0) (fun x y _ _ h1 h2=>absurd h1 oM) ha hb
theorem mV {m:List T5} (h:m.Pairwise fun a c=>a.c0≠c.c0):(srt (ltO o1) false m).Pairwise fun a c=>a.c0<c.c0:=by have h1:((srt (ltO o1) false m).map fun t:T5=>t.c0).Nodup:=((Bt m).map fun t:T5=>t.c0).nodup_iff.2 (A6.2 h);have h2:(srt (ltO o1) false m).Pairwise fun x y=>x.c0≠y.c0:=A6.1 h1;exact((Ul m).and h2).imp fun {x y} ⟨h3,h4⟩=>by omega
section
variable {N:Nat} {es:List IE} {lab:List Int} {fl:List Bool} {r b:List T5} {tl:List (Nat×Fo)} {l:List T5} {qs:List T5}
end
section
variable {N:Nat} {es:List IE} {lab:List Int} {fl:List Bool} {b:List T5} {tl:List (Nat×Fo)} {l o:List T5}
def pnB (l:List T5) (v:Nat):Int:=lkV l (at5 l v).c1 2
theorem mW (hT:Ao N es lab b tl l) {v:Nat} (h:(at5 l v).c1= -1):pnB l v= -1:=by unfold pnB;refine Sr fun u hu=>?_;obtain⟨w,hw,rfl⟩:=hT.mem_l.1 hu;rw[hT.at_ w hw];omega
theorem Yd (hT:Ao N es lab b tl l) {v p:Nat} (hp:p<N) (h:(at5 l v).c1=(p:Int)):pnB l v=(at5 l p).c2:=by unfold pnB;rw[h,hT.look hp];rfl
theorem Uz (hT:Ao N es lab b tl l) {z:T5}:z∈upF l↔∃v,v<N∧z=⟨(at5 l v).c2,pnB l v,(at5 l v).c3,0,0⟩:=by
 unfold upF;rw[(Bt _).mem_iff,Re];constructor
 ·rintro⟨t,ht,rfl⟩;obtain⟨u,hu,rfl⟩:=AO.1 ht;obtain⟨v,hv,rfl⟩:=hT.mem_l.1 hu;exact⟨v,hv,rfl⟩
 ·rintro⟨v,hv,rfl⟩;exact⟨_,AO.2 ⟨_,hT.mem_l.2 ⟨v,hv,rfl⟩,rfl⟩,rfl⟩
theorem dA (hT:Ao N es lab b tl l):(upF l).Pairwise fun a c=>a.c0<c.c0:=by
 unfold upF;refine mV ?_;have h1:((l.map fun t=>(⟨t.c2,t.c1,t.c3,0,0⟩:T5)).map (·.c0)).Nodup:=by rw[CH,List.Nodup,A6];exact(E4 hT).imp fun h=>h
 have h2:=(Rg (v:=2) (.inl rfl) l (l.map fun t=>(⟨t.c2,t.c1,t.c3,0,0⟩:T5))).nodup_iff.2 h1;rwa[List.Nodup,A6] at h2
theorem Va (hT:Ao N es lab b tl l) {v:Nat} (hv:v<N):lkV (upF l) (at5 l v).c2 1=pnB l v∧lkV (upF l) (at5 l v).c2 2=(at5 l v).c3:=
 ⟨Jj (dA hT) ((Uz hT).2 ⟨v,hv,rfl⟩) rfl,Jj (dA hT) ((Uz hT).2 ⟨v,hv,rfl⟩) rfl⟩
theorem up_no (hT:Ao N es lab b tl l) (c:Nat):lkV (upF l) (-1) c= -1:=by refine Sr fun u hu=>?_;obtain⟨v,hv,rfl⟩:=(Uz hT).1 hu;have:=hT.bnd hv;dsimp only;omega
theorem mX {u w:Nat} (h:(at5 l u).c2<(at5 l w).c2):¬Sub l u w↔(at5 l u).c2+(at5 l u).c3≤(at5 l w).c2:=
 ⟨fun hn=>BS fun h2=>hn ⟨oM,oM⟩,fun h2 hn=>by have:=hn.2;omega⟩
theorem dB (hT:Ao N es lab b tl l) (hf:∀e∈es,inE N e) (ah:fl.length=es.length) (hN:N≤1000000) {z:T5}:z∈Js (Gp l (Ba (edT es) fl) (edT es)) (upF l)↔∃u w,u<N∧w<N∧Adj es fl u w∧(at5 l u).c2<(at5 l w).c2∧¬Sub l u w∧z=⟨(at5 l u).c2,(at5 l w).c2,0,0,0⟩:=by
 have ae:∀{i:Nat} {e:IE},es[i]? =some e→fl[i]? =some false→e.1≠e.2→∃u w,u<N∧w<N∧Adj es fl u w∧(at5 l u).c2<(at5 l w).c2∧min (at5 l e.1.toNat).c2 (at5 l e.2.toNat).c2=(at5 l u).c2∧max (at5 l e.1.toNat).c2 (at5 l e.2.toNat).c2=(at5 l w).c2:=by
  intro i e he hb aa;have h1:=hf e (A0 he);unfold inE at h1;have hx:(at5 l e.1.toNat).c2≠(at5 l e.2.toNat).c2:=fun h=>aa (by have:=hT.num_inj (u:=e.1.toNat) (v:=e.2.toNat) oM oM h;omega);by_cases ab:(at5 l e.1.toNat).c2<(at5 l e.2.toNat).c2
  ·exact⟨e.1.toNat,e.2.toNat,oM,oM,⟨i,e,he,hb,.inl ⟨oM,oM⟩⟩,ab,oM,oM⟩
  ·exact⟨e.2.toNat,e.1.toNat,oM,oM,⟨i,e,he,hb,.inr ⟨oM,oM⟩⟩,oM,oM,oM⟩
 have hA:∀{u w:Nat},u<N→w<N→Lu ⟨(at5 l u).c2,(at5 l w).c2,(at5 l u).c3,0,0⟩=if(at5 l w).c2<(at5 l u).c2+(at5 l u).c3 then[] else[⟨(at5 l u).c2,(at5 l w).c2,0,0,0⟩]:=by intro u w hu hw;have h1:=hT.bnd hu;unfold Lu;dsimp only;rw[Ah oM]
 unfold Js;rw[BZ];unfold Lw;constructor
 ·rintro⟨t,ht,hz⟩;obtain⟨s,hs,rfl⟩:=AO.1 ht;obtain⟨q,hq,rfl⟩:=AO.1 ((Bt _).mem_iff.1 hs);obtain⟨i,e,he,hb,aa,rfl⟩:=(cA hT hf ah).1 hq;obtain⟨u,w,hu,hw,ha,ab,h1,h2⟩:=ae he hb aa;rw[show Bf (upF l) 0 2 2 ⟨min (at5 l e.1.toNat).c2 (at5 l e.2.toNat).c2,max (at5 l e.1.toNat).c2 (at5 l e.2.toNat).c2,0,0,0⟩=⟨min (at5 l e.1.toNat).c2 (at5 l e.2.toNat).c2,max (at5 l e.1.toNat).c2 (at5 l e.2.toNat).c2,lkV (upF l) (min (at5 l e.1.toNat).c2 (at5 l e.2.toNat).c2) 2,0,0⟩ from rfl,h1,h2,(Va hT hu).2,hA hu hw] at hz;split at hz
  ·cases hz
  ·rw[AX] at hz;exact⟨u,w,hu,hw,ha,ab,(mX ab).2 oM,hz⟩
 ·rintro⟨u,w,hu,hw,⟨i,e,he,hb,ac⟩,ab,hn,rfl⟩;have aa:e.1≠e.2:=fun h=>by rcases ac with⟨a,c⟩|⟨a,c⟩<;>(have:u=w:=by omega)<;>(subst this;omega)
  obtain⟨u',w',ad,ag,_,ai,h1,h2⟩:=ae he hb aa;have aj:u'=u∧w'=w:=by
   rcases ac with⟨a,c⟩|⟨a,c⟩
   ·rw[a,c,AU,AU] at h1 h2;exact⟨hT.num_inj ad hu oM,hT.num_inj ag hw oM⟩
   ·rw[a,c,AU,AU] at h1 h2;exact⟨hT.num_inj ad hu oM,hT.num_inj ag hw oM⟩
  obtain⟨rfl,rfl⟩:=aj;refine⟨_,AO.2 ⟨_,(Bt _).mem_iff.2 (AO.2 ⟨_,(cA hT hf ah).2 ⟨i,e,he,hb,aa,rfl⟩,rfl⟩),rfl⟩,?_⟩;rw[show Bf (upF l) 0 2 2 ⟨min (at5 l e.1.toNat).c2 (at5 l e.2.toNat).c2,max (at5 l e.1.toNat).c2 (at5 l e.2.toNat).c2,0,0,0⟩=⟨min (at5 l e.1.toNat).c2 (at5 l e.2.toNat).c2,max (at5 l e.1.toNat).c2 (at5 l e.2.toNat).c2,lkV (upF l) (min (at5 l e.1.toNat).c2 (at5 l e.2.toNat).c2) 2,0,0⟩ from rfl,h1,h2,(Va hT ad).2,hA ad ag,if_neg (by have:=(mX ai).1 hn;omega)];exact AE
theorem mY (hT:Ao N es lab b tl l) (h:Ix N es fl l o):o.Pairwise fun a c=>a.c0<c.c0:=by
 have key:∀{k:Nat} {z:T5},o[k]? =some z→z.c0=(k:Int):=by
  intro k z hk;have aa:k<N:=by rw[←h.len];exact(AK.1 hk).1
  obtain⟨v,hv,hn⟩:=hT.surj aa;obtain⟨lo,hi,h1,_⟩:=h.at_ v hv;rw[hn,AU,hk] at h1;rw[BF h1]
 rw[BB];intro i j hi hj ab;rw[key (AG hi),key (AG hj)];omega
theorem mZ (hT:Ao N es lab b tl l) (hL:Ix N es fl l o) (hN:N≤1000000) {z:T5}:z∈Jv (upF l) o↔∃v p,v<N∧p<N∧(at5 l v).c1=(p:Int)∧(at5 l p).c1≠-1∧(∃a w,a<N∧w<N∧Sub l v a∧Adj es fl a w∧¬Sub l p w)∧z=⟨(at5 l v).c2,(at5 l p).c2,0,0,0⟩:=by
 have ag:=mY hT hL;have ac:∀v,v<N→∃lo hi,Ta N es fl l v lo∧Tc N es fl l v hi∧Bf (upF l) 1 1 4 (Bf o 0 2 3 (Bf o 0 1 2 ⟨(at5 l v).c2,pnB l v,(at5 l v).c3,0,0⟩))=⟨(at5 l v).c2,pnB l v,lo,hi,lkV (upF l) (pnB l v) 1⟩:=by intro v hv;obtain⟨lo,hi,h1,h2,h3⟩:=hL.at_ v hv;have hm:=A0 h1;refine⟨lo,hi,h2,h3,?_⟩;have e1:lkV o (at5 l v).c2 1=lo:=Jj ag hm rfl;have e2:lkV o (at5 l v).c2 2=hi:=Jj ag hm rfl;show(⟨(at5 l v).c2,pnB l v,lkV o (at5 l v).c2 1,lkV o (at5 l v).c2 2,lkV (upF l) (pnB l v) 1⟩:T5)=_;rw[e1,e2]
 have ah:∀{t:T5},t∈Jt (upF l) o↔∃v,v<N∧t=Bf (upF l) 1 1 4 (Bf o 0 2 3 (Bf o 0 1 2 ⟨(at5 l v).c2,pnB l v,(at5 l v).c3,0,0⟩)):=by
  intro t;unfold Jt Oa;rw[AO];constructor
  ·rintro⟨s,hs,rfl⟩;rw[(Bt _).mem_iff,CH] at hs;obtain⟨q,hq,rfl⟩:=AO.1 hs;obtain⟨v,hv,rfl⟩:=(Uz hT).1 hq;exact⟨v,hv,rfl⟩
  ·rintro⟨v,hv,rfl⟩;refine⟨_,?_,rfl⟩;rw[(Bt _).mem_iff,CH];exact AO.2 ⟨_,(Uz hT).2 ⟨v,hv,rfl⟩,rfl⟩
 have ai:∀v,v<N→(lkV (upF l) (pnB l v) 1≠-1↔∃p,p<N∧(at5 l v).c1=(p:Int)∧(at5 l p).c1≠-1):=by
  intro v hv;rcases hT.par hv with⟨h,_⟩|⟨p,hp,h,_⟩
  ·rw[mW hT h,up_no hT];exact⟨fun h=>absurd rfl h,fun ⟨p,_,h2,_⟩=>by omega⟩
  ·rw[Yd hT hp h,(Va hT hp).1];rcases hT.par hp with⟨h2,_⟩|⟨g,hg,h2,_⟩
   ·rw[mW hT h2];refine⟨fun h=>absurd rfl h,fun ⟨p',_,h3,h4⟩=>?_⟩;obtain rfl:p=p':=by omega
    exact absurd h2 h4
   ·rw[Yd hT hg h2];have:=hT.bnd hg;exact⟨fun _=>⟨p,hp,h,oM⟩,fun _=>by omega⟩
 have hO:∀{v p:Nat} {lo hi:Int},p<N→Kz ⟨(at5 l v).c2,(at5 l p).c2,lo,hi,(at5 l p).c3⟩=if(at5 l p).c2≤lo∧hi<(at5 l p).c2+(at5 l p).c3 then[] else[⟨(at5 l v).c2,(at5 l p).c2,0,0,0⟩]:=by
  intro v p lo hi hp;have h1:=hT.bnd hp;unfold Kz;dsimp only;rw[Ah oM];by_cases h2:(at5 l p).c2≤lo
  ·by_cases h3:hi<(at5 l p).c2+(at5 l p).c3
   ·rw[if_pos h2,if_pos h3,if_pos ⟨h2,h3⟩]
   ·rw[if_pos h2,if_neg h3,if_neg fun h=>h3 h.2]
  ·rw[if_neg h2,if_neg fun h=>h2 h.1]
 have aa:∀{v p:Nat} {lo hi:Int},v<N→p<N→(at5 l v).c1=(p:Int)→Ta N es fl l v lo→Tc N es fl l v hi→(¬((at5 l p).c2≤lo∧hi<(at5 l p).c2+(at5 l p).c3)↔∃a w,a<N∧w<N∧Sub l v a∧Adj es fl a w∧¬Sub l p w):=by
  intro v p lo hi hv hp aj h1 h2;constructor
  ·intro hn;have ad:∀{x:Int},Out N es fl l v x→¬((at5 l p).c2≤x∧x<(at5 l p).c2+(at5 l p).c3)→∃a w,a<N∧w<N∧Sub l v a∧Adj es fl a w∧¬Sub l p w:=by
    rintro x ⟨a,ha,hs,rfl|⟨w,hw,ab,rfl⟩⟩ hx
    ·have h3:=cD hT hv aj hs;exact absurd ⟨h3.1,h3.2⟩ hx
    ·exact⟨a,w,ha,hw,hs,ab,fun h3=>hx ⟨h3.1,h3.2⟩⟩
   by_cases h3:(at5 l p).c2≤lo∧lo<(at5 l p).c2+(at5 l p).c3
   ·refine ad h2.1 fun h4=>hn ⟨h3.1,h4.2⟩
   ·exact ad h1.1 h3
  ·rintro⟨a,w,ha,hw,hs,ab,ak⟩ ⟨h3,h4⟩;have ho:Out N es fl l v (at5 l w).c2:=⟨a,ha,hs,.inr ⟨w,hw,ab,rfl⟩⟩
   have h5:=h1.2 _ ho;have h6:=h2.2 _ ho;exact ak ⟨oM,oM⟩
 unfold Jv Mq Ju;rw[BZ];constructor
 ·rintro⟨t,ht,hz⟩;obtain⟨s,hs,rfl⟩:=AO.1 ht;obtain⟨q,hq,hs⟩:=BZ.1 hs;obtain⟨v,hv,rfl⟩:=ah.1 hq;obtain⟨lo,hi,h1,h2,h3⟩:=ac v hv;rw[h3] at hs;unfold Kh at hs;split at hs
  ·cases hs
  ·rename_i ae;rw[AX] at hs;subst hs;obtain⟨p,hp,p1,p2⟩:=(ai v hv).1 ae;rw[show Bf (upF l) 1 2 4 ⟨(at5 l v).c2,pnB l v,lo,hi,0⟩=⟨(at5 l v).c2,pnB l v,lo,hi,lkV (upF l) (pnB l v) 2⟩ from rfl,Yd hT hp p1,(Va hT hp).2,hO hp] at hz;split at hz
   ·cases hz
   ·rename_i hn;rw[AX] at hz;exact⟨v,p,hv,hp,p1,p2,(aa hv hp p1 h1 h2).1 hn,hz⟩
 ·rintro⟨v,p,hv,hp,p1,p2,al,rfl⟩;obtain⟨lo,hi,h1,h2,h3⟩:=ac v hv;have ae:lkV (upF l) (pnB l v) 1≠-1:=(ai v hv).2 ⟨p,hp,p1,p2⟩;refine⟨_,AO.2 ⟨⟨(at5 l v).c2,pnB l v,lo,hi,0⟩,BZ.2 ⟨_,ah.2 ⟨v,hv,rfl⟩,?_⟩,rfl⟩,?_⟩
  ·rw[h3];unfold Kh;rw[if_neg ae];exact AE
  ·rw[show Bf (upF l) 1 2 4 ⟨(at5 l v).c2,pnB l v,lo,hi,0⟩=⟨(at5 l v).c2,pnB l v,lo,hi,lkV (upF l) (pnB l v) 2⟩ from rfl,Yd hT hp p1,(Va hT hp).2,hO hp,if_neg ((aa hv hp p1 h1 h2).2 al)];exact AE
end
theorem nA:∀(ts:List T5) (i:Nat),(jnF i ts).map Cw=ts.map fun t=>(t.c0,t.c1)
 |[],_=>rfl
 |t::ts,i=>by rw[jnF,AZ,AZ,nA ts];rfl
theorem dC:∀(ts:List T5) (i:Nat),(jnF i ts).Pairwise (fun a c=>a.c0<c.c0)∧∀z∈jnF i ts,((i+1:Nat):Int)≤z.c0
 |[],_=>⟨DJ,fun z hz=>by cases hz⟩
 |t::ts,i=>by
  obtain⟨h1,h2⟩:=dC ts (i+1);rw[jnF];refine⟨List.pairwise_cons.2 ⟨fun z hz=>by have:=h2 z hz;dsimp only;omega,h1⟩,fun z hz=>?_⟩;rcases AN.1 hz with rfl|hz
  ·exact Int.le_refl _
  ·have:=h2 z hz;omega
theorem nB:∀{ts:List T5} {i:Nat} {z:T5},z∈jnF i ts→∃t∈ts,z.c1=t.c0∧z.c2=t.c1
 |[],_,_,h=>by cases h
 |t::ts,i,z,h=>by
  rw[jnF] at h;rcases AN.1 h with rfl|h
  ·exact⟨t,AE,rfl,rfl⟩
  ·obtain⟨u,hu,h1,h2⟩:=nB h;exact⟨u,AF _ hu,h1,h2⟩
def prB (es:List IE) (fl:List Bool) (l o:List T5):List T5:=Js (Gp l (Ba (edT es) fl) (edT es)) (upF l)++Jv (upF l) o
def peB (es:List IE) (fl:List Bool) (l o:List T5):List IE:=(prB es fl l o).map fun t=>(t.c0,t.c1)
def EB (es:List IE) (fl:List Bool) (l o:List T5) (u v:Nat):Prop:=Cn (gE (peB es fl l o)) (fun i=>i<(peB es fl l o).length) (at5 l u).c2.toNat (at5 l v).c2.toNat
section
variable {N:Nat} {es:List IE} {ls:List (List Int)} {lab:List Int} {fl:List Bool} {r b:List T5} {tl:List (Nat×Fo)} {l o:List T5}
theorem nC (X:BcX N es ls lab fl r b tl l) (hL:Ix N es fl l o) {t:T5} (ht:t∈prB es fl l o):∃u v,u<N∧v<N∧AuxP N es fl l u v∧t=⟨(at5 l u).c2,(at5 l v).c2,0,0,0⟩:=by
 unfold prB at ht;rcases AR.1 ht with ht|ht
 ·obtain⟨u,w,hu,hw,ha,aa,hn,rfl⟩:=(dB X.tab X.inn X.parts.fors.1 X.big).1 ht;exact⟨u,w,hu,hw,.inl ⟨ha,hn,fun h=>by have:=h.1;omega⟩,rfl⟩
 ·obtain⟨v,p,hv,hp,h1,h2,h3,rfl⟩:=(mZ X.tab hL X.big).1 ht;exact⟨v,p,hv,hp,.inr ⟨h1,h2,h3⟩,rfl⟩
theorem aux_pr (X:BcX N es ls lab fl r b tl l) (hL:Ix N es fl l o) {u v:Nat} (hu:u<N) (hv:v<N) (h:AuxP N es fl l u v):(⟨(at5 l u).c2,(at5 l v).c2,0,0,0⟩:T5)∈prB es fl l o∨(⟨(at5 l v).c2,(at5 l u).c2,0,0,0⟩:T5)∈prB es fl l o:=by
 unfold prB;rcases h with⟨h1,h2,h3⟩|⟨h1,h2,h3⟩
 ·have ab:(at5 l u).c2≠(at5 l v).c2:=fun h=>h2 (by rw[X.tab.num_inj hu hv h];exact Hs X.tab hv);by_cases aa:(at5 l u).c2<(at5 l v).c2
  ·exact .inl (BO _ ((dB X.tab X.inn X.parts.fors.1 X.big).2 ⟨u,v,hu,hv,h1,aa,h2,rfl⟩))
  ·exact .inr (BO _ ((dB X.tab X.inn X.parts.fors.1 X.big).2 ⟨v,u,hv,hu,lG h1,oM,h3,rfl⟩))
 ·exact .inl (BN _ ((mZ X.tab hL X.big).2 ⟨u,v,hu,hv,h1,h2,h3,rfl⟩))
theorem pe_cn {x y:Int} (h:(⟨x,y,0,0,0⟩:T5)∈prB es fl l o):Cn (gE (peB es fl l o)) (fun i=>i<(peB es fl l o).length) x.toNat y.toNat:=by
 have hm:(x,y)∈peB es fl l o:=AO.2 ⟨_,h,rfl⟩;obtain⟨i,hi⟩:=DA.1 hm;have h1:=Cn.edge (g:=gE (peB es fl l o)) (S:=fun i=>i<(peB es fl l o).length) (i:=i) (AK.1 hi).1;have h2:gE (peB es fl l o) i=(x.toNat,y.toNat):=by unfold gE;rw[hi]
 rw[h2] at h1;exact h1
theorem eqxB (X:BcX N es ls lab fl r b tl l) (hL:Ix N es fl l o):EqX N es ls fl l (EB es fl l o) where
 refl a:= .refl _
 symm h:=Cn.symm h
 trans h g:=Cn.trans h g
 aux hu hv h:=by
  rcases aux_pr X hL hu hv h with h|h
  ·exact pe_cn h
  ·exact(pe_cn h).symm
 sg:=by
  intro u v p q hu hv hE hp hq i j hi hj;have key:∀c,Cn (gE (peB es fl l o)) (fun i=>i<(peB es fl l o).length) (at5 l u).c2.toNat c→∃w z:Nat,w<N∧(at5 l w).c2.toNat=c∧(at5 l w).c1=(z:Int)∧∀k,Cu es k w z→Sg N es ls i k:=by
   intro c hc;induction hc with
   |refl=>exact⟨u,p,hu,rfl,hp,fun k hk=>X.par_sg hu hp hi hk⟩
   | @step c d _ ad ih=>
    obtain⟨w,z,hw,aj,ak,hs⟩:=ih;obtain⟨n,hn,he⟩:=ad;have ae:(peB es fl l o)[n]? =some (peB es fl l o)[n]:=AG hn;have hm:=B7 hn;unfold peB at hm;obtain⟨t,ht,h1⟩:=AO.1 hm;obtain⟨a,e,ha,aa,ag,rfl⟩:=nC X hL ht;have hg:gE (peB es fl l o) n=((at5 l a).c2.toNat,(at5 l e).c2.toNat):=by unfold gE;rw[ae];have:(peB es fl l o)[n]=((at5 l a).c2,(at5 l e).c2):=h1.symm;rw[this]
    rw[hg] at he;dsimp only at he;obtain⟨pa,pe,q1,q2,_,_,q3⟩:=X.aux_sg ha aa ag;have ah:=X.tab.bnd ha;have ai:=X.tab.bnd aa;have al:=X.tab.bnd hw;obtain⟨ja,ab⟩:=X.par_ed ha q1;obtain⟨je,ac⟩:=X.par_ed aa q2;rcases he with⟨g1,g2⟩|⟨g1,g2⟩
    ·obtain rfl:a=w:=X.tab.num_inj ha hw oM;obtain rfl:pa=z:=by omega
     exact⟨e,pe,aa,g2,q2,fun k hk y hy=>(hs ja ab y hy).trans (q3 ja k ab hk y hy)⟩
    ·obtain rfl:e=w:=X.tab.num_inj aa hw oM;obtain rfl:pe=z:=by omega
     exact⟨a,pa,ha,g1,q1,fun k hk y hy=>(hs je ac y hy).trans (q3 k je hk ac y hy).symm⟩
  obtain⟨w,z,hw,h1,h2,h3⟩:=key _ hE;have ah:=X.tab.bnd hw;have ai:=X.tab.bnd hv;obtain rfl:w=v:=X.tab.num_inj hw hv oM;obtain rfl:z=q:=by omega
  exact h3 j hj
theorem deep (X:BcX N es ls lab fl r b tl l) {i:Nat} (hi:i<es.length) (hn:Aq es i):∃v u,Cu es i v u∧(at5 l u).c2<(at5 l v).c2∧max (at5 l (Ai es i).1.toNat).c2 (at5 l (Ai es i).2.toNat).c2=(at5 l v).c2:=by
 have h1:=Iz X.inn hi;unfold inE at h1;unfold Aq at hn;have hg:=Fw hi;have hx:(at5 l (Ai es i).1.toNat).c2≠(at5 l (Ai es i).2.toNat).c2:=fun h=>hn (by have:=X.tab.num_inj (u:=(Ai es i).1.toNat) (v:=(Ai es i).2.toNat) oM oM h;omega);by_cases aa:(at5 l (Ai es i).1.toNat).c2<(at5 l (Ai es i).2.toNat).c2
 ·exact⟨(Ai es i).2.toNat,(Ai es i).1.toNat,⟨hi,.inr ⟨by rw[hg],by rw[hg]⟩⟩,aa,oM⟩
 ·exact⟨(Ai es i).1.toNat,(Ai es i).2.toNat,⟨hi,.inl ⟨by rw[hg],by rw[hg]⟩⟩,oM,oM⟩
theorem E5 (X:BcX N es ls lab fl r b tl l) (hL:Ix N es fl l o) {i k v w x y:Nat} (hi:Cu es i v x) (hk:Cu es k w y) (hx:(at5 l x).c2<(at5 l v).c2) (hy:(at5 l y).c2<(at5 l w).c2):Sg N es ls i k↔EB es fl l o v w:=by
 obtain⟨hv,_⟩:=X.end_lt hi;obtain⟨hw,_⟩:=X.end_lt hk;obtain⟨p,p1,p2,p3⟩:=X.own hi (fun h=>by have:=h.1;omega);obtain⟨q,q1,q2,q3⟩:=X.own hk (fun h=>by have:=h.1;omega);obtain⟨j,hj⟩:=X.par_ed hv p1;obtain⟨n,hn⟩:=X.par_ed hw q1;have Q:=eqxB X hL;have s1:=p3 j hj;have s2:=q3 n hn;constructor
 ·intro hs;have aa:=X.tab.bnd hv;have ab:=X.tab.bnd hw;exact X.complete Q ((at5 l v).c2+(at5 l w).c2).toNat hv hw oM p1 q1 hj hn fun z hz=>(s1 z hz).symm.trans ((hs z hz).trans (s2 z hz))
 ·intro hE z hz;exact(s1 z hz).trans ((Q.sg hv hw hE p1 q1 j n hj hn z hz).trans (s2 z hz).symm)
theorem nD (X:BcX N es ls lab fl r b tl l) {z:T5}:z∈Fi l (edT es)↔∃i:Nat,i<es.length∧Aq es i∧z=⟨(i:Int),max (at5 l (Ai es i).1.toNat).c2 (at5 l (Ai es i).2.toNat).c2,0,0,0⟩:=by
 have hT:=X.tab;have aa:∀{i:Nat},i<es.length→lkV l (Ai es i).1 2=(at5 l (Ai es i).1.toNat).c2∧lkV l (Ai es i).2 2=(at5 l (Ai es i).2.toNat).c2:=fun {i} hi=>by have h1:=Iz X.inn hi;unfold inE at h1;have e1:=hT.look (v:=(Ai es i).1.toNat) oM 2;have e2:=hT.look (v:=(Ai es i).2.toNat) oM 2;rw[show(((Ai es i).1.toNat:Nat):Int)=(Ai es i).1 by omega] at e1;rw[show(((Ai es i).2.toNat:Nat):Int)=(Ai es i).2 by omega] at e2;exact⟨e1,e2⟩
 have hD:∀{t:T5},t∈(edT es).flatMap Eu↔∃i:Nat,i<es.length∧Aq es i∧t=⟨(i:Int),(Ai es i).1,(Ai es i).2,0,0⟩:=by
  intro t;rw[BZ];constructor
  ·rintro⟨s,hs,ht⟩;obtain⟨i,e,he,rfl⟩:=Qo hs;have hi:=(AK.1 he).1;have h2:=Ky hi;rw[he] at h2;obtain rfl:=BF h2;unfold Eu at ht;split at ht
   ·cases ht
   ·rename_i ab;rw[AX] at ht;exact⟨i,hi,ab,ht⟩
  ·rintro⟨i,hi,hn,rfl⟩;refine⟨_,A0 (Mo (Ky hi)),?_⟩;unfold Eu;rw[if_neg (show¬(Ai es i).1=(Ai es i).2 from hn)];exact AE
 unfold Fi;rw[AO];constructor
 ·rintro⟨t,ht,rfl⟩;obtain⟨s,hs,rfl⟩:=Re.1 ht;obtain⟨q,hq,rfl⟩:=Re.1 hs;obtain⟨i,hi,hn,rfl⟩:=hD.1 hq;refine⟨i,hi,hn,?_⟩;show(⟨(i:Int),max (lkV l (Ai es i).1 2) (lkV l (Ai es i).2 2),0,0,0⟩:T5)=_;rw[(aa hi).1,(aa hi).2]
 ·rintro⟨i,hi,hn,rfl⟩;refine⟨_,Re.2 ⟨_,Re.2 ⟨_,hD.2 ⟨i,hi,hn,rfl⟩,rfl⟩,rfl⟩,?_⟩;show(⟨(i:Int),max (lkV l (Ai es i).1 2) (lkV l (Ai es i).2 2),0,0,0⟩:T5)=_;rw[(aa hi).1,(aa hi).2]
theorem nE (X:BcX N es ls lab fl r b tl l) (hL:Ix N es fl l o) (hm:es.length≤1000000) {lab2:List Int} (h2:Ee (gE (peB es fl l o)) (fun i=>i<(peB es fl l o).length) N (-1) lab2) {z:T5}:z∈Gy l (edT es) (Bb lab2)↔∃i k:Nat,i<es.length∧k<es.length∧z=⟨(i:Int),(k:Int),0,0,0⟩∧Aq es i∧Aq es k∧Sg N es ls i k∧∀j,j<k→Aq es j→¬Sg N es ls i j:=by
 have ae:∀{i:Nat},i<es.length→Aq es i→∃x:Nat,lab2[(max (at5 l (Ai es i).1.toNat).c2 (at5 l (Ai es i).2.toNat).c2).toNat]? =some (x:Int)∧x<N:=fun {i} hi hn=>by obtain⟨v,u,hE,_,h4⟩:=deep X hi hn;have hb:=X.tab.bnd (X.end_lt hE).1;rw[h4];obtain⟨x,g1,g2,_⟩:=h2.root (v:=(at5 l v).c2.toNat) oM;exact⟨x,g1,oM⟩
 have ab:∀{i k:Nat},i<es.length→k<es.length→Aq es i→Aq es k→(lab2[(max (at5 l (Ai es i).1.toNat).c2 (at5 l (Ai es i).2.toNat).c2).toNat]? =lab2[(max (at5 l (Ai es k).1.toNat).c2 (at5 l (Ai es k).2.toNat).c2).toNat]?↔Sg N es ls i k):=by
  intro i k hi hk an aa;obtain⟨v,u,hE,ao,h4⟩:=deep X hi an;obtain⟨w,y,hF,ah,h5⟩:=deep X hk aa;have hb:=X.tab.bnd (X.end_lt hE).1;have a1:=X.tab.bnd (X.end_lt hF).1;rw[h4,h5,E5 X hL hE hF ao ah];constructor
  ·intro ai;obtain⟨x,g1,_,g2,_⟩:=h2.root (v:=(at5 l v).c2.toNat) oM;obtain⟨x',aq,_,au,_⟩:=h2.root (v:=(at5 l w).c2.toNat) oM;rw[g1,aq] at ai;obtain rfl:x=x':=by have:=BF ai;omega
   exact Cn.trans g2 (Cn.symm au)
  ·intro av;exact h2.same oM oM av
 have hf:∀{t:T5},t∈Cj 1 1 (Bb lab2) (Fi l (edT es))↔∃i x:Nat,i<es.length∧Aq es i∧lab2[(max (at5 l (Ai es i).1.toNat).c2 (at5 l (Ai es i).2.toNat).c2).toNat]? =some (x:Int)∧t=⟨(i:Int),(x:Int),0,0,0⟩:=by
  have aj:∀{i x:Nat},i<es.length→Aq es i→lab2[(max (at5 l (Ai es i).1.toNat).c2 (at5 l (Ai es i).2.toNat).c2).toNat]? =some (x:Int)→lkV (Bb lab2) (max (at5 l (Ai es i).1.toNat).c2 (at5 l (Ai es i).2.toNat).c2) 1=(x:Int):=fun {i x} hi hn hx=>by obtain⟨v,u,hE,_,h4⟩:=deep X hi hn;have hb:=X.tab.bnd (X.end_lt hE).1;have:=E3 hx;rwa[show(((max (at5 l (Ai es i).1.toNat).c2 (at5 l (Ai es i).2.toNat).c2).toNat:Nat):Int)=max (at5 l (Ai es i).1.toNat).c2 (at5 l (Ai es i).2.toNat).c2 by omega] at this
  intro t;rw[Re];constructor
  ·rintro⟨s,hs,rfl⟩;obtain⟨i,hi,hn,rfl⟩:=(nD X).1 hs;obtain⟨x,hx,_⟩:=ae hi hn;refine⟨i,x,hi,hn,hx,?_⟩;show(⟨(i:Int),lkV (Bb lab2) (max (at5 l (Ai es i).1.toNat).c2 (at5 l (Ai es i).2.toNat).c2) 1,0,0,0⟩:T5)=_;rw[aj hi hn hx]
  ·rintro⟨i,x,hi,hn,hx,rfl⟩;refine⟨_,(nD X).2 ⟨i,hi,hn,rfl⟩,?_⟩;show _=(⟨(i:Int),lkV (Bb lab2) (max (at5 l (Ai es i).1.toNat).c2 (at5 l (Ai es i).2.toNat).c2) 1,0,0,0⟩:T5)
   rw[aj hi hn hx]
 have aw:∀t∈(Cj 1 1 (Bb lab2) (Fi l (edT es))).map (fun t=>(⟨t.c1,t.c0,0,0,0⟩:T5)),okT 2 t:=by intro t ht;obtain⟨s,hs,rfl⟩:=AO.1 ht;obtain⟨i,x,hi,hn,hx,rfl⟩:=hf.1 hs;have h3:=ae hi hn;obtain⟨x',h4,h5⟩:=h3;rw[hx] at h4;have h6:=X.big;have:(x:Int)=(x':Int):=BF h4;exact Ht ⟨oD,oD⟩ ⟨oD,oD⟩
 have ac:∀{i x:Nat},i<es.length→Aq es i→lab2[(max (at5 l (Ai es i).1.toNat).c2 (at5 l (Ai es i).2.toNat).c2).toNat]? =some (x:Int)→∃k:Nat,lkV (Mr (Cj 1 1 (Bb lab2) (Fi l (edT es)))) (x:Int) 1=(k:Int)∧k<es.length∧Aq es k∧Sg N es ls i k∧∀j,j<k→Aq es j→¬Sg N es ls i j:=by intro i x hi hn hx;obtain⟨y,hy,ax,ag⟩:=kX (P:=(Cj 1 1 (Bb lab2) (Fi l (edT es))).map fun t=>(⟨t.c1,t.c0,0,0,0⟩:T5)) (k:=(x:Int)) ⟨_,AO.2 ⟨_,hf.2 ⟨i,x,hi,hn,hx,rfl⟩,rfl⟩,rfl⟩;obtain⟨s,hs,rfl⟩:=AO.1 hy;obtain⟨k,x',hk,aa,ay,rfl⟩:=hf.1 hs;dsimp only at ax ag;have az:x'=x:=oM;subst az;have ak:(⟨(x':Int),(k:Int),0,0,0⟩:T5)∈Mr (Cj 1 1 (Bb lab2) (Fi l (edT es))):=(jG aw).2 ⟨hy,fun w hw h=>ag w hw h⟩;refine⟨k,Jj (Pc _) ak rfl,hk,aa,(ab hi hk hn aa).1 (by rw[hx,ay]),fun j hj al a0=>?_⟩;have am:j<es.length:=oM;have h3:=(ab hi am hn al).2 a0;rw[hx] at h3;have:=ag _ (AO.2 ⟨_,hf.2 ⟨j,x',am,al,h3.symm,rfl⟩,rfl⟩) rfl;dsimp only at this;omega
 unfold Gy Ob;rw[(Bt _).mem_iff,Re];constructor
 ·rintro⟨t,ht,rfl⟩;obtain⟨i,x,hi,hn,hx,rfl⟩:=hf.1 ht;obtain⟨k,k1,k2,k3,k4,k5⟩:=ac hi hn hx;refine⟨i,k,hi,k2,?_,hn,k3,k4,k5⟩;show(⟨(i:Int),lkV (Mr (Cj 1 1 (Bb lab2) (Fi l (edT es)))) (x:Int) 1,0,0,0⟩:T5)=_;rw[k1]
 ·rintro⟨i,k,hi,hk,rfl,hn,aa,hs,ad⟩;obtain⟨x,hx,_⟩:=ae hi hn;obtain⟨k',k1,k2,k3,k4,k5⟩:=ac hi hn hx;obtain rfl:k=k':=by
   rcases B5 k k' with h|h|h
   ·exact absurd hs (k5 k h aa)
   ·exact h
   ·exact absurd k4 (ad k' h k3)
  refine⟨_,hf.2 ⟨i,x,hi,hn,hx,rfl⟩,?_⟩;show _=(⟨(i:Int),lkV (Mr (Cj 1 1 (Bb lab2) (Fi l (edT es)))) (x:Int) 1,0,0,0⟩:T5)
  rw[k1]
theorem nF (es:List IE) (la:List T5):(Gy l (edT es) la).Pairwise fun a c=>a.c0<c.c0:=by
 unfold Gy Ob;refine mV ?_;have aa:((Fi l (edT es)).map (·.c0)).Nodup:=by
  have h0:(((edT es).flatMap Eu).map (·.c0)).Nodup:=by
   have h1:((edT es).flatMap Eu).Pairwise fun a c=>a.c0<c.c0:=by
    rw[List.pairwise_flatMap];refine⟨fun t _=>by unfold Eu;split<;>simp,?_⟩;have h2:(edT es).Pairwise fun a c=>a.c0<c.c0:=by unfold edT;rw[A6];exact CV.imp fun h=>by dsimp only;omega
    refine h2.imp fun {a c} ab x hx y hy=>?_;unfold Eu at hx hy;split at hx
    ·cases hx
    ·split at hy
     ·cases hy
     ·rw[AX] at hx hy;subst hx hy;exact ab
   rw[List.Nodup,A6];exact h1.imp fun h=>by omega
  have h1:=(Rg (v:=2) (.inl rfl) l ((edT es).flatMap Eu)).nodup_iff.2 h0;have h2:=(Rg (v:=2) (.inr rfl) l (Cj 2 1 l ((edT es).flatMap Eu))).nodup_iff.2 h1;unfold Fi;rw[CH];exact h2
 have h1:=(Rg (v:=1) (.inl rfl) la (Fi l (edT es))).nodup_iff.2 aa;have h2:=(Rg (v:=1) (.inl rfl) (Mr (Cj 1 1 la (Fi l (edT es)))) (Cj 1 1 la (Fi l (edT es)))).nodup_iff.2 h1;rwa[List.Nodup,A6] at h2
end
theorem Ee.uniq {g:Nat→Ed} {S:Nat→Prop} {N:Nat} {l l':List Int} (h:Ee g S N (-1) l) (h':Ee g S N (-1) l'):l=l':=by
 apply DI;intro v;by_cases hv:v<N
 ·obtain⟨x,h1,h2,_,h3⟩:=h.at_ v hv oM;obtain⟨y,g1,g2,_,g3⟩:=h'.at_ v hv oM;have e1:=h3 y g2;have e2:=g3 x h2;rw[h1,g1,show x=y by omega]
 ·rw[BW (by rw[h.len];omega),BW (by rw[h'.len];omega)]
theorem dD (g:Nat→Ed) (S:Nat→Prop) (N:Nat) (w:Int):∃lab,Ee g S N w lab:=by
 have aa:∀v:Nat,∃m,m≤v∧Cn g S v m∧∀k,k<m→¬Cn g S v k:=fun v=>Us (p:=fun m=>Cn g S v m) (n:=v) (.refl _);have ab:∃f:Nat→Nat,∀v,f v≤v∧Cn g S v (f v)∧∀k,k<f v→¬Cn g S v k:=⟨fun v=>Classical.choose (aa v),fun v=>Classical.choose_spec (aa v)⟩
 obtain⟨f,hf⟩:=ab;refine⟨(BA N).map fun (v:Nat)=>if(v:Int)=w then-1 else(f v:Int),⟨by simp,fun v hv hw=>?_,fun v hv hw=>?_⟩⟩
 ·obtain⟨h1,h2,h3⟩:=hf v;refine⟨f v,?_,h2,h1,fun u hu=>BS fun hn=>h3 u oM hu⟩;rw[BH,CK hv];simp[hw]
 ·rw[BH,CK hv];simp[hw]
theorem dF (N:Nat) (es:List IE):∃ls,Kx N es ls:=by
 have aa:∃f:Nat→List Int,∀v:Nat,Ee (gE es) (Ey es [] v) N v (f v):=⟨fun v=>Classical.choose (dD (gE es) (Ey es [] v) N v),fun v=>Classical.choose_spec (dD (gE es) (Ey es [] v) N v)⟩
 obtain⟨f,hf⟩:=aa;refine⟨(BA N).map f,⟨by simp,fun v l hl=>?_⟩⟩;rw[BH] at hl;by_cases hv:v<N
 ·rw[CK hv] at hl;simp only[Option.map_some,BG] at hl;subst hl;exact hf v
 ·rw[BW oA16] at hl;simp at hl
section
variable {N:Nat} {es:List IE} {ls:List (List Int)} {lab:List Int} {fl:List Bool} {r b:List T5} {tl:List (Nat×Fo)} {l o:List T5}
theorem prs_ok (X:BcX N es ls lab fl r b tl l) (hL:Ix N es fl l o):Ij N (Kk l (Ba (edT es) fl) (edT es) o):=by show Ij N (jnF 0 (prB es fl l o));obtain⟨h1,h2⟩:=dC (prB es fl l o) 0;refine⟨fun t ht=>?_,h1.imp fun h=>by omega⟩;obtain⟨s,hs,e1,e2⟩:=nB ht;obtain⟨u,v,hu,hv,_,rfl⟩:=nC X hL hs;have:=h2 t ht;have aa:=X.tab.bnd hu;have ab:=X.tab.bnd hv;dsimp only at e1 e2;unfold Fp;omega
theorem E6 (es:List IE) (fl:List Bool) (l o:List T5) {lab2:List Int} (h2:Ee (gE (peB es fl l o)) (fun i=>i<(peB es fl l o).length) N (-1) lab2) {x y:List T5} (h:Ny N (Kk l (Ba (edT es) fl) (edT es) o) x y):x=Bb lab2:=by
 obtain⟨sl,gl,lb,h3,h4,h5,_,rfl,_⟩:=h;have h3:sl.Perm (jnF 0 (prB es fl l o)):=h3;have h6:sl=jnF 0 (prB es fl l o):=by
  obtain⟨h7,_⟩:=dC (prB es fl l o) 0;have h8:sl.Pairwise fun a c=>a.c0≠c.c0:=(h3.pairwise_iff (R:=fun a c:T5=>a.c0≠c.c0) (fun hh=>fun e=>hh e.symm)).2 (h7.imp fun h=>by omega);have h9:sl.Pairwise fun a c=>a.c0<c.c0:=(h4.and h8).imp fun {a c} ⟨h,g⟩=>by omega
  exact cZ h9 h7 fun z=>h3.mem_iff
 subst h6;rw[nA,Qw] at h5;have h7:(prB es fl l o).length=(peB es fl l o).length:=by unfold peB;rw[AQ]
 rw[h7] at h5;rw[h5.uniq h2]
theorem E7 (hT:Ao N es lab b tl l) (es':List IE) (fl:List Bool) (o:List T5):(Kk l (Ba (edT es') fl) (edT es') o).length≤es'.length+N:=by have h1:=Xr (Gp l (Ba (edT es') fl) (edT es')) (upF l);have h2:=jN l (Ba (edT es') fl) (edT es');have h3:=Xu (upF l) o;have h4:=Xt (upF l) o;have h5:=Xq l;have h6:=hT.len;rw[Mm] at h2;unfold Kk;rw[Qw,AH];omega
end
theorem E8 (N:Nat) (es:List IE) (lab:List Int) (fl:List Bool) (r b:List T5) (tl:List (Nat×Fo)) (l:List T5) (hP:Av N es lab fl r b) (hf:∀e∈es,inE N e) (h:Ao N es lab b tl l) (hN:N≤1000) (pa:Option Addr) (ai:Nat) (ca:Aa) (be:RV pa N (Bb lab) ca) (pb:Option Addr) (m ah:Nat) (cb:Aa) (aw:RV pb m b cb) (hm:m≤1000000):Ct AC 45 [.slice pa N ai,.slice pb m ah] [ca,cb] fun v H'=>∃bo,v= .slice (some ⟨bo,0,none⟩) N N∧H'=[ca,cb,[(bo,row (l.flatMap Ak) 33)]]:=by
 have b3:b.length=m:=aw.1;have b4:=h.tlo.len;refine cG func45 fun _=>?_;repeat(refine sA ?_;intros)
 rename_i bo;rw[cB];refine G.loop (X:=RtX) (fun s=>Jq N tl s) (fun s=>[(7,Z9 Z8 s.v),(6,Z9 Z8 s.n),(5,.slice (some ⟨bo,0,none⟩) N N),(0,.slice pa N ai),(1,.slice pb m ah)])
  (fun s=>[[(bo,row (s.o.flatMap Ak) 33)],ca,cb]) (fun s=>N-s.v) ⟨0,0,[],tl,BX N T5.zero⟩ ⟨AT _,rfl,by simp,fun y _=>AT _,Ao.wstart N tl,rfl⟩ (body:=?_)
 rintro⟨v,n,tl1,tl2,o⟩ hs;have hv:=hs.v;have an:=hs.w.len;dsimp only at hv an⊢;by_cases ax:v<N
 ·have ay:lab[v]? =some lab[v]:=AG oM;have aj:=fun az=>hs.skip h ax ay az;have ad:=hs.root h;obtain⟨b0,off,cs,T0,fz,rfl,rfl,_,a3⟩:=(RV.rw be).pos Ds oM;have q1:cs[off+v*5+1]? =some (Z9 Z8 (at5 (Bb lab) v).c1):=a3 v 1 _ _ (Dy (by rw[kF];omega)) rfl;rw[Sw ay] at q1;dsimp only at aj ad;rw[ay] at ad;generalize lab[v]=x at*;by_cases hx:x=(v:Int)
  rotate_left
  ·repeat(refine sA ?_;intros)
   refine Dn.round ⟨v+1,n,tl1,tl2,o⟩ (aj hx) oD
  obtain⟨T,t2,rfl⟩:=ad (by rw[hx]);obtain⟨a4,a0,a1⟩:=hs.tell h oM rfl;have hn:=hs.n;dsimp only at a4 a0 a1 hn;rw[←hn] at a4 a0 a1;have av:=tset o v ⟨(v:Int),-1,(n:Int),0,0⟩ oM;have a5:=Kt Ds o;have a6:(v+1)*5≤o.length*5:=BD _ oM;dsimp only at av;have e1:AL .i64 ((n:Int)+1)=((n+1:Nat):Int):=Ah oM;repeat(refine sA ?_;intros)
  refine G.loop (X:=RuX) (fun q=>q.i≤m∧q.n=Es (vsT tl1++Iy (v,T)::Gq b v q.i)∧Wrt N (Et tl) q.n q.o)
   (fun q=>[(8,Z9 Z8 q.i),(7,Z9 Z8 v),(6,Z9 Z8 q.n),(5,.slice (some ⟨bo,0,none⟩) N N),(0,.slice (some ⟨b0,off,none⟩) N ai),(1,.slice pb m ah)])
   (fun q=>[[(bo,row (q.o.flatMap Ak) 33)],[(b0,Al cs T0 fz)],cb]) (fun q=>m-q.i) ⟨0,n+1,o.set v ⟨(v:Int),-1,(n:Int),0,0⟩⟩ ⟨AT _,a0.symm,a1⟩ (body:=?_)
  rintro⟨i,n2,o2⟩ ⟨hi,ak,ae⟩;dsimp only at hi ak ae⊢;have bi:=ae.len;by_cases ac:i<m
  ·have al:b[i]? =some (at5 b i):=Dy oM;have hMe:=xP pb m ah b cb aw hm i ac;have aa:=fun ao=>hs.tell2 hP hf h oM rfl al ao;have a7:=fun az=>xQ (x:=v) al az;obtain⟨b2,am,aq,T2,b5,rfl,rfl,_,ag⟩:=(RV.rw aw).pos Ds oM;have r1:aq[am+i*5+1]? =some (Z9 Z8 (at5 b i).c1):=ag i 1 _ _ al rfl;have r2:aq[am+i*5+2]? =some (Z9 Z8 (at5 b i).c2):=ag i 2 _ _ al rfl;have r3:aq[am+i*5+3]? =some (Z9 Z8 (at5 b i).c3):=ag i 3 _ _ al rfl;dsimp only at aa;rw[←ak] at aa;by_cases ao:(at5 b i).c3=(v:Int)
   ·replace aa:=aa ao;generalize (at5 b i).c1=z1 at*;generalize (at5 b i).c2=z2 at*;generalize (at5 b i).c3=z3 at*;rcases aa with⟨h1,h2⟩|⟨h1,h2,h3,h4,h5⟩
    ·cases hmb:Kv b i with
     |true=>
      rw[hmb] at hMe;repeat(refine sA ?_;intros)
      refine Dn.round ⟨i+1,n2,o2⟩ ⟨ac,h2.symm,ae⟩ oD
     |false=>
      rw[hmb] at hMe h1;have h6:z2=(v:Int):=by simpa using h1
      repeat(refine sA ?_;intros)
      refine Dn.round ⟨i+1,n2,o2⟩ ⟨ac,h2.symm,ae⟩ oD
    ·rw[h1] at hMe;obtain⟨to,fr,d,g1,g2,rfl,rfl,g5,g6,g7,g8⟩:=h5 o2 ae;have a2:=tset o2 to ⟨(to:Int),(fr:Int),(n2:Int),0,d+1⟩ oM;have bk:=Kt Ds o2;have bp:(to+1)*5≤o2.length*5:=BD _ oM;have bf:(o2.flatMap Ak)[fr*5+4]? =some (Z9 Z8 (at5 o2 fr).c4):=Qt (Dy oM) rfl;rw[g5] at bf;dsimp only at a2;have e2:AL .i64 ((n2:Int)+1)=((n2+1:Nat):Int):=Ah oM;have e3:AL .i64 (d+1)=d+1:=Ah oM;repeat(refine sA ?_;intros)
     refine Dn.round ⟨i+1,n2+1,o2.set to ⟨(to:Int),(fr:Int),(n2:Int),0,d+1⟩⟩ ⟨ac,h3.symm,g8⟩ oD
   ·have h6:=a7 ao;generalize (at5 b i).c1=z1 at*;generalize (at5 b i).c2=z2 at*;generalize (at5 b i).c3=z3 at*;repeat(refine sA ?_;intros)
    refine Dn.round ⟨i+1,n2,o2⟩ ⟨ac,by rw[h6];exact ak,ae⟩ oD
  ·obtain rfl:i=m:=by omega
   have hd:=hs.done h ax rfl (o:=o2) (m:=i) oM (by rw[←ak];exact ae);dsimp only at hd;rw[←ak] at hd;repeat(refine sA ?_;intros)
   refine Dn.round ⟨v+1,n2,tl1++[(v,T)],t2,o2⟩ hd oD
 obtain rfl:v=N:=by omega
 obtain rfl:=hs.end_ h oM rfl;clear hs an ax;repeat(refine sA ?_;intros)
 refine G.loop (X:=RwX) (fun s=>s.u≤v∧s.dn.Perm ((BA s.u).flatMap (Ao.wayF tl))) (fun s=>[(11,Z9 Z8 s.u),(5,.slice (some ⟨bo,0,none⟩) v v)])
  (fun s=>[[(bo,row ((Ao.outC v l s.dn).flatMap Ak) 33)],ca,cb]) (fun s=>v-s.u) ⟨0,[]⟩ ⟨AT _,.refl _⟩ (body:=?_)
 rintro⟨u,dn⟩ ⟨hu,au⟩;dsimp only at hu au⊢;by_cases a8:u<v;rotate_left
 ·obtain rfl:u=v:=by omega
  rw[h.outC_end au];repeat(refine sA ?_;intros)
  (refine dP [ca,cb,[(bo,row (l.flatMap Ak) 33)]] ?_;exact⟨bo,rfl,rfl⟩)
 obtain⟨hw,bg,ab,_⟩:=h.way_is a8;have b6:=Ao.flat_le (Ao.wayF tl) v (u+1) fun w hw=>(h.way_is (show w<v by omega)).2.1;have bq:(u+1)*v≤1000*1000:=Nat.mul_le_mul oM oM;repeat(refine sA ?_;intros)
 refine G.loop (X:=RfX) (fun q=>Way (fun x=>(at5 l x.toNat).c1) q.k q.rest∧(∀w∈q.rest,w<(v:Int))∧(q.rest++q.dn).Perm ((BA (u+1)).flatMap (Ao.wayF tl)))
  (fun q=>[(12,Z9 Z8 q.k),(11,Z9 Z8 u),(5,.slice (some ⟨bo,0,none⟩) v v)]) (fun q=>[[(bo,row ((Ao.outC v l q.dn).flatMap Ak) 33)],ca,cb]) (fun q=>q.rest.length) ⟨u,Ao.wayF tl u,dn⟩
  ⟨hw,ab,by
   rw[List.range_succ,List.flatMap_append];simp only[BC,List.flatMap_nil,AP];exact(CD).trans (au.append_right _)⟩ (body:=?_)
 clear hw ab bg au;rintro⟨k,rest,dn⟩ ⟨hw,ab,hp⟩;dsimp only at hw ab hp⊢;cases hw with
 |top bu=>
  have b7:¬0≤k:=oM;repeat(refine sA ?_;intros)
  refine Dn.round ⟨u+1,dn⟩ ⟨a8,by simpa using hp⟩ oD
 | @up _ ch bv hw=>
  have b8:=ab k AE;obtain⟨q,rfl⟩:∃q:Nat,k=(q:Int):=⟨k.toNat,oM⟩
  have hq:q<v:=oM;have a9:=hp.length_eq;have bz:=List.count_le_length (a:=(q:Int)) (l:=dn);rw[AH,AJ] at a9;have g0:=Ao.outC_get (l:=l) (dn:=dn) hq;have r3:=Qt (j:=3) g0 rfl;have av:=(tset3 g0 (((dn.count (q:Int):Nat):Int)+1)).trans (congrArg (List.flatMap Ak) (Ao.outC_set (l:=l) (dn:=dn) hq rfl));have g1:=Ao.outC_get (l:=l) (dn:=(q:Int)::dn) hq;have r1:=Qt (j:=1) g1 rfl;have a5:=Kt Ds (Ao.outC v l dn);have an:(Ao.outC v l dn).length=v:=by unfold Ao.outC;simp
  have a6:(q+1)*5≤v*5:=BD _ oM;have bh:(ch++(q:Int)::dn).Perm ((BA (u+1)).flatMap (Ao.wayF tl)):=List.perm_middle.trans hp;rw[AU] at hw;rw[an] at a5;generalize b9:(Ao.outC v l dn).flatMap Ak=cs at*;generalize bc:(Ao.outC v l ((q:Int)::dn)).flatMap Ak=aq at*;generalize dn.count (q:Int)=cn at*;have e1:AL .i64 ((cn:Int)+1)=(cn:Int)+1:=Ah oM;generalize hz:(at5 l q).c1=z1 at*;repeat(refine sA ?_;intros)
  rw[←bc];refine Dn.round ⟨z1,ch,(q:Int)::dn⟩ ⟨hw,fun w hw=>ab w (AF _ hw),bh⟩ (by dsimp only[AJ];omega)
theorem RV.row {bo N:Nat} {l:List T5} (h:l.length=N):RV (some ⟨bo,0,none⟩) N l [(bo,row (l.flatMap Ak) 33)]:=
 Rw.rv ⟨h,.inr ⟨bo,0,l.flatMap Ak,33,(0,0),rfl,rfl,by rw[DL,A5 (by rw[Kt Ds,h];exact AI _)]⟩⟩
structure OfX where
 i:Nat
 p:Option Addr
 cap:Nat
 ch:Aa
structure OfOk (N:Nat) (es:List IE) (pe:Option Addr) (ce:Aa) (pl:Option Addr) (cl:Aa) (pf:Option Addr) (nf:Nat) (cf:Aa) (pt:Option Addr) (nt:Nat) (ct:Aa) (po:Option Addr) (co:Aa) (lab:List Int) (fl:List Bool) (r b:List T5) (tl:List (Nat×Fo)) (l:List T5):Prop where
 e:RV pe es.length (edT es) ce
 la:RV pl N (Bb lab) cl
 f:RV pf nf (Ba (edT es) fl) cf
 t:RV pt nt b ct
 o:RV po N l co
 parts:Av N es lab fl r b
 tab:Ao N es lab b tl l
 lis:Ni (Bb lab) b=l
theorem Of19ct (N:Nat) (hN:N≤1000) (p:Option Addr) (m cap:Nat) (es:List IE) (c:Aa) (hv:Rw ecl 2 p m es c) (hm:m≤1000) (hf:∀e∈es,inE N e):Ct AC 18 [gv N p m cap] [c] fun v H'=>∃pe ke ce pl kl cl pf nf kf cf pt nt kt ct po ko co lab fl r b tl l,v= .agg #[.slice pe m ke,.slice pl N kl,.slice pf nf kf,.slice pt nt kt,.slice po N ko]∧H'=[c,ce,cl,cf,ct,co]∧OfOk N es pe ce pl cl pf nf cf pt nt ct po co lab fl r b tl l:=by
 have hl:=hv.1;unfold gv;refine cG func18 fun _=>?_;repeat(refine sA ?_;intros)
 rename_i b1 b2 b3;refine G.loop (X:=OfX) (fun x=>x.i≤m∧Vec 33 5 x.p x.i x.cap (flat ((edT es).take x.i)) x.ch)
  (fun x=>[(4,Z9 Z8 x.i),(3,pv b3),(2,pv b2),(1,pv b1)])
  (fun x=>[x.ch,[(b3,row [.slice x.p x.i x.cap,.slice none 0 0,.slice none 0 0,.slice none 0 0,.slice none 0 0] 30)],[(b2,row [.slice none 0 0,.slice none 0 0,.slice none 0 0,.slice none 0 0,.slice none 0 0] 30)],[(b1,row [Z9 Z8 N,.slice p m cap] 24)],c]) (fun x=>m-x.i) ⟨0,none,0,[]⟩ ⟨AT _,Vec.nil _ _⟩ oA7 oA3 ?_
 rintro⟨i,q,qc,ch⟩ ⟨hi,hV⟩;dsimp only at hi hV⊢;by_cases am:i<m
 ·obtain⟨b,off,cs,T,fz,rfl,rfl,_,ad⟩:=hv.pos Iw oM;have ah:es[i]? =some es[i]:=AG oM;have q0:=ad i 0 _ _ ah rfl;have q1:=ad i 1 _ _ ah rfl;rw[B6] at q0;have an:=wW ah;generalize es[i]=e at*;have a0:i+1≤maxLen:=by simp only[maxLen];omega
  have ao:flat ((edT es).take (i+1))=flat ((edT es).take i)++[Z9 Z8 i,Z9 Z8 e.1,Z9 Z8 e.2,Z9 Z8 0,Z9 Z8 0]:=by rw[an,flat_append];rfl
  repeat(refine sA ?_;intros)
  rename_i p' ae c' aq;have au:Vec 33 5 p' (i+1) ae (flat ((edT es).take (i+1))) c':=by rw[ao];exact aq
  refine Dn.round ⟨i+1,p',ae,c'⟩ ⟨am,au⟩ oD
 obtain rfl:i=m:=by omega
 rw[A5 (by rw[Mm];omega)] at hV;have hC:=wH N oM q i qc (edT es) ch (RV.vec hV) oM (edT_ok hf);repeat(refine sA ?_;intros)
 refine cL hC ?_;rintro _ _ ⟨pa,na,ka,ca,pf,nf,kf,cf,a,f,rfl,rfl,ab,ai,a1,aj⟩;try dsimp only[AA,AB]
 obtain⟨lab,fl,rfl,rfl,ag,av⟩:=aj.parts;have aw:na=N:=by have h1:=ab.1;have h2:=ag.len;unfold Bb at h1;rw[AQ,List.length_range] at h1;omega
 subst aw;have hT:=wU pa na ka (Bb lab) ca ab pf nf kf (Ba (edT es) fl) cf ai oM oM (by
  intro t ht;obtain⟨t',ax,rfl⟩:=wX ht;obtain⟨j,e,he,rfl⟩:=Qo ax;have h1:=hf e (A0 he);have h2:=(AK.1 he).1;unfold inE at h1;dsimp only;omega) (((Pi es).map _ (fun a b h=>by omega:∀a b:T5,a.c0<b.c0→a.c0≠b.c0)).sublist (Qp _ _))
 repeat(refine sA ?_;intros)
 refine cL hT ?_;rintro _ _ ⟨pt,nt,kt,ct,r,rfl,rfl,a2,ak,hA,ay⟩;try dsimp only[AA,AB]
 have ac:Av na es lab fl r (Ke r):=⟨ag,av,hA,by rw[ay,ai.1],rfl⟩
 obtain⟨tl,_,aa⟩:=ac.tab hf oM;have az:=E8 na es lab fl r _ tl _ ac hf aa oM pa ka ca ab pt nt kt ct (RV.vec ak) (by have:=ac.b_len hf oM;omega);generalize al:Ni (Bb lab) (Ke r)=l at*;repeat(refine sA ?_;intros)
 refine cL az ?_;rintro _ _ ⟨bo,rfl,rfl⟩;repeat(refine sA ?_;intros)
 (refine dP [c,ch,ca,cf,ct,[(bo,row (l.flatMap Ak) 33)]] ?_;exact⟨q,qc,ch,pa,ka,ca,pf,nf,kf,cf,pt,nt,kt,ct,_,_,_,lab,fl,r,_,tl,l,rfl,rfl,⟨by rw[hl];exact RV.vec hV,ab,ai,RV.vec ak,RV.row aa.len,ac,aa,al⟩⟩)
theorem In19ct (p0:Option Addr) (n0 k0:Nat) (p1:Option Addr) (n1 k1:Nat) (p:Option Addr) (m cap:Nat) (p3:Option Addr) (n3 k3:Nat) (p4:Option Addr) (n4 k4:Nat) (ts:List T5) (c:Aa) (hv:RV p m ts c) (hm:m≤1000000) (x:Int):CtQ AC 164 [.agg #[.slice p0 n0 k0,.slice p1 n1 k1,.slice p m cap,.slice p3 n3 k3,.slice p4 n4 k4],Z9 Z8 x] [c] (.bool (ts.any fun t=>decide (t.c0=x))):=by
 have hl:=hv.1;refine cG func164 fun _=>?_;repeat(refine sA ?_;intros)
 rename_i b2;refine G.loop (X:=Nat) (fun i=>i≤m∧(ts.take i).any (fun t=>decide (t.c0=x))=false) (fun i=>[(5,Z9 Z8 i),(2,pv b2),(1,Z9 Z8 x)])
  (fun _=>[[(b2,row [.slice p0 n0 k0,.slice p1 n1 k1,.slice p m cap,.slice p3 n3 k3,.slice p4 n4 k4] 30)],c]) (fun i=>m-i) 0 ⟨AT _,rfl⟩ (body:=?_)
 rintro i ⟨hi,aa⟩;by_cases ae:i<m
 ·obtain⟨b,off,cs,T,fz,rfl,rfl,_,ac⟩:=(RV.rw hv).pos Ds oM;have ab:ts[i]? =some ts[i]:=AG oM;have q0:=ac i 0 _ _ ab rfl;rw[B6] at q0;have ag:ts.take (i+1)=ts.take i++[ts[i]]:=by rw[BP,ab];rfl
  have ad:ts[i]∈ts:=A0 ab;generalize ts[i]=t at*;by_cases hx:t.c0=x
  ·have hb:(ts.any fun t=>decide (t.c0=x))=true:=by rw[List.any_eq_true];exact⟨t,ad,decide_eq_true hx⟩
   rw[hb];repeat(refine sA ?_;intros)
   (refine dP [[(b,Al cs T fz)]] ?_;exact⟨rfl,rfl⟩)
  ·repeat(refine sA ?_;intros)
   refine Dn.round (i+1) ⟨ae,by rw[ag,List.any_append,aa];simp[hx]⟩ oM
 ·obtain rfl:i=m:=by omega
  rw[A5 oM] at aa;rw[aa];repeat(refine sA ?_;intros)
  (refine dP [c] ?_;exact⟨rfl,rfl⟩)
structure B9X where
 n:Nat
 v:Int
 ch:List Int
theorem E9 (p0:Option Addr) (n0 k0:Nat) (p1:Option Addr) (n1 k1:Nat) (p2:Option Addr) (n2 k2:Nat) (p3:Option Addr) (n3 k3:Nat) (p:Option Addr) (m cap:Nat) (ts:List T5) (c:Aa) (hv:RV p m ts c) (aj:0<m) (hm:m≤1000000) (u:Int) (v0:Int) (aa:List Int) (ac:Way (fun x=>(at5 ts x.toNat).c1) v0 aa) (ag:aa.length≤m) (ad:∀w∈aa,w<m) (bb:Bool) (ae:bb=decide (u∈aa)):CtQ AC 24 [.agg #[.slice p0 n0 k0,.slice p1 n1 k1,.slice p2 n2 k2,.slice p3 n3 k3,.slice p m cap],Z9 Z8 v0,Z9 Z8 u] [c] (.bool bb):=by
 subst ae;have hl:=hv.1;obtain⟨b,off,cs,T,fz,rfl,rfl,_,ab⟩:=(RV.rw hv).pos Ds oM;have hg:∀j,j<m→cs[off+j*5+1]? =some (Z9 Z8 (at5 ts j).c1):=fun j hj=>ab j 1 _ _ (Dy oM) rfl;refine cG func24 fun w0=>?_;repeat(refine sA ?_;intros)
 rename_i b3;refine G.loop (X:=B9X) (fun s=>Way (fun x=>(at5 ts x.toNat).c1) s.v s.ch∧s.ch.length+s.n≤m∧(∀w∈s.ch,w<m)∧(u∈aa↔u∈s.ch))
  (fun s=>[(3,pv b3),(1,Z9 Z8 s.v),(2,Z9 Z8 u)])
  (fun _=>[[(b3,row [.slice p0 n0 k0,.slice p1 n1 k1,.slice p2 n2 k2,.slice p3 n3 k3,.slice (some ⟨b,off,none⟩) m cap] 30)],[(b,Al cs T fz)]]) (fun s=>m-s.n) ⟨0,v0,aa⟩ ⟨ac,oD,ad,Iff.rfl⟩ (body:=?_)
 rintro⟨n,v,ch⟩ ⟨hw,h1,h2,h3⟩;dsimp only at hw h1 h2 h3⊢;cases hw with
 |top ah=>
  have hb:decide (u∈aa)=false:=decide_eq_false (by rw[h3];simp);have ak:¬0≤v:=oM;rw[hb];repeat(refine sA ?_;intros)
  (refine dP [[(b,Al cs T fz)]] ?_;exact⟨rfl,rfl⟩)
 | @up _ ch ai hw=>
  simp only[AJ] at h1;have al:=h2 v AE;obtain⟨k,rfl⟩:∃k:Nat,v=(k:Int):=⟨v.toNat,oM⟩
  have hq:=hg k oM;rw[AU] at hw;by_cases he:(k:Int)=u
  ·have hb:decide (u∈aa)=true:=decide_eq_true (by rw[h3,he];exact AE);rw[hb];repeat(refine sA ?_;intros)
   (refine dP [[(b,Al cs T fz)]] ?_;exact⟨rfl,rfl⟩)
  ·repeat(refine sA ?_;intros)
   refine Dn.round ⟨n+1,(at5 ts k).c1,ch⟩ ⟨hw,oD,fun w hw=>h2 w (AF _ hw),?_⟩ oD;rw[h3,AN];dsimp only;exact⟨fun h=>h.resolve_left fun hq=>he hq.symm,.inr⟩
end Go.Proofs.YtaofijjjheiknaaGreat
namespace Go.SL
section
variable {P:Program} {ops:Array Oper} {Q:Exit→Act→World→Prop} {cls:Nat→Oper→Cls} {w0:World} {S:List Nat} {n:Nat} {l:List (Nat×Oper)} {L:Be} {D:List Deferred} {H:Hp} {qs:List Rd} {k d T yT:Nat} {x y z:Operand} {ty:TypeId} {pos:String} {af:Array Edge} {g:Option (Nat×Bool)}
theorem R.max3 {aT:Array TypeId} {ka kb kc:IntKind} {a b c:Int} (hx:ev L x=some (.int ka a)) (hy:ev L y=some (.int kb b)) (hz:ev L z=some (.int kc c)) (hc:cls k ⟨some d,.call ⟨.builtin .max,#[x,y,z],aT⟩,ty,pos,af,g⟩= .pure) (hn:d<n) (h:R P ops Q cls w0 S n l ((d,.int ka (Max.max (Max.max a b) c))::L) D H qs):R1 P ops Q cls w0 S n k ⟨some d,.call ⟨.builtin .max,#[x,y,z],aT⟩,ty,pos,af,g⟩ l L D H qs:=
 R1.pureStep hc rfl hn (fun a hf w=>by simp[execOp,resolve,Go.invoke,Go.builtin,hf.eval hx,hf.eval hy,hf.eval hz,Builtin.max_,Builtin.max2];omega) h
theorem R.min3 {aT:Array TypeId} {ka kb kc:IntKind} {a b c:Int} (hx:ev L x=some (.int ka a)) (hy:ev L y=some (.int kb b)) (hz:ev L z=some (.int kc c)) (hc:cls k ⟨some d,.call ⟨.builtin .min,#[x,y,z],aT⟩,ty,pos,af,g⟩= .pure) (hn:d<n) (h:R P ops Q cls w0 S n l ((d,.int ka (Min.min (Min.min a b) c))::L) D H qs):R1 P ops Q cls w0 S n k ⟨some d,.call ⟨.builtin .min,#[x,y,z],aT⟩,ty,pos,af,g⟩ l L D H qs:=
 R1.pureStep hc rfl hn (fun a hf w=>by simp[execOp,resolve,Go.invoke,Go.builtin,hf.eval hx,hf.eval hy,hf.eval hz,Builtin.min_,Builtin.min2];omega) h
end
end Go.SL
namespace Go.Proofs.YtaofijjjheiknaaGreat
open Go.SL Go.Tup Go.Gr Go.Srt
def Rh (es:List IE) (fl:List Bool) (i u w:Nat):Prop:=∃e,es[i]? =some e∧fl[i]? =some false∧((e.1=(u:Int)∧e.2=(w:Int))∨(e.1=(w:Int)∧e.2=(u:Int)))
theorem Adj.i {es:List IE} {fl:List Bool} {u w:Nat} (h:Adj es fl u w):∃i,i<es.length∧Rh es fl i u w:=by obtain⟨i,e,h1,h2,h3⟩:=h;exact⟨i,(AK.1 h1).1,e,h1,h2,h3⟩
section
variable {N:Nat} {es:List IE} {fl:List Bool} {l:List T5}
structure Gz (N:Nat) (es:List IE) (fl:List Bool) (l:List T5) (u v i:Nat) (x:Int):Prop where
 out:Out N es fl l u x
 own:x≤(at5 l u).c2
 le:∀v' j w,w<N→Sub l u v'→Rh es fl j v' w→(v'<v∨(v'=v∧j<i))→x≤(at5 l w).c2
structure Fx (N:Nat) (es:List IE) (fl:List Bool) (l:List T5) (u v i q:Nat) (x:Int):Prop where
 out:Out N es fl l u x
 own:∀v',v'<N→Sub l u v'→v'<q→(at5 l v').c2≤x
 le:∀v' j w,w<N→Sub l u v'→Rh es fl j v' w→(v'<v∨(v'=v∧j<i))→(at5 l w).c2≤x
theorem Gz.start {u:Nat} (hu:u<N) (h:1≤(at5 l u).c3):Gz N es fl l u 0 0 (at5 l u).c2:=⟨⟨u,hu,Sub.refl h,.inl rfl⟩,Int.le_refl _,fun _ _ _ _ _ _ h=>by omega⟩
theorem Fx.start {u:Nat} (hu:u<N) (h:1≤(at5 l u).c3):Fx N es fl l u 0 0 0 (at5 l u).c2:=⟨⟨u,hu,Sub.refl h,.inl rfl⟩,fun _ _ _ h=>by omega,fun _ _ _ _ _ _ h=>by omega⟩
theorem Gz.pass {u v:Nat} {x:Int} (h:Gz N es fl l u v 0 x) (hn:¬Sub l u v):Gz N es fl l u (v+1) 0 x:=
 ⟨h.out,h.own,fun v' j w hw hs ha hc=>h.le v' j w hw hs ha (by
  have:v'≠v:=fun he=>hn (he▸hs);omega)⟩
theorem Fx.pass {u v:Nat} {x:Int} (h:Fx N es fl l u v 0 v x) (hn:¬Sub l u v):Fx N es fl l u (v+1) 0 (v+1) x:=
 ⟨h.out,fun v' hv hs hc=>h.own v' hv hs (by
  have:v'≠v:=fun he=>hn (he▸hs);omega),fun v' j w hw hs ha hc=>h.le v' j w hw hs ha (by
  have:v'≠v:=fun he=>hn (he▸hs);omega)⟩
theorem Fx.at_ {u v:Nat} {x:Int} (h:Fx N es fl l u v 0 v x) (hv:v<N) (hs:Sub l u v):Fx N es fl l u v 0 (v+1) (max x (at5 l v).c2):=by
 refine⟨?_,fun v' ab aa hc=>?_,fun v' j w hw aa ha hc=>?_⟩
 ·by_cases hx:x≤(at5 l v).c2
  ·rw[show max x (at5 l v).c2=(at5 l v).c2 by omega];exact⟨v,hv,hs,.inl rfl⟩
  ·rw[show max x (at5 l v).c2=x by omega];exact h.out
 ·by_cases he:v'=v
  ·subst he;omega
  ·have:=h.own v' ab aa oM;omega
 ·have:=h.le v' j w hw aa ha hc;omega
theorem Gz.skip {u v i:Nat} {x:Int} (h:Gz N es fl l u v i x) (hn:∀w,w<N→¬Rh es fl i v w):Gz N es fl l u v (i+1) x:=
 ⟨h.out,h.own,fun v' j w hw hs ha hc=>h.le v' j w hw hs ha (by
  have:¬(v'=v∧j=i):=fun he=>hn w hw (he.1▸he.2▸ha);omega)⟩
theorem Fx.skip {u v i q:Nat} {x:Int} (h:Fx N es fl l u v i q x) (hn:∀w,w<N→¬Rh es fl i v w):Fx N es fl l u v (i+1) q x:=
 ⟨h.out,h.own,fun v' j w hw hs ha hc=>h.le v' j w hw hs ha (by
  have:¬(v'=v∧j=i):=fun he=>hn w hw (he.1▸he.2▸ha);omega)⟩
theorem nG {u v a c i:Nat} {e:IE} (hv:v<N) (hs:Sub l u v) (ha:a<N) (hc:c<N) (h1:es[i]? =some ((a:Int),(c:Int))) (h2:fl[i]? =some false) (h3:a=v∨c=v):Out N es fl l u (at5 l a).c2∧Out N es fl l u (at5 l c).c2:=by
 rcases h3 with rfl|rfl
 ·exact⟨⟨a,hv,hs,.inl rfl⟩,⟨a,hv,hs,.inr ⟨c,hc,⟨i,_,h1,h2,.inl ⟨rfl,rfl⟩⟩,rfl⟩⟩⟩
 ·exact⟨⟨c,hv,hs,.inr ⟨a,ha,⟨i,_,h1,h2,.inr ⟨rfl,rfl⟩⟩,rfl⟩⟩,⟨c,hv,hs,.inl rfl⟩⟩
theorem Gz.edge {u v i a c:Nat} {x:Int} (h:Gz N es fl l u v i x) (hv:v<N) (hs:Sub l u v) (ha:a<N) (hc:c<N) (h1:es[i]? =some ((a:Int),(c:Int))) (h2:fl[i]? =some false) (h3:a=v∨c=v):Gz N es fl l u v (i+1) (min (min x (at5 l a).c2) (at5 l c).c2):=by
 obtain⟨o1,o2⟩:=nG (e:=(0,0)) hv hs ha hc h1 h2 h3;refine⟨?_,by have:=h.own;omega,fun v' j w hw aa hj hq=>?_⟩
 ·by_cases hx:x≤(at5 l a).c2∧x≤(at5 l c).c2
  ·rw[show min (min x (at5 l a).c2) (at5 l c).c2=x by omega];exact h.out
  ·by_cases hy:(at5 l a).c2≤(at5 l c).c2
   ·rw[show min (min x (at5 l a).c2) (at5 l c).c2=(at5 l a).c2 by omega];exact o1
   ·rw[show min (min x (at5 l a).c2) (at5 l c).c2=(at5 l c).c2 by omega];exact o2
 ·by_cases ab:v'=v∧j=i
  ·obtain⟨rfl,rfl⟩:=ab;obtain⟨e,g1,_,g3⟩:=hj;rw[h1] at g1;obtain rfl:=BF g1;dsimp only at g3;rcases g3 with⟨g4,g5⟩|⟨g4,g5⟩
   ·obtain rfl:c=w:=by omega
    omega
   ·obtain rfl:a=w:=by omega
    omega
  ·have:=h.le v' j w hw aa hj oM;omega
theorem Fx.edge {u v i a c q:Nat} {x:Int} (h:Fx N es fl l u v i q x) (hv:v<N) (hs:Sub l u v) (ha:a<N) (hc:c<N) (h1:es[i]? =some ((a:Int),(c:Int))) (h2:fl[i]? =some false) (h3:a=v∨c=v):Fx N es fl l u v (i+1) q (max (max x (at5 l a).c2) (at5 l c).c2):=by
 obtain⟨o1,o2⟩:=nG (e:=(0,0)) hv hs ha hc h1 h2 h3;refine⟨?_,fun v' ab aa hq=>by have:=h.own v' ab aa hq;omega,fun v' j w hw aa hj hq=>?_⟩
 ·by_cases hx:(at5 l a).c2≤x∧(at5 l c).c2≤x
  ·rw[show max (max x (at5 l a).c2) (at5 l c).c2=x by omega];exact h.out
  ·by_cases hy:(at5 l c).c2≤(at5 l a).c2
   ·rw[show max (max x (at5 l a).c2) (at5 l c).c2=(at5 l a).c2 by omega];exact o1
   ·rw[show max (max x (at5 l a).c2) (at5 l c).c2=(at5 l c).c2 by omega];exact o2
 ·by_cases ac:v'=v∧j=i
  ·obtain⟨rfl,rfl⟩:=ac;obtain⟨e,g1,_,g3⟩:=hj;rw[h1] at g1;obtain rfl:=BF g1;dsimp only at g3;rcases g3 with⟨g4,g5⟩|⟨g4,g5⟩
   ·obtain rfl:c=w:=by omega
    omega
   ·obtain rfl:a=w:=by omega
    omega
  ·have:=h.le v' j w hw aa hj oM;omega
theorem Gz.next {u v:Nat} {x:Int} (h:Gz N es fl l u v es.length x):Gz N es fl l u (v+1) 0 x:=
 ⟨h.out,h.own,fun v' j w hw hs ha hc=>h.le v' j w hw hs ha (by
  obtain⟨e,h1,_⟩:=id ha;have:=(AK.1 h1).1;omega)⟩
theorem Fx.next {u v q:Nat} {x:Int} (h:Fx N es fl l u v es.length q x):Fx N es fl l u (v+1) 0 q x:=
 ⟨h.out,h.own,fun v' j w hw hs ha hc=>h.le v' j w hw hs ha (by
  obtain⟨e,h1,_⟩:=id ha;have:=(AK.1 h1).1;omega)⟩
theorem Gz.done {u:Nat} {x:Int} (h:Gz N es fl l u N 0 x):Ta N es fl l u x:=by
 refine⟨h.out,?_⟩;rintro y ⟨v,hv,hs,rfl|⟨w,hw,ha,rfl⟩⟩
 ·have:=h.own;have:=hs.1;omega
 ·obtain⟨i,_,hi⟩:=ha.i;exact h.le v i w hw hs hi (.inl hv)
theorem Fx.done {u:Nat} {x:Int} (h:Fx N es fl l u N 0 N x):Tc N es fl l u x:=by
 refine⟨h.out,?_⟩;rintro y ⟨v,hv,hs,rfl|⟨w,hw,ha,rfl⟩⟩
 ·exact h.own v hv hs hv
 ·obtain⟨i,_,hi⟩:=ha.i;exact h.le v i w hw hs hi (.inl hv)
structure Ye (N:Nat) (es:List IE) (fl:List Bool) (l o:List T5) (k:Nat):Prop where
 len:o.length=N
 at_:∀v,v<k→∃lo hi,o[(at5 l v).c2.toNat]? =some ⟨(at5 l v).c2,lo,hi,0,0⟩∧Ta N es fl l v lo∧Tc N es fl l v hi
end
theorem Ye.put {N:Nat} {es:List IE} {lab:List Int} {b:List T5} {tl:List (Nat×Fo)} {fl:List Bool} {l o:List T5} (hT:Ao N es lab b tl l) {u:Nat} (h:Ye N es fl l o u) (hu:u<N) {lo hi:Int} (h1:Ta N es fl l u lo) (h2:Tc N es fl l u hi):Ye N es fl l (o.set (at5 l u).c2.toNat ⟨(at5 l u).c2,lo,hi,0,0⟩) (u+1):=by
 have hb:=hT.bnd hu;refine⟨by rw[List.length_set];exact h.len,fun v hv=>?_⟩;by_cases he:v=u
 ·subst he;exact⟨lo,hi,by rw[List.getElem?_set_self (by rw[h.len];omega)],h1,h2⟩
 ·have ab:=hT.bnd (v:=v) oM;have aa:(at5 l u).c2.toNat≠(at5 l v).c2.toNat:=fun hq=>he (hT.num_inj oM hu oM);rw[List.getElem?_set_ne aa];exact h.at_ v oM
structure LuX where
 u:Nat
 o:List T5
structure LvX where
 v:Nat
 lo:Int
 hi:Int
theorem FA {es:List IE} {fl:List Bool} {i:Nat} {bb:Bool} (hi:i<es.length) (hb:fl[i]? =some bb):((Ba (edT es) fl).any fun t=>decide (t.c0=(i:Int)))=bb:=by
 cases bb with
 |true=>
  rw[List.any_eq_true];exact⟨_,Uu.2 ⟨i,es[i],AG hi,hb,rfl⟩,decide_eq_true rfl⟩
 |false=>
  rw[List.any_eq_false];intro t ht;obtain⟨j,e,_,h2,rfl⟩:=Uu.1 ht;dsimp only;rw[decide_eq_true_iff];intro hc;obtain rfl:j=i:=by omega
  rw[hb] at h2;cases h2
theorem FC (N:Nat) (hN:N≤1000) (es:List IE) (hm:es.length≤1000) (hf:∀e∈es,inE N e) (pe:Option Addr) (ke:Nat) (ce:Aa) (pl:Option Addr) (nl kl:Nat) (pf:Option Addr) (nf kf:Nat) (cf:Aa) (pt:Option Addr) (nt kt:Nat) (po:Option Addr) (ko:Nat) (cr:Aa) {lab:List Int} {fl:List Bool} {r b:List T5} {tl:List (Nat×Fo)} {l:List T5} (a5:RV pe es.length (edT es) ce) (ax:RV pf nf (Ba (edT es) fl) cf) (aw:RV po N l cr) (hP:Av N es lab fl r b) (hT:Ao N es lab b tl l):Ct AC 94 [.agg #[.slice pe es.length ke,.slice pl nl kl,.slice pf nf kf,.slice pt nt kt,.slice po N ko]] [ce,cf,cr] fun v H'=>∃bx o,v= .slice (some ⟨bx,0,none⟩) N N∧H'=[ce,cf,cr,[(bx,row (o.flatMap Ak) 33)]]∧Ix N es fl l o:=by
 have bh:fl.length=es.length:=hP.fors.1;have bi:=ax.1;have ay:=wY (edT es) fl;rw[Mm] at ay;generalize a6:es.length=m at*;refine cG func94 fun _=>?_;repeat(refine sA ?_;intros)
 rename_i b1 bx;rw[cB];refine G.loop (X:=LuX) (fun s=>s.u≤N∧Ye N es fl l s.o s.u) (fun s=>[(4,Z9 Z8 s.u),(3,.slice (some ⟨bx,0,none⟩) N N),(1,pv b1)])
  (fun s=>[[(bx,row (s.o.flatMap Ak) 33)],[(b1,row [.slice pe m ke,.slice pl nl kl,.slice pf nf kf,.slice pt nt kt,.slice po N ko] 30)],ce,cf,cr]) (fun s=>N-s.u) ⟨0,BX N T5.zero⟩ ⟨AT _,by simp,fun v hv=>by dsimp only at hv;omega⟩ (body:=?_)
 rintro⟨u,o⟩ ⟨hu,hs⟩;dsimp only at hu hs⊢;by_cases ae:u<N;rotate_left
 ·obtain rfl:u=N:=by omega
  repeat(refine sA ?_;intros)
  (refine dP [ce,cf,cr,[(bx,row (o.flatMap Ak) 33)]] ?_;exact⟨bx,o,rfl,rfl,hs.len,hs.at_⟩)
 have az:=hT.bnd ae;obtain⟨b0,off,cs,T0,fz,rfl,rfl,_,a0⟩:=(RV.rw aw).pos Ds oM;have bk:=hT.len;have ak:∀v,v<N→cs[off+v*5+2]? =some (Z9 Z8 (at5 l v).c2):=fun v hv=>a0 v 2 _ _ (Dy oM) rfl;have qu:=ak u ae;repeat(refine sA ?_;intros)
 refine G.loop (X:=LvX) (fun s=>s.v≤N∧Gz N es fl l u s.v 0 s.lo∧Fx N es fl l u s.v 0 s.v s.hi) (fun s=>[(8,Z9 Z8 s.v),(7,Z9 Z8 s.hi),(6,Z9 Z8 s.lo),(5,Z9 Z8 (at5 l u).c2),(4,Z9 Z8 u),(3,.slice (some ⟨bx,0,none⟩) N N),(1,pv b1)])
  (fun _=>[[(bx,row (o.flatMap Ak) 33)],[(b1,row [.slice pe m ke,.slice pl nl kl,.slice pf nf kf,.slice pt nt kt,.slice (some ⟨b0,off,none⟩) N ko] 30)],ce,cf,[(b0,Al cs T0 fz)]]) (fun s=>N-s.v) ⟨0,(at5 l u).c2,(at5 l u).c2⟩ ⟨AT _,Gz.start ae az.2.2.1,Fx.start ae az.2.2.1⟩ (body:=?_)
 rintro⟨v,lo,hi⟩ ⟨hv,al,am⟩;dsimp only at hv al am⊢;by_cases ad:v<N;rotate_left
 ·obtain rfl:v=N:=by omega
  have ag:=hs.put hT ae al.done am.done;obtain⟨n,hn⟩:∃n:Nat,(at5 l u).c2=(n:Int):=⟨(at5 l u).c2.toNat,oM⟩
  rw[show(at5 l u).c2.toNat=n by omega] at ag;have ao:=tset o n ⟨(at5 l u).c2,lo,hi,0,0⟩ (by rw[hs.len];omega);have a1:=Kt Ds o;have bp:=hs.len;have bf:(n+1)*5≤o.length*5:=BD _ oM;dsimp only at ao;rw[hn] at ao ag⊢;repeat(refine sA ?_;intros)
  refine Dn.round ⟨u+1,o.set n ⟨(n:Int),lo,hi,0,0⟩⟩ ⟨ae,ag⟩ oD
 obtain⟨ch,hw,a1,a7,a2⟩:=hT.below ad;have hBe:=E9 pe m ke pl nl kl pf nf kf pt nt kt (some ⟨b0,off,none⟩) N ko l [(b0,Al cs T0 fz)] aw oM oM (u:Int) (v:Int) ch hw a1 a7;by_cases aa:Sub l u v;rotate_left
 ·have hBe:=hBe false (decide_eq_false fun h=>aa ((a2 u ae).1 h)).symm;repeat(refine sA ?_;intros)
  refine Dn.round ⟨v+1,lo,hi⟩ ⟨ad,al.pass aa,am.pass aa⟩ oD
 have hBe:=hBe true (decide_eq_true ((a2 u ae).2 aa)).symm;have qv:=ak v ad;repeat(refine sA ?_;intros)
 refine G.loop (X:=LvX) (fun s=>s.v≤m∧Gz N es fl l u v s.v s.lo∧Fx N es fl l u v s.v (v+1) s.hi) (fun s=>[(9,Z9 Z8 s.v),(8,Z9 Z8 v),(7,Z9 Z8 s.hi),(6,Z9 Z8 s.lo),(5,Z9 Z8 (at5 l u).c2),(4,Z9 Z8 u),(3,.slice (some ⟨bx,0,none⟩) N N),(1,pv b1)])
  (fun _=>[[(bx,row (o.flatMap Ak) 33)],[(b1,row [.slice pe m ke,.slice pl nl kl,.slice pf nf kf,.slice pt nt kt,.slice (some ⟨b0,off,none⟩) N ko] 30)],ce,cf,[(b0,Al cs T0 fz)]]) (fun s=>m-s.v) ⟨0,lo,max hi (at5 l v).c2⟩ ⟨AT _,al,am.at_ ad aa⟩ (body:=?_)
 rintro⟨i,au,av⟩ ⟨a8,ab,ac⟩;dsimp only at a8 ab ac⊢;by_cases an:i<m;rotate_left
 ·obtain rfl:i=m:=by omega
  rw[←a6] at ab ac;repeat(refine sA ?_;intros)
  refine Dn.round ⟨v+1,au,av⟩ ⟨ad,ab.next,ac.next⟩ oD
 have ah:es[i]? =some es[i]:=AG oM;have aq:=hf _ (B7 (l:=es) (n:=i) oM);have ai:fl[i]? =some fl[i]:=AG oM;have hIn:=In19ct pe m ke pl nl kl pf nf kf pt nt kt (some ⟨b0,off,none⟩) N ko _ cf ax oM (i:Int);rw[FA oM ai] at hIn;obtain⟨be,a9,bc,Te,bq,rfl,rfl,a3,bu⟩:=(RV.rw a5).pos Ds oM;have a4:=a3 i _ (Mo ah);generalize fl[i]=fi at*;generalize es[i]=e at*;obtain⟨e1,e2⟩:=e;unfold inE at aq;dsimp only at aq a4;obtain⟨a,rfl⟩:∃a:Nat,e1=(a:Int):=⟨e1.toNat,oM⟩
 obtain⟨c,rfl⟩:∃c:Nat,e2=(c:Int):=⟨e2.toNat,oM⟩
 have qa:=ak a oM;have qc:=ak c oM;have bg:(bc.drop (a9+i*5)).take 5=[Z9 Z8 i,Z9 Z8 a,Z9 Z8 c,Z9 Z8 0,Z9 Z8 0]:=a4;cases fi with
 |true=>
  have aj:∀w,w<N→¬Rh es fl i v w:=by rintro w _ ⟨_,_,h2,_⟩;rw[ai] at h2;cases h2
  repeat(refine sA ?_;intros)
  refine Dn.round ⟨i+1,au,av⟩ ⟨an,ab.skip aj,ac.skip aj⟩ oD
 |false=>
 by_cases bv:(a:Int)=(v:Int)
 ·have h3:a=v∨c=v:= .inl oM;repeat(refine sA ?_;intros)
  refine R.min3 (hx:=rfl) (hy:=rfl) (hz:=rfl) (hc:=rfl) (hn:=nle rfl) (h:=?_);repeat(refine sA ?_;intros)
  refine R.max3 (hx:=rfl) (hy:=rfl) (hz:=rfl) (hc:=rfl) (hn:=nle rfl) (h:=?_);repeat(refine sA ?_;intros)
  refine Dn.round ⟨i+1,_,_⟩ ⟨an,ab.edge ad aa oM oM ah ai h3,ac.edge ad aa oM oM ah ai h3⟩ oD
 by_cases bz:(c:Int)=(v:Int)
 ·have h3:a=v∨c=v:= .inr oM;repeat(refine sA ?_;intros)
  refine R.min3 (hx:=rfl) (hy:=rfl) (hz:=rfl) (hc:=rfl) (hn:=nle rfl) (h:=?_);repeat(refine sA ?_;intros)
  refine R.max3 (hx:=rfl) (hy:=rfl) (hz:=rfl) (hc:=rfl) (hn:=nle rfl) (h:=?_);repeat(refine sA ?_;intros)
  refine Dn.round ⟨i+1,_,_⟩ ⟨an,ab.edge ad aa oM oM ah ai h3,ac.edge ad aa oM oM ah ai h3⟩ oD
 have aj:∀w,w<N→¬Rh es fl i v w:=by rintro w _ ⟨e,h1,_,h4⟩;rw[ah] at h1;obtain rfl:=BF h1;dsimp only at h4;omega
 repeat(refine sA ?_;intros)
 refine Dn.round ⟨i+1,au,av⟩ ⟨an,ab.skip aj,ac.skip aj⟩ oD
open Go.Spc
theorem fl4len (f:Fl):(fl4 f).length=4:=rfl
def Jy (fs:List Fl):Nat:=(fs.map (·.blocks)).sum
theorem FD {fs:List Fl} {i:Nat} {f:Fl} (h:fs[i]? =some f):Jy (fs.take (i+1))=Jy (fs.take i)+f.blocks:=by unfold Jy;rw[BP,h];simp
theorem nH (fs:List Fl) (i:Nat):Jy (fs.take i)≤Jy fs:=by have h:=congrArg Jy (List.take_append_drop i fs);unfold Jy at h⊢;rw[List.map_append,List.sum_append] at h;omega
theorem FE {ba:Nat} {α:Ar} {c:Aa} (h:Dw ba α c):α.peak≤α.room:=by obtain⟨c0,⟨bm,ck,_,h1⟩,_⟩:=h;omega
theorem FF {bd ba bs:Nat} {W:Wk} {cd ca cs:Aa} (h:Wc bd ba bs W cd ca cs) {fs:List Fl} (hl:W.live.Perm (Aw fs [])) {N:Nat} (hn:W.σ.n=N):Bi W.σ.free+Jy fs=N:=by have h1:=uF h hl;rw[Ui] at h1;unfold Jy;rw[show Bi []=0 from rfl] at h1;omega
theorem FG {bd ba bs:Nat} {W:Wk} {cd ca cs:Aa} (h:Wc bd ba bs W cd ca cs) {fs:List Fl} (hl:W.live.Perm (Aw fs [])) (hn:W.σ.n=9000):Bi W.σ.free+Jy fs=9000:=FF h hl hn
end Go.Proofs.YtaofijjjheiknaaGreat
namespace Go.SL
section
variable {P:Program} {ops:Array Oper} {Q:Exit→Act→World→Prop} {cls:Nat→Oper→Cls} {w0:World} {S:List Nat} {n:Nat} {l:List (Nat×Oper)} {L:Be} {D:List Deferred} {H:Hp} {qs:List Rd} {k d T yT:Nat} {x y:Operand} {ty:TypeId} {pos:String} {af:Array Edge} {g:Option (Nat×Bool)}
end
end Go.SL
namespace Go.Proofs.YtaofijjjheiknaaGreat
open Go.SL Go.Spc Go.Tup Go.Srt
structure Ons (n ro:Nat) (W:Wk) (fs:List Fl):Prop where
 size:W.δ.size=10
 room:W.α.room=ro
 used:W.α.used=0
 acts:W.δ.acts≤1000000000
 n:W.σ.n=n
 live:W.live.Perm (Aw fs [])
theorem Ons.fresh (n ro:Nat):Ons n ro (wk0 10 n ro) []:=⟨rfl,rfl,rfl,AT _,rfl,.refl _⟩
theorem Ons.lay {n ro k m:Nat} {bd ba bs:Nat} {cd ca cs ad ac ae:Aa} {W W1:Wk} {f:Fl} {fs:List Fl} {ts:List T5} (h:Ons n ro W fs) (hW:Wc bd ba bs W cd ca cs) (ab:Wc bd ba bs W1 ad ac ae) (hE:Ev W W1 (Ac 10 k m) (Ac 10 k m)) (hg:W1.α.gs.Perm W.α.gs) (hl:W1.live.Perm (Bc f W.live)) (aa:Bg W1.δ.disk 10 [f.ext] f ts) (ha:W.δ.acts+Ac 10 k m≤1000000000):Ons n ro W1 (fs++[f])∧Dh W1 (f,ts):=by
 have h1:W1.δ.size=10:=hE.size.trans h.size;have h2:=hE.acts.2;exact⟨⟨h1,hE.room.trans h.room,(Uh hW ab hg).trans h.used,oM,hE.n.trans h.n,(hl.trans (Oz h.live)).trans (by rw[←Uf])⟩,Dh.new aa h1 hl⟩
theorem Ons.stepped {n ro A T wd:Nat} {p:Jp} {bd ba bs:Nat} {cd ca cs ae ad ag:Aa} {W W1:Wk} {x:Fl} {fs:List Fl} {ts:List T5} (h:Ons n ro W fs) (hW:Wc bd ba bs W cd ca cs) (ac:Wc bd ba bs W1 ae ad ag) (hS:It p W W1 A T none ts x 0) (hw:x.width=wd) (ha:W.δ.acts+A≤1000000000):Ons n ro W1 (fs++[x])∧Dh W1 (x,ts)∧x.count=ts.length∧(∀z,Dh W z→Dh W1 z):=by
 obtain⟨hl,aa⟩:W1.live.Perm (Bc x W.live)∧Bg W1.δ.disk W.δ.size [x.ext] x ts:=hS.res.elim (fun h=>⟨h.2.2.1,h.2.2.2⟩) (fun h=>absurd rfl h.1);have ab:W1.δ.size=10:=hS.size.trans h.size;rw[h.size] at aa;have ah:=hS.acts;refine⟨⟨ab,hS.room.trans h.room,(Uh hW ac hS.gs).trans h.used,oM,hS.n.trans h.n,(hl.trans (Oz h.live)).trans (by rw[←Uf])⟩,Dh.new aa ab hl,aa.len.symm,fun z hz=>hz.stay hS.size hS.keep (kE hl)⟩
theorem Ons.tot {n ro:Nat} {W:Wk} {fs:List Fl} (h:Ons n ro W fs):W.live.length≤fs.length∧Bi W.live=(fs.map (·.blocks)).sum:=by have h1:=h.live.length_eq;have h2:=Wt fs [];have h3:=(Tx h.live).trans (Ui fs []);rw[show Bi []=0 from rfl] at h3;simp only[AS] at h2;exact⟨oM,oM⟩
theorem Yf {bw bd ba bs n ro:Nat} (ag:10≤ro) {W:Wk} {cd ca cs:Aa} (hW:Wc bd ba bs W cd ca cs) {fs:List Fl} (hO:Ons n ro W fs) (hf:W.δ.fault= -1) (ah:W.δ.acts≤1000000) (k:Nat) (h1:1≤k) (h2:k≤5) {p:Option Addr} {m cap:Nat} {ts:List T5} {c:Aa} (hv:RV p m ts c) (hm:m≤10000) (ac:∀t∈ts,okT k t) (hb:m≤big W.σ.free):Ct AC 73 [pv bw,Z9 Z8 k,.slice p m cap] [Ab bw bd ba bs,cd,ca,cs,c] fun v H'=> ∃cd' ca' cs' W' f,v= .tuple #[flv f,Z9 Z8 0]∧H'=[Ab bw bd ba bs,cd',ca',cs',c]∧Wc bd ba bs W' cd' ca' cs'∧Ons n ro W' (fs++[f])∧Dh W' (f,ts)∧f.width=k∧f.count=m∧W'.δ.fault= -1∧W'.δ.acts≤W.δ.acts+m∧big W.σ.free≤big W'.σ.free+m∧(∀z,Dh W z→Dh W' z):=by
 have ai:Ac 10 k m≤m:=En (Bp oM h1 h2);have h:=Lay_k bw bd ba bs W cd ca cs hW k h1 h2 p m cap ts c hv oM ac (by rw[hO.size,hO.room,hO.used];omega) hf oM (by rw[hO.size];omega);refine h.mono ?_;rintro v H' ⟨cd',ca',cs',W',f,rfl,rfl,aa,hE,hK,hg,hl,ad,ae,aj,ab⟩;rw[hO.size] at hE ab;obtain⟨h3,h4⟩:=hO.lay hW aa hE hg hl ab oM;have h5:=hE.acts.2;have h6:=hE.big;exact⟨cd',ca',cs',W',f,rfl,rfl,aa,h3,h4,ad,ae,hE.fault hf,oM,oM,fun z hz=>hz.stay hE.size hK (kE hl)⟩
theorem Th (n:Nat) (hn:n≤1000):Ct AC 28 [Z9 Z8 n] [] fun v H'=> ∃bw bd ba bs cd ca cs,v=pv bw∧H'=[Ab bw bd ba bs,cd,ca,cs]∧Wc bd ba bs (wk0 10 9000 (10*n)) cd ca cs:=by
 have ab:=xA 10 9000 oM oM;have ac:=qD (10*n) oM;have ad:=pJ 9000 oM oM;have e1:AL .i64 ((10:Int)*(n:Int))=((10*n:Nat):Int):=by rw[Ah oM];omega
 refine cG func28 fun _=>?_;repeat(refine sA ?_;intros)
 refine cL ab ?_;rintro _ _ ⟨bd,cd,rfl,rfl,aa⟩;repeat(refine sA ?_;intros)
 refine cL ac ?_;rintro _ _ ⟨ba,ca,rfl,ae,rfl⟩;repeat(refine sA ?_;intros)
 refine cL ad ?_;rintro _ _ ⟨bs,cs,rfl,ag,rfl⟩;try dsimp only[AA,AB]
 have ah:=xB bd ba bs;repeat(refine sA ?_;intros)
 refine cL ah ?_;rintro _ _ ⟨bw,rfl,rfl⟩;repeat(refine sA ?_;intros)
 (refine dP [Ab bw bd ba bs,cd,ca,cs] ?_;exact⟨bw,bd,ba,bs,cd,ca,cs,rfl,rfl,wc0 oM aa ae ag⟩)
theorem FH (bw bd ba bs:Nat) (W:Wk) (ca cs:Aa) (aa:Dw ba W.α ca) (aj:Ko bs W.σ cs) (p:Option Addr) (n cap:Nat) (fs:List Fl) (c:Aa) (hv:Rw fl4 4 p n fs c) (hn:n≤100) (hu:W.α.used=0) (ht:Bi W.σ.free+Jy fs=9000):CtQ AC 37 [pv bw,.slice p n cap] [Ab bw bd ba bs,ca,cs,c] (.bool true):=by
 have hl:=hv.1;have ac:=Ty bw bd ba bs;have ad:=qH bw bd ba bs;have ab:=aUsed ba W.α ca aa;have ae:=aPeak ba W.α ca aa;have ag:=aRoom ba W.α ca aa;have ah:=pM bs W.σ cs aj;have al:=FE aa;rw[hu] at ab;refine cG func37 fun _=>?_;repeat(refine sA ?_;intros)
 refine G.loop (X:=Nat) (fun i=>i≤n) (fun i=>[(6,Z9 Z8 i),(5,Z9 Z8 (Jy (fs.take i):Int)),(1,.slice p n cap),(0,pv bw)])
  (fun _=>[Ab bw bd ba bs,ca,cs,c]) (fun i=>n-i) 0 (AT _) (body:=?_)
 intro i hi;have am:=nH fs i;by_cases an:i<n
 ·obtain⟨b,off,cc,T,fz,rfl,rfl,_,ai⟩:=hv.pos fl4len oM;have hit:fs[i]? =some fs[i]:=AG oM;have q1:=ai i 1 _ _ hit rfl;have ao:=FD hit;have ak:=nH fs (i+1);generalize fs[i]=f at*;have e1:AL .i64 ((Jy (fs.take i):Int)+(f.blocks:Int))=((Jy (fs.take (i+1)):Nat):Int):=by rw[Ah oM];omega
  repeat(refine sA ?_;intros)
  refine Dn.round (i+1) oM oM
 ·obtain rfl:i=n:=by omega
  rw[A5 oM];have e1:AL .i64 ((9000:Int)-(Jy fs:Int))=(Bi W.σ.free:Int):=by rw[Ah oM];omega
  repeat(refine sA ?_;intros)
  (refine dP [Ab bw bd ba bs,ca,cs,c] ?_;exact⟨congrArg Value.bool (Fj oM),rfl⟩)
theorem Yg {n:Int} {es:List IE} (h:Gc n es=true):0≤n∧∀e∈es,inE n e:=by unfold Gc at h;rw[Bool.and_eq_true,decide_eq_true_iff,List.all_eq_true] at h;exact⟨h.1.1,fun e he=>of_decide_eq_true (h.2 e he)⟩
open Go.Gr
structure Laid20 (ro N:Nat) (es:List IE) (W:Wk) (a f e q:Fl) (lab:List Int) (fl:List Bool) (r bt:List T5) (tl:List (Nat×Fo)) (l o:List T5):Prop where
 parts:Av N es lab fl r bt
 tab:Ao N es lab bt tl l
 lis:Ni (Bb lab) bt=l
 lows:Ix N es fl l o
 ons:Ons 9000 ro W [a,f,e,q]
 ia:Dh W (a,l)
 ib:Dh W (f,Ba (edT es) fl)
 ic:Dh W (e,edT es)
 iq:Dh W (q,o)
 wa:a.width=5
 wb:f.width=3
 wc:e.width=3
 wq:q.width=3
 fault:W.δ.fault= -1
 acts:W.δ.acts≤300000
theorem FI {N:Nat} {lab:List Int} (h:∀x∈lab,0≤x∧x<(N:Int)) (hl:lab.length≤1000000) (hN:N≤1000000):∀t∈Bb lab,okT 2 t:=by intro t ht;unfold Bb at ht;obtain⟨v,hv,rfl⟩:=AO.1 ht;have hv:=A9.1 hv;have hx:=h (lab.getD v 0) (by rw[AM,AG hv];exact B7 hv);exact Ht ⟨oM,oM⟩ ⟨oM,oM⟩
theorem FJ {N:Nat} {es:List IE} {lab:List Int} {fl:List Bool} {b:List T5} {tl:List (Nat×Fo)} {l o:List T5} (hT:Ao N es lab b tl l) (h:Ix N es fl l o) (hN:N≤1000000):∀t∈o,okT 3 t:=by
 intro t ht;obtain⟨k,hk⟩:=DA.1 ht;have aa:k<N:=by rw[←h.len];exact(AK.1 hk).1
 obtain⟨v,hv,hn⟩:=hT.surj aa;obtain⟨lo,hi,h1,h2,h3⟩:=h.at_ v hv;rw[hn,AU,hk] at h1;rw[BF h1];have hb:∀{x:Int},Out N es fl l v x→0≤x∧x<N:=fun {x} ⟨u,hu,_,hx⟩=>by
  rcases hx with rfl|⟨w,hw,_,rfl⟩
  ·have:=hT.bnd hu;omega
  ·have:=hT.bnd hw;omega
 have g1:=hb h2.1;have g2:=hb h3.1;exact Jd ⟨oM,oM⟩ ⟨oM,oM⟩ ⟨oM,oM⟩
theorem FK (bw bd ba bs ro:Nat) (bg:80≤ro) (cd ca cs:Aa) (hW:Wc bd ba bs (wk0 10 9000 ro) cd ca cs) (N:Nat) (hN:N≤100) (p:Option Addr) (m cap:Nat) (es:List IE) (c:Aa) (hv:Rw ecl 2 p m es c) (hm:m≤100) (hf:∀e∈es,inE N e):Ct AC 40 [pv bw,gv N p m cap] [Ab bw bd ba bs,cd,ca,cs,c] fun v H'=>∃cd' ca' cs' W' fa fb fc fq lab fl r bt tl l o,v= .tuple #[.agg (fl4 fa++fl4 fb++fl4 fc++fl4 fq).toArray,.bool true]∧H'=[Ab bw bd ba bs,cd',ca',cs',c]∧Wc bd ba bs W' cd' ca' cs'∧Laid20 ro N es W' fa fb fc fq lab fl r bt tl l o:=by
 have ab:=eQ0;have ad:=hv.1;have ae:=Of19ct N oM p m cap es c hv oM hf;have al:=Ons.fresh 9000 ro;have bh:big (wk0 10 9000 ro).σ.free=9000:=big0 10 9000 ro;unfold gv at ae⊢;refine cG func40 fun _=>?_;repeat(refine sA ?_;intros)
 refine cL ae ?_;rintro _ _ ⟨pe,ke,ce,pl,kl,cl,pf,nf,kf,cf,pt,nt,kt,ct,pz,kz,cz,lab,fl,r,b,tl,l,rfl,rfl,aa⟩;try dsimp only[AA,AB]
 have hP:=aa.parts;have hT:=aa.tab;have bi:=hP.for_le hf;have bk:(Ba (edT es) fl).length=nf:=aa.f.1;have ag:=FC N oM es oM hf pe ke ce pl N kl pf nf kf cf pt nt kt pz kz cz aa.e aa.f aa.o hP hT;rw[ad] at ag;have am:=Yf (bw:=bw) (cap:=kz) oM hW al rfl (AT _) 5 oM oM aa.o oM (hT.okT oM) oM;repeat(refine sA ?_;intros)
 refine cL am ?_;rintro _ _ ⟨bp,bq,bu,W1,f1,rfl,rfl,an,ao,aq,w1,c1,au,a1,b1,k1⟩;try dsimp only[AA,AB]
 rw[show(wk0 10 9000 ro).δ.acts=0 from rfl] at a1;have av:=Yf (bw:=bw) (cap:=kf) oM an ao au oM 3 oM oM aa.f oM (xN hf oM oM fl) oM;rw[ab];repeat(refine sA ?_;intros)
 refine cL av ?_;rintro _ _ ⟨bv,bz,b5,W2,f2,rfl,rfl,aw,ax,ay,w2,c2,az,a2,b2,k2⟩;try dsimp only[AA,AB]
 have ah:=Yf (bw:=bw) (cap:=ke) oM aw ax az oM 3 oM oM aa.e oM (kW hf oM oM) oM;rw[ad] at ah;rw[ab];repeat(refine sA ?_;intros)
 refine cL ah ?_;rintro _ _ ⟨b6,b7,b8,W3,f3,rfl,rfl,a0,a5,a6,w3,c3,a7,a3,b3,k3⟩;try dsimp only[AA,AB]
 rw[ab];repeat(refine sA ?_;intros)
 refine cL ag ?_;rintro _ _ ⟨bx,o,rfl,rfl,ac⟩;try dsimp only[AA,AB]
 have a8:=Yf (bw:=bw) (cap:=N) oM a0 a5 a7 oM 3 oM oM (RV.row (bo:=bx) ac.len) oM (FJ hT ac oM) oM;repeat(refine sA ?_;intros)
 refine cL a8 ?_;rintro _ _ ⟨ai,aj,ak,W4,f4,rfl,rfl,a9,bc,be,w4,c4,bf,a4,b4,k4⟩;try dsimp only[AA,AB]
 rw[ab];repeat(refine sA ?_;intros)
 (refine dP [Ab bw bd ba bs,ai,aj,ak,c] ?_;exact⟨ai,aj,ak,W4,f1,f2,f3,f4,lab,fl,r,b,tl,l,o,by rw[Fj rfl];rfl,rfl,a9,⟨hP,hT,aa.lis,ac,bc,k4 _ (k3 _ (k2 _ aq)),k4 _ (k3 _ ay),k4 _ a6,be,w1,w2,w3,w4,bf,oM⟩⟩)
theorem FL (bw bd ba bs ro:Nat) (a0:80≤ro) (N:Nat) (hN:N≤40) (es:List IE) (a4:es.length≤45) (hf:∀e∈es,inE N e) (W:Wk) (cd ca cs:Aa) (hW:Wc bd ba bs W cd ca cs) (a f e q:Fl) (hO:Ons 9000 ro W [a,f,e,q]) {lab:List Int} {fl:List Bool} {r bt:List T5} {tl:List (Nat×Fo)} {l o:List T5} (hP:Av N es lab fl r bt) (hT:Ao N es lab bt tl l) (hL:Ix N es fl l o) (ha:Dh W (a,l)) (hb:Dh W (f,Ba (edT es) fl)) (hc:Dh W (e,edT es)) (hq:Dh W (q,o)) (ag:a.width=5) (ac:f.width=3) (ae:e.width=3) (ad:q.width=3) (a5:W.δ.acts≤300000) (ao:(Kk l (Ba (edT es) fl) (edT es) o).length≤69):Ct AC 38 [pv bw,flv a,flv f,flv e,flv q] [Ab bw bd ba bs,cd,ca,cs] fun v H'=>∃x,∃er:Int,∃cd' ca' cs' W',v= .tuple #[flv x,Z9 Z8 er]∧H'=[Ab bw bd ba bs,cd',ca',cs']∧Wc bd ba bs W' cd' ca' cs'∧W'.α.used=0∧W'.σ.n=9000∧W'.δ.acts≤200000000∧(W.δ.fault= -1→W'.δ.fault= -1)∧((er=0∧∃lab2,Ee (gE (peB es fl l o)) (fun i=>i<(peB es fl l o).length) N (-1) lab2∧Dh W' (x,Gy l (edT es) (Bb lab2))∧x.width=2∧x.count=(Gy l (edT es) (Bb lab2)).length∧Ons 9000 ro W' [a,f,e,q,x])∨(x=⟨0,0,0,0⟩∧W'.live.Perm (Aw [a,f,e,q] [])∧er=6∧W.δ.fault≠-1)):=by
 obtain⟨ls,hA⟩:=dF N es;have X:BcX N es ls lab fl r bt tl l:=⟨hA,hf,hP,hT,oM⟩
 obtain⟨lab2,h2⟩:=dD (gE (peB es fl l o)) (fun i=>i<(peB es fl l o).length) N (-1);obtain⟨aq,au⟩:=hO.tot;simp only[AZ,List.map_nil,List.sum_cons,List.sum_nil,AJ,AS] at aq au;obtain⟨La,ah,a6⟩:=id ha;obtain⟨Lb,ai,a7⟩:=id hb;obtain⟨Lc,aj,a8⟩:=id hc;obtain⟨Lq,ak,a9⟩:=id hq;have a1:=ah.len;have b1:=ai.len;have c1:=aj.len;have q1:=ak.len;have a2:=ah.blk;have b2:=ai.blk;have c2:=aj.blk;have q2:=ak.blk;dsimp only at a1 b1 c1 q1 a2 b2 c2 q2;rw[hO.size] at a2 b2 c2 q2;rw[ag] at a2;rw[ac] at b2;rw[ae] at c2;rw[ad] at q2;have az:=hP.for_le hf;have bc:=hT.len;have be:=hL.len;rw[Mm] at c1;have a3:a.blocks≤a.count:=by rw[a2];exact En (Bp oM oM oM)
 have b3:f.blocks≤f.count:=by rw[b2];exact En (Bp oM oM oM)
 have c3:e.blocks≤e.count:=by rw[c2];exact En (Bp oM oM oM)
 have q3:q.blocks≤q.count:=by rw[q2];exact En (Bp oM oM oM)
 have av:Ck 45≤183:=by decide+kernel
 have al:Ck 69≤372:=by decide+kernel
 have e1:183*(W.live.length+12)≤183*16:=CJ _ oM;have e2:372*(W.live.length+14)≤372*18:=CJ _ oM;have bf:=hO.n;have hB:=E1 bw bd ba bs W cd ca cs hW a f e q l (Ba (edT es) fl) (edT es) o ha hb hc hq ag ac ae ad hT.rise (dA hT) (kV es fl) ((Pi es).imp fun h=>Int.le_of_lt h) (mY hT hL) 45 69 183 372 oM oM oM oM oM oM av oM ao oM oM al (by rw[show a.count=N by omega];exact prs_ok X hL) (Bb lab2) (fun x y h=>E6 es fl l o h2 (by rw[show a.count=N by omega] at h;exact h)) (by rw[kF,h2.len];omega) (mU lab2) (FI (N:=N) (fun x hx=>by
   obtain⟨v,hv,bg,_⟩:=h2.mem hx;omega) (by rw[h2.len];omega) oM) oM oM oM
 refine hB.mono ?_;rintro v H' (⟨_,x,er,aw,ax,ay,W3,rfl,rfl,ab,aa,am⟩|⟨bh,_⟩);rotate_left
 ·exfalso;have h3:=hO.room;have h4:=hO.used;have h5:=hO.size;omega
 have an:=aa.acts;unfold Ps at an;refine⟨x,er,aw,ax,ay,W3,rfl,rfl,ab,(Uh hW ab aa.gs).trans hO.used,aa.n.trans hO.n,oM,aa.fault,?_⟩;rcases aa.res with⟨rfl,_,hl,bi⟩|⟨he,rfl,hl,⟨rfl,hr⟩|⟨k,h6,_⟩⟩
 ·obtain⟨o1,o2,o3,_⟩:=hO.stepped hW ab aa (am rfl) (by unfold Ps;omega);exact .inl ⟨rfl,lab2,h2,o2,am rfl,o3,o1⟩
 ·exact .inr ⟨rfl,hl.trans hO.live,rfl,hr⟩
 ·cases h6
def Ri (N:Nat) (es:List IE):Prop:=∀lab fl r bt tl l o,Av N es lab fl r bt→Ao N es lab bt tl l→Ix N es fl l o→(Kk l (Ba (edT es) fl) (edT es) o).length≤69
theorem Rj {N:Nat} {es:List IE} (h:es.length+N≤69):Ri N es:=fun lab fl r bt tl l o _ hT _=>by have:=E7 hT es fl o;omega
structure Told20 (N:Nat) (es:List IE) (W:Wk) (fs:List Fl) (lab:List Int) (fl:List Bool) (r bt:List T5) (tl:List (Nat×Fo)) (l o:List T5) (lab2:List Int):Prop where
 parts:Av N es lab fl r bt
 tab:Ao N es lab bt tl l
 lis:Ni (Bb lab) bt=l
 lows:Ix N es fl l o
 lb:Ee (gE (peB es fl l o)) (fun i=>i<(peB es fl l o).length) N (-1) lab2
 used:W.α.used=0
 n:W.σ.n=9000
 live:W.live.Perm (Aw fs [])
theorem dG (bw bd ba bs ro:Nat) (aj:80≤ro) (cd ca cs:Aa) (hW:Wc bd ba bs (wk0 10 9000 ro) cd ca cs) (N:Nat) (hN:N≤40) (p:Option Addr) (m cap:Nat) (es:List IE) (c:Aa) (hv:Rw ecl 2 p m es c) (hm:m≤45) (hf:∀e∈es,inE N e) (ai:Ri N es):Ct AC 27 [pv bw,gv N p m cap] [Ab bw bd ba bs,cd,ca,cs,c] fun v H'=>∃cd' ca' cs' W' po nl oc co bq qf fs lab fl r bt tl l o lab2,v= .tuple #[.slice po nl oc,.slice (some ⟨bq,0,none⟩) 5 5,Z9 Z8 0]∧H'=[Ab bw bd ba bs,cd',ca',cs',c,co,qf]∧Wc bd ba bs W' cd' ca' cs'∧Told20 N es W' fs lab fl r bt tl l o lab2∧Rw fl4 4 (some ⟨bq,0,none⟩) 5 fs qf∧nl=(Gy l (edT es) (Bb lab2)).length∧Vec 33 5 po nl oc (flat (Gy l (edT es) (Bb lab2))) co:=by
 have aa:=eQ0;have a9:=hv.1;have ae:=FK bw bd ba bs ro aj cd ca cs hW N oM p m cap es c hv oM hf;unfold gv at ae⊢;simp only[fl4,AA,AB,AV] at ae;refine cG func27 fun _=>?_;repeat(refine sA ?_;intros)
 refine cL ae ?_;rintro _ _ ⟨aw,ax,ay,W1,fa,fb,fc,fq,lab,fl,r,bt,tl,l,o,rfl,rfl,az,hL⟩;try dsimp only[AA,AB]
 have ak:=FL bw bd ba bs ro aj N hN es oM hf W1 aw ax ay az fa fb fc fq hL.ons hL.parts hL.tab hL.lows hL.ia hL.ib hL.ic hL.iq hL.wa hL.wb hL.wc hL.wq hL.acts (ai _ _ _ _ _ _ _ hL.parts hL.tab hL.lows);rw[aa,aa,aa,aa] at ak;repeat(refine sA ?_;intros)
 refine cL ak ?_;rintro _ _ ⟨x,er,a0,a1,ag,W2,rfl,rfl,al,a2,am,bc,a3,hc⟩;dsimp only[AA,AB];rcases hc with⟨rfl,lab2,h2,ac,be,a4,ab⟩|⟨_,_,_,hr⟩
 rotate_left
 ·exact absurd hL.fault hr
 have bf:x.count≤1000:=by
  obtain⟨LvX,ad,_⟩:=ac;have h4:(Gy l (edT es) (Bb lab2)).length≤es.length:=by unfold Gy;rw[Xv,Iu,cY];have:=cW (edT es);rw[Mm] at this;exact this
  omega
 generalize an:Gy l (edT es) (Bb lab2)=bo at*;obtain⟨LvX,ad,ah⟩:=ac;have ao:=rG bw bd ba bs W2 a0 a1 ag al x _ LvX ad ah (by rw[ab.size,ab.room,ab.used];omega) (a3 hL.fault) oM oM;rw[aa x] at ao;rw[aa x];repeat(refine sA ?_;intros)
 refine cL ao ?_;rintro _ _ ⟨aq,au,W5,po,oc,cho,rfl,rfl,av,a5,bg,a6,a7,a8⟩;repeat(refine sA ?_;intros)
 rename_i bq;simp only[Bs,Int.reduceToNat,Nat.reduceMul,AD,List.drop_succ_cons,DL,List.take_succ_cons,List.take_zero,List.set_cons_succ,List.set_cons_zero];(refine dP [Ab bw bd ba bs,aq,au,ag,c,cho,[(bq,row [Z9 Z8 fa.first,Z9 Z8 fa.blocks,Z9 Z8 fa.width,Z9 Z8 fa.count,Z9 Z8 fb.first,Z9 Z8 fb.blocks,Z9 Z8 fb.width,Z9 Z8 fb.count,Z9 Z8 fc.first,Z9 Z8 fc.blocks,Z9 Z8 fc.width,Z9 Z8 fc.count,Z9 Z8 fq.first,Z9 Z8 fq.blocks,Z9 Z8 fq.width,Z9 Z8 fq.count,Z9 Z8 x.first,Z9 Z8 x.blocks,Z9 Z8 x.width,Z9 Z8 x.count] 42)]] ?_;skip);refine⟨aq,au,ag,W5,po,x.count,oc,cho,bq,_,[fa,fb,fc,fq,x],lab,fl,r,bt,tl,l,o,lab2,rfl,rfl,av,⟨hL.parts,hL.tab,hL.lis,hL.lows,h2,(Uh al av a7).trans a2,a5.n.trans am,by rw[a6];exact ab.live⟩,?_,?_,?_⟩
 ·exact⟨rfl,.inr ⟨bq,0,_,_,_,rfl,rfl,by simp[fl4]⟩⟩
 ·rw[an];exact a4
 ·rw[an];with_reducible exact a8
theorem nI (n:Int) (p:Option Addr) (m cap:Nat) (es:List IE) (c:Aa) (hv:Rw ecl 2 p m es c) (hm:m≤maxLen) (bb:Bool) (ad:bb=(Gc n es&&decide (n≤24∧(m:Int)≤45))):CtQ AC 26 [gv n p m cap] [c] (.bool bb):=by
 subst ad;have ab:=bA n p m cap es c hv hm;have ac:=bB n p m cap 24 45 hm;unfold gv at ab ac⊢;cases hfm:Gc n es with
 |false=>
  rw[hfm] at ab;rw[Bool.false_and];refine cG func26 fun _=>?_;repeat(refine sA ?_;intros)
  (refine dP [c] ?_;exact⟨rfl,rfl⟩)
 |true=>
 rw[hfm] at ab;rw[Bool.true_and];by_cases aa:n≤24∧(m:Int)≤45;rotate_left
 ·rw[Jf aa] at ac;rw[decide_eq_false aa];refine cG func26 fun _=>?_;repeat(refine sA ?_;intros)
  (refine dP [c] ?_;exact⟨rfl,rfl⟩)
 rw[Fj aa] at ac;rw[decide_eq_true aa];refine cG func26 fun _=>?_;repeat(refine sA ?_;intros)
 (refine dP [c] ?_;exact⟨rfl,rfl⟩)
theorem Vb:CtQ AC 25 [] [] (.bool true):=by
 have ab:Ct AC 28 [Z9 Z8 9] [] fun v H'=>
  ∃bw bd ba bs cd ca cs,v=pv bw∧H'=[Ab bw bd ba bs,cd,ca,cs]∧Wc bd ba bs (wk0 10 9000 90) cd ca cs:=Th 9 oM
 have ac:∀e∈([(0,1)]:List IE),inE ((2:Nat):Int) e:=by decide
 refine cG func25 fun _=>?_;repeat(refine sA ?_;intros)
 refine cL ab ?_;rintro _ _ ⟨bw,bd,ba,bs,cd,ca,cs,rfl,rfl,hW⟩;repeat(refine sA ?_;intros)
 rename_i be;have hB:=dG bw bd ba bs 90 oM cd ca cs hW 2 oM (some ⟨be,0,none⟩) 1 1 [(0,1)] [(be,row [Z9 Z8 0,Z9 Z8 1] 53)] ⟨rfl,.inr ⟨be,0,_,_,_,rfl,rfl,rfl⟩⟩ oM ac (Rj oA19);unfold gv at hB;refine cL hB ?_;rintro _ _ ⟨ag,ah,ai,W1,po,nl,oc,co,bz,qf,fs,lab,fl,r,bt,tl,l,o,lab2,rfl,rfl,aj,hT,ak,aa,ad⟩;try dsimp only[AA,AB]
 have ae:nl=1:=by rw[aa];unfold Gy;rw[Xv,Iu,cY];rfl
 clear aa ad;subst ae;repeat(refine sA ?_;intros)
 (refine dP [] ?_;exact⟨congrArg Value.bool (Fj rfl),rfl⟩)
open Go.ChangeShapes Go.WideShapes Go.ChangeAt Go.RowKit
theorem own:ownKnob prog.godebug=none:=by kernel_rfl
theorem Yh:laidOutB AC=true:=by kernel_rfl
theorem FM {W W':World} {H:Hp} (h:St W [] W' H):Below W.heap.size W W':=
 ⟨h.os,h.tape,h.output,h.size,fun k hk=>h.frame k hk oA19⟩
theorem nJ {H:Type} {enc:TypeId×Value→H} {P:Program} {W W':World} (hl:laidOutB P=true) (hb:Below W.heap.size W W') {sp:Nat→Bool}:∀(ts:List TypeId) (vs:List Value) (ds:List (DataW H)) (ps:List MemPlace),(∀t∈ts,P.readableRec t=true∧t<P.types.size)→DataW.TrodAll enc P W 0 (fun _=>true) true ts vs ds ps→(∀p∈ps,p.block<W.heap.size)→(∀p∈ps,sp p.block=true)→DataW.TrodAll enc P W' 0 sp true ts vs ds ps
 |[],vs,ds,ps,_,h,_,_=>by
  cases vs<;>cases ds<;>simp[DataW.TrodAll] at h⊢;exact h
 |t::ts,vs,ds,ps,hr,h,hlt,hsp=>by obtain⟨v,aa,d,ab,p,q,rfl,rfl,rfl,h0,r0⟩:=trodAll_cons h;have h1:=WideElems.Trod_stays hl (hr t AE).1 (hr t AE).2 h0 (fun x hx=>hb.same (hlt x (BO _ hx))) (fun x hx=>hsp x (BO _ hx));exact trodAll_cons_mk h1 (nJ hl hb ts aa ab q (fun t ht=>hr t (AF _ ht)) r0 (fun x hx=>hlt x (BN _ hx)) (fun x hx=>hsp x (BN _ hx)))
theorem FN {H:Type} {enc:TypeId×Value→H} {P:Program} {f:Func} {s:ChangeSpec} {apart fresh ad again:Bool} {W W':World} {args:Array Value} {v:Value} {ds gs:List (DataW H)} {aa pa pv:List MemPlace} (hW:DataW.Whole enc P f.params.toList s.vars apart W args.toList ds gs aa) (ag:∀(b:Nat) (sp:Nat→Bool) (hd:Bool),DataW.TrodAll enc P W' b sp hd f.resultTypes.toList (v.resultList f.resultTypes.size) (s.fn H (ds++gs)).results []) (ac:∀sp:Nat→Bool,(∀p∈aa,sp p.block=true)→DataW.TrodAll enc P W' 0 sp true f.params.toList args.toList (s.fn H (ds++gs)).args pa) (ab:∀sp:Nat→Bool,(∀p∈aa,sp p.block=true)→DataW.TrodVars enc P W' sp s.vars (s.fn H (ds++gs)).vars pv) (ae:aa=pa++pv) (hk:W.keptBut W' (·∈aa)) (ak:∀a:Addr,a.block<W.heap.size→W'.frozen? a=W.frozen? a) (al:∀(j:Nat) (t:TypeId) (r:Value),f.resultTypes[j]? =some t→(v.resultList f.resultTypes.size)[j]? =some r→Value.okWide P W' .any 0 t r):s.post enc P f apart fresh ad again W args v W':=by
 have ah:∀p∈aa,(fun b=>decide (b<W.heap.size)) p.block=true:=fun p hp=>by simpa using hW.lt p hp
 have ai:∀p∈aa,p.block<W.heap.size:=fun p hp=>hW.lt p hp;refine⟨ds,gs,aa,[],pa,pv,hW,ag _ _ _,ac _ ah,ab _ ah,World.keptBut_mono (fun p hp=>⟨hp,?_⟩) hk,fun _=>?_⟩
 ·rw[ae,AR] at hp;exact Or.inr hp
 ·obtain⟨_,_,_,_,_,hz,hn⟩:=hW;refine⟨al,_,_,([]++pa)++pv,⟨[]++pa,pv,trodAll_append (ac _ (fun _ _=>rfl)) (ag _ _ _),ab _ (fun _ _=>rfl),rfl,?_,?_⟩,?_⟩
  ·intro b off hp;have aj:MemPlace.cell b off∈aa:=by rw[ae];simpa using hp
   rw[ak _ (ai _ aj)];exact hz b off aj
  ·intro ha;have:=hn ha;rw[ae] at this;simpa using this
  ·intro p hp _;rw[ae];simpa using hp
theorem Yi {H:Type} {enc:TypeId×Value→H} {P:Program} {f:Func} {s:ChangeSpec} {b:TypeId} {W W':World} {args:Array Value} {ds gs:List (DataW H)} {aa:List MemPlace} (hW:DataW.Whole enc P f.params.toList s.vars false W args.toList ds gs aa) (hv:s.vars=[]) (ad:f.resultTypes= #[b]) (hb:P.underlying b=some .bool) (hl:laidOutB P=true) (hr:∀t∈f.params.toList,P.readableRec t=true∧t<P.types.size) (ac:s.fn H (ds++gs)={results:=[.lit (.bool true)],args:=ds}) (ab:Below W.heap.size W W'):s.post enc P f false true false false W args (.bool true) W':=by
 have ae:=hW;have ag:∀p∈aa,p.block<W.heap.size:=fun p hp=>ae.lt p hp;obtain⟨p,q,hA,hV,rfl,ak,al⟩:=hW;rw[hv] at hV;have hq:q=[]:=by cases gs<;>simp[DataW.TrodVars] at hV;exact hV
 subst hq;have ah:gs=[]:=by cases gs<;>simp[DataW.TrodVars] at hV⊢
 subst ah;simp only[AP] at ae ag ac;refine FN (pa:=p) (pv:=[]) ae ?_ ?_ ?_ oA19 ?_ ?_ ?_
 ·intro aj sp hd;simp only[AP,ac,ad];exact trodAll_mk1 (shut_bool hb true)
 ·intro sp ai;simp only[AP,ac];exact nJ hl ab _ _ _ _ hr hA ag ai
 ·intro sp _;simp only[AP,ac,hv];rfl
 ·exact ab.frame _
 ·exact fun a ha=>ab.frozen ha
 ·exact ok_one ad rfl (okWide_bool_mk hb true)
theorem st_nil (W:World):St W (Bj []) W []:=
 ⟨by simp[Bj],by simp,by simp[Bj],fun _ _ _=>rfl,AI _,rfl,rfl,rfl⟩
theorem FO {P:Program} {f:FuncId} {args:List Value} (h:CtQ P f args [] (.bool true)) (W:World):Calls P f args.toArray W fun e W'=>e= .returned (.bool true)∧Below W.heap.size W W':=by
 unfold CtQ Ct at h;refine(h W (st_nil W)).mono fun e W' ⟨v,H',h1,⟨h2,h3⟩,h4⟩=>?_;subst h2;exact⟨h1,FM h4⟩
theorem FP {P:Program} {W:World} {aa:Nat} {e:TypeId} {k:IntKind} {v:Value} (he:P.underlying e=some (.int k)) (h:Cell.okWide P W .any aa e v):∃n,v= .int k n∧k.has n=true:=by simp only[Cell.okWide,he] at h;cases v<;>simp_all [Cell.ok]
theorem FQ {W W':World} {c:Aa} (hc:∀q∈c,W.heap[q.1]? =some q.2) (h:St W (Bj [c]) W' [c]):Below W.heap.size W W':=
 ⟨h.os,h.tape,h.output,h.size,fun k hk=>by
  by_cases hm:k∈Bj [c]
  ·simp only[Bj,AW,A4,AP,AO] at hm;obtain⟨q,hq,rfl⟩:=hm;rw[hc q hq];exact h.sat q (by simpa using hq)
  ·exact h.frame k hk hm⟩
theorem dH {P:Program} {f:FuncId} {args:List Value} {c:Aa} {W:World} (hc:∀q∈c,W.heap[q.1]? =some q.2) (aa:(c.map (·.1)).Nodup) (h:CtQ P f args [c] (.bool true)):Calls P f args.toArray W fun e W'=>e= .returned (.bool true)∧Below W.heap.size W W':=by
 unfold CtQ Ct at h;have ab:St W (Bj [c]) W [c]:=by refine⟨by simpa[Bj] using aa,by simpa using hc,fun k hk=> .inl hk,fun _ _ _=>rfl,AI _,rfl,rfl,rfl⟩
 refine(h W ab).mono fun e W' ⟨v,H',h1,⟨h2,h3⟩,h4⟩=>?_;subst h2 h3;exact⟨h1,FQ hc h4⟩
theorem dI {P:Program} {W:World} {aa:Nat} {e:TypeId} {v:Value} (he:P.underlying e=some (.int .u8)) (h:Value.okWide P W .any aa e v):∃x:Nat,x<256∧v= .int .u8 (x:Int):=by
 have h':Cell.okWide P W .any aa e v:=by simpa only[Value.okWide,he] using h
 obtain⟨x,hx,hr⟩:=FP he h';simp[IntKind.has,IntKind.min,IntKind.max,IntKind.bits,IntKind.signed] at hr;exact⟨x.toNat,oM,by rw[hx,DM oM]⟩
def ChIn (w:World) (c:Aa):Prop:=∀q∈c,w.heap[q.1]? =some q.2
def Ch1 (c:Aa):Prop:=c=[]∨∃q,c=[q]
theorem Ch1.rw {α:Type} {f:α→List Value} {k:Nat} {p:Option Addr} {m:Nat} {xs:List α} {c:Aa} (h:Rw f k p m xs c):Ch1 c:=by
 rcases h.2 with⟨_,h⟩|⟨b,off,cs,T,fz,_,h,_⟩
 ·exact .inl h
 ·exact .inr ⟨_,h⟩
theorem two_ch {w:World} {c0 c1:Aa} (h0:ChIn w c0) (h1:ChIn w c1) (s0:Ch1 c0) (s1:Ch1 c1):∃A,ChIn w A∧(A.map (·.1)).Nodup∧(∃r,A.Perm (c0++r))∧∃r,A.Perm (c1++r):=by
 rcases s0 with rfl|⟨q0,rfl⟩
 ·refine⟨c1,h1,?_,⟨c1,.refl _⟩,⟨[],by simp⟩⟩;rcases s1 with rfl|⟨q1,rfl⟩<;>simp
 ·rcases s1 with rfl|⟨q1,rfl⟩
  ·exact⟨[q0],h0,by simp,⟨[],by simp⟩,⟨[q0],by simp⟩⟩
  ·by_cases hq:q0.1=q1.1
   ·have e0:=h0 q0 oA19;have e1:=h1 q1 oA19;rw[hq,e1,BG] at e0;have:q0=q1:=by obtain⟨a,b⟩:=q0;obtain⟨a',b'⟩:=q1;simp only at hq e0;rw[hq,e0]
    subst this;exact⟨[q0],h0,by simp,⟨[],by simp⟩,⟨[],by simp⟩⟩
   ·refine⟨[q0,q1],?_,by simp[hq],⟨[q1],.refl _⟩,⟨[q0],.swap _ _ _⟩⟩;intro q hm;simp only[AN,DP,or_false] at hm;rcases hm with rfl|rfl
    ·exact h0 _ oA19
    ·exact h1 _ oA19
theorem Ct.inA {P:Program} {f:FuncId} {args:List Value} {c A r:Aa} {H:Hp} {R:Value→Hp→Prop} (h:Ct P f args (c::H) fun v H'=>∃H1,H'=c::H1∧R v H1) (hA:A.Perm (c++r)):Ct P f args (A::H) fun v H'=>∃H1,H'=A::H1∧R v H1:=by
 have h2:= @Ct.frame P f args (c::H) [r] _ h;have h3:Ct P f args (c::H++[r]) fun v H'=>∃H1,H'=c::H1++[r]∧R v H1:=by unfold Ct;intro w hw;refine(h2 hw).mono ?_;rintro e w' ⟨v,H',h4,⟨H1,rfl,h5⟩,h6⟩;exact⟨v,c::H1++[r],h4,⟨H1,rfl,h5⟩,h6⟩
 have hp:∀H1:Hp,(A::H1).flatten.Perm (c::H1++[r]).flatten:=fun H1=>by simp only[AW,List.flatten_append,A4,AP,AA];refine(hA.append_right _).trans ?_;rw[AV];exact BL _ CD
 refine Ct.convP h3 (hp H) ?_;rintro v H' ⟨H1,rfl,h5⟩;exact⟨A::H1,⟨H1,rfl,h5⟩,(hp H1).symm⟩
theorem CtQ.inA {P:Program} {f:FuncId} {args:List Value} {c A r:Aa} {H:Hp} {v:Value} (h:CtQ P f args (c::H) v) (hA:A.Perm (c++r)):CtQ P f args (A::H) v:=by
 have h1:Ct P f args (c::H) fun v' H'=>∃H1,H'=c::H1∧(v'=v∧H1=H):=h.mono fun v' H' ⟨a,b⟩=>⟨H,b,a,rfl⟩
 exact(Ct.inA h1 hA).mono fun v' H' ⟨H1,a,b,c⟩=>⟨b,by rw[a,c]⟩
theorem nK (cs:List Value):∀(len off:Nat),(∀i,i<len→∃e:IE,∀j,j<2→cs[off+i*2+j]? =(ecl e)[j]?)→∃es:List IE,es.length=len∧(cs.drop off).take (len*2)=es.flatMap ecl
 |0,off,_=>⟨[],rfl,by simp⟩
 |len+1,off,h=>by
  obtain⟨t,ht⟩:=h 0 oM;obtain⟨ts,hl,he⟩:=nK cs len (off+2) (fun i hi=>by
   obtain⟨t,ht⟩:=h (i+1) oM;exact⟨t,fun j hj=>by rw[←ht j hj];congr 1;omega⟩)
  refine⟨t::ts,by simp[hl],?_⟩;have hd:cs.drop off=ecl t++cs.drop (off+2):=by
   apply DI;intro j;rw[BU];by_cases hj:j<2
   ·rw[BK (by simpa[ecl] using hj),←ht j hj];simp
   ·rw[BE (by simp[ecl];omega),BU];congr 1;simp[ecl];omega
  rw[hd,BC,←he,List.take_append];rw[A5 (by simp[ecl];omega)];congr 2;simp[ecl];omega
theorem Yj {H:Type} {enc:TypeId×Value→H} {P:Program} {w:World} {ae:Nat} {t E:TypeId} {f0 f1 g0 g1:Field} {v:Value} {d:DataW H} {ps:List MemPlace} (ht:P.underlying t=some (.struct #[f0,f1])) (hI:P.underlying f0.type=some (.int .i64)) (hE:P.underlying f1.type=some (.slice E)) (an:P.underlying E=some (.struct #[g0,g1])) (am:P.underlying g0.type=some (.int .i64)) (ak:P.underlying g1.type=some (.int .i64)) (az:f0.offset=0) (au:f1.offset=1) (aw:P.cellsOf f0.type=1) (ax:P.cellsOf f1.type=1) (hct:P.cellsOf t=2) (ce:P.cellsOf E=2) (aq:g0.offset=0) (av:g1.offset=1) (ay:P.cellsOf g0.type=1) (ao:P.cellsOf g1.type=1) (h:DataW.Trod enc P w 0 (fun _=>true) true t v d ps) (al:Value.okWide P w .any ae t v):∃n p m cap es c,v=gv n p m cap∧Rw ecl 2 p m es c∧m≤maxLen∧(∀q∈c,w.heap[q.1]? =some q.2)∧(c.map (·.1)).Nodup:=by
 have h':∃cs,v= .agg cs∧cs.size=P.cellsOf t∧Row.okWide P w .any ae t cs:=by simpa only[Value.okWide,ht] using al
 obtain⟨cs,rfl,ai,_⟩:=h';obtain⟨l⟩:=cs;rw[hct] at ai;obtain⟨a,b,rfl⟩:∃a b,l=[a,b]:=by
  match l,ai with
  |[a,b],_=>exact⟨a,b,rfl⟩
 obtain⟨a6,h⟩:=h;obtain⟨y0,y1,k,_,_,h0,h1⟩:=trod_struct2 ht h;rw[az,aw] at h0;rw[au,ax] at h1;simp only[Value.cells,DL,List.drop_succ_cons,List.take_succ_cons,List.take_zero] at h0 h1;obtain⟨n,hn,_,_⟩:=DataW.trod_int hI h0;obtain rfl:a=Z9 Z8 n:=by simpa using hn
 rcases Go.Deep.open_slice_pairs hE an ce aq av ay ao h1 with⟨hb,_⟩|⟨ad,len,cap,m,k',V0,V1,D0,D1,P0,P1,hb,_,hl,hm,aj,_,hx⟩
 ·obtain rfl:b= .slice none 0 0:=by simpa using hb
  exact⟨n,none,0,0,[],[],rfl,⟨rfl,.inl ⟨rfl,rfl⟩⟩,by decide,by simp,by simp⟩
 ·obtain rfl:b= .slice (some ad) len cap:=by simpa using hb
  by_cases hz:len=0
  ·subst hz;exact⟨n,some ad,0,cap,[],[],rfl,⟨rfl,.inl ⟨rfl,rfl⟩⟩,by decide,by simp,by simp⟩
  ·simp only[if_true] at aj;subst aj;have each:∀i,i<len→∃e:IE,∀j,j<2→w.cell? (ad.add (i*2+j))=(ecl e)[j]? :=by
    intro i hi;obtain⟨x0,x1,t0,t1⟩:=hx i oM;obtain⟨a0,a2,_,_⟩:=DataW.trod_int am t0;obtain⟨a1,a3,_,_⟩:=DataW.trod_int ak t1;refine⟨(a0,a1),fun j hj=>?_⟩
    match j,hj with
    |0,_=>rw[B6,x0];simpa[ecl] using a2
    |1,_=>rw[x1];simpa[ecl] using a3
   obtain⟨bk,off,ag⟩:=ad;obtain⟨t0,a4⟩:=each 0 oM;have aa:=a4 0 oM;have hs:ag=none:=by
    cases ag with
    |none=>rfl
    |some s=>
     exfalso;simp only[Addr.add,World.cell?,ecl,List.getElem?_cons_zero] at aa;revert aa;split<;>simp
   subst hs;have ab:∀i,((⟨bk,off,none⟩:Addr).add i)=⟨bk,off+i,none⟩:=fun i=>Addr.add_mk ..;cases hbk:w.heap[bk]? with
   |none=>rw[ab] at aa;simp[World.cell?,hbk,ecl] at aa
   |some ob=>
    cases ob with
    |cells ac T fz=>
     obtain⟨es,a5,ah⟩:=nK ac.toList len off (fun i hi=>by
      obtain⟨t,ht⟩:=each i hi;refine⟨t,fun j hj=>?_⟩;rw[←ht j hj,ab,cell_of_row w bk _ ac T fz hbk];simp[Nat.add_assoc])
     refine⟨n,_,len,_,es,[(bk,Al ac.toList T fz)],rfl,⟨a5,.inr ⟨bk,off,ac.toList,T,fz,rfl,rfl,ah⟩⟩,oM,?_,by simp⟩;intro q hq;simp only[AX] at hq;subst hq;simpa[Al] using hbk
    |_=>rw[ab] at aa;simp[World.cell?,hbk,ecl] at aa
def Fy (m:Nat):List IE:=(BA m).map fun (i:Nat)=>((i:Int),((i+1:Nat):Int))
def Cz (m:Nat):List IE:=Fy m++[(0,(m:Int))]
theorem Ld (m:Nat):(Fy m).length=m:=by simp[Fy]
theorem Nk (m:Nat):(Cz m).length=m+1:=by simp[Cz,Fy]
theorem Ti {m i:Nat} (h:i<m):Ai (Fy m) i=((i:Int),((i+1:Nat):Int)):=by unfold Ai Fy;rw[AM,BH,CK h];rfl
theorem dJ {m i:Nat} (h:i<m):Ai (Cz m) i=((i:Int),((i+1:Nat):Int)):=by rw[←Ti h];unfold Ai Cz;rw[AM,AM,BK (by rw[Ld];exact h)]
theorem nL (m:Nat):Ai (Cz m) m=(0,(m:Int)):=by unfold Ai Cz;rw[AM,BE (by rw[Ld];exact AI _),Ld,Nat.sub_self];rfl
theorem Tj (m:Nat):∀e∈Fy m,inE ((m+1:Nat):Int) e:=by intro e he;obtain⟨i,hi,rfl⟩:=AO.1 he;have:=A9.1 hi;unfold inE;dsimp only;omega
theorem Vc (m:Nat):∀e∈Cz m,inE ((m+1:Nat):Int) e:=by
 intro e he;rcases AR.1 he with he|he
 ·exact Tj m e he
 ·rw[AX.1 he];unfold inE;dsimp only;omega
section
variable {m:Nat}
theorem FR {w u v:Nat} (hu:u≤m) (hv:v≤m) (hw:w≤m) (ag:u≠w) (ae:v≠w):Cn (gE (Cz m)) (Act (Cz m) w) u v:=by
 have aa:∀k,k<m→k≠w→k+1≠w→Cn (gE (Cz m)) (Act (Cz m) w) k (k+1):=fun k hk h1 h2=>by
  have hg:gE (Cz m) k=(k,k+1):=by rw[Fw (by rw[Nk];omega),dJ hk];dsimp only;rw[AU,AU]
  have ha:Act (Cz m) w k:=(Fh (Vc m)).2 ⟨by rw[Nk];omega,by rw[hg];exact h1,by rw[hg];exact h2⟩;have:=Cn.edge (g:=gE (Cz m)) ha;rwa[hg] at this
 have ah:∀d k,k+d≤m→w<k→Cn (gE (Cz m)) (Act (Cz m) w) k (k+d):=by
  intro d;induction d with
  |zero=>intro k _ _;exact .refl _
  |succ d ih=>intro k h1 h2;exact(ih k oM h2).trans (aa (k+d) oM oM oM)
 have ab:∀k,k<w→Cn (gE (Cz m)) (Act (Cz m) w) 0 k:=by
  intro k;induction k with
  |zero=>intro _;exact .refl _
  |succ k ih=>intro h1;exact(ih oM).trans (aa k oM oM oM)
 have ad:w≠0→w≠m→Cn (gE (Cz m)) (Act (Cz m) w) 0 m:=fun h1 h2=>by
  have hg:gE (Cz m) m=(0,m):=by rw[Fw (by rw[Nk];omega),nL];dsimp only;rw[AU];rfl
  have ha:Act (Cz m) w m:=(Fh (Vc m)).2 ⟨by rw[Nk];omega,by rw[hg];exact fun h=>h1 h.symm,by rw[hg];exact fun h=>h2 h.symm⟩;have:=Cn.edge (g:=gE (Cz m)) ha;rwa[hg] at this
 have ac:∀k,w<k→k≤m→Cn (gE (Cz m)) (Act (Cz m) w) k m:=fun k h1 h2=>by have:=ah (m-k) k oM h1;rwa[show k+(m-k)=m by omega] at this
 rcases Nat.lt_or_gt_of_ne ag with h1|h1
 ·rcases Nat.lt_or_gt_of_ne ae with h2|h2
  ·exact(ab u h1).symm.trans (ab v h2)
  ·exact(ab u h1).symm.trans ((ad oM oM).trans (ac v h2 hv).symm)
 ·rcases Nat.lt_or_gt_of_ne ae with h2|h2
  ·exact(ac u h1 hu).trans ((ad oM oM).symm.trans (ab v h2))
  ·exact(ac u h1 hu).trans (ac v h2 hv).symm
end
def Sc (es:List IE) (i k:Nat):Prop:=∀v u w:Nat,Cy es i u→Cy es k w→u≠v→w≠v→Cn (gE es) (Act es v) u w
structure Kl (es:List IE) (bo:List T5):Prop where
 rise:bo.Pairwise fun a c=>a.c0<c.c0
 mem:∀z,z∈bo↔∃i k:Nat,i<es.length∧k<es.length∧z=⟨(i:Int),(k:Int),0,0,0⟩∧Aq es i∧Aq es k∧Sc es i k∧∀j,j<k→Aq es j→¬Sc es i j
theorem Kl.uniq {es:List IE} {a b:List T5} (ha:Kl es a) (hb:Kl es b):a=b:=cZ ha.rise hb.rise fun z=>(ha.mem z).trans (hb.mem z).symm
theorem Tk {g g':Nat→Ed} {S S':Nat→Prop} {a b:Nat} (h:Cn g S a b) (f:Nat→Nat) (hs:∀i,S i→Cn g' S' (f (g i).1) (f (g i).2)):Cn g' S' (f a) (f b):=by
 induction h with
 |refl=>exact .refl _
 |step _ hj ih=>
  obtain⟨i,h1,⟨rfl,rfl⟩|⟨rfl,rfl⟩⟩:=hj
  ·exact ih.trans (hs i h1)
  ·exact ih.trans (hs i h1).symm
section
variable {N:Nat} {es:List IE} (hf:∀e∈es,inE N e)
include hf
theorem Rk {i:Nat} (hi:i<es.length):∃a b:Nat,Ai es i=((a:Int),(b:Int))∧gE es i=(a,b)∧a<N∧b<N∧(Aq es i↔a≠b)∧∀u,Cy es i u↔u=a∨u=b:=by
 have h:=Iz hf hi;unfold inE at h;have hg:=Fw hi;refine⟨(Ai es i).1.toNat,(Ai es i).2.toNat,?_,hg,oM,oM,?_,fun u=>?_⟩
 ·rw[DM h.1,DM h.2.2.1]
 ·unfold Aq;omega
 ·unfold Cy;omega
theorem Yk {i k:Nat} (hi:i<es.length) (hk:k<es.length) (ag:Aq es i) (h:∀v u w:Nat,v<N→Cy es i u→Cy es k w→u≠v→w≠v→Cn (gE es) (Act es v) u w):Sc es i k:=by
 intro v u w hu hw ah ai;by_cases hv:v<N
 ·exact h v u w hv hu hw ah ai
 ·obtain⟨a,b,_,hg,ha,hb,aa,he⟩:=Rk hf hi;have ab:=aa.1 ag;have ac:∀{x:Nat} {p q:Nat},Cn (gE es) (Act es x) p q→Cn (gE es) (Act es v) p q:=fun h=>h.mono fun j hj=>by have hj:=(Fh hf).1 hj;obtain⟨c,d,_,hg,hc,hd,_⟩:=Rk hf hj.1;exact(Fh hf).2 ⟨hj.1,by rw[hg];dsimp only;omega,by rw[hg];dsimp only;omega⟩
  have ad:Cn (gE es) (Act es v) a b:=by have:=Cn.edge (g:=gE es) (S:=Act es v) (i:=i) ((Fh hf).2 ⟨hi,by rw[hg];dsimp only;omega,by rw[hg];dsimp only;omega⟩);rw[hg] at this;exact this
  have key:∀x y:Nat,Cy es i x→x≠y→y<N→Cn (gE es) (Act es v) x y→Cn (gE es) (Act es v) x w:=fun x y hx aj hy hc=>by
   by_cases ae:w=y
   ·rw[ae];exact hc
   ·exact ac (h y x w hy hx hw aj ae)
  rcases(he u).1 hu with rfl|rfl
  ·exact key u b hu ab hb ad
  ·exact key u a hu (Ne.symm ab) ha ad.symm
theorem Vd {ls:List (List Int)} (hA:Kx N es ls) {i k:Nat} (hi:i<es.length) (hk:k<es.length) (ac:Aq es i) (ae:Aq es k):Sg N es ls i k↔Sc es i k:=by
 have ad:∀{j u:Nat},j<es.length→Cy es j u→u<N:=fun {j u} hj hu=>by obtain⟨a,b,_,_,ha,hb,_,he⟩:=Rk hf hj;rcases(he u).1 hu with rfl|rfl<;>assumption
 constructor
 ·refine fun hs=>Yk hf hi hk ac fun v u w hv hu hw aa ab=>?_;have h:=hs v hv;rw[Lt hA hf rfl hv hi ac hu aa,Lt hA hf rfl hv hk ae hw ab] at h;exact(hA.lab_eq hv (ad hi hu) (ad hk hw) aa ab).1 h
 ·intro hs v hv;obtain⟨a,b,_,_,ha,hb,ah,he⟩:=Rk hf hi;obtain⟨c,d,_,_,hc,hd,ai,ag⟩:=Rk hf hk;obtain⟨u,hu,aa⟩:∃u,Cy es i u∧u≠v:=by
   by_cases h:a=v
   ·exact⟨b,(he b).2 (.inr rfl),fun hq=>ah.1 ac oM⟩
   ·exact⟨a,(he a).2 (.inl rfl),h⟩
  obtain⟨w,hw,ab⟩:∃u,Cy es k u∧u≠v:=by
   by_cases h:c=v
   ·exact⟨d,(ag d).2 (.inr rfl),fun hq=>ai.1 ae oM⟩
   ·exact⟨c,(ag c).2 (.inl rfl),h⟩
  rw[Lt hA hf rfl hv hi ac hu aa,Lt hA hf rfl hv hk ae hw ab];exact(hA.lab_eq hv (ad hi hu) (ad hk hw) aa ab).2 (hs v u w hu hw aa ab)
theorem nM {i:Nat} (hi:i<es.length) (aa:Aq es i):Sc es i i:=by obtain⟨ls,hA⟩:=dF N es;exact(Vd hf hA hi hi aa aa).1 fun _ _=>rfl
theorem dK {i k:Nat} (h:Sc es i k):Sc es k i:=have _:=hf;fun v u w hu hw h1 h2=>(h v w u hw hu h2 h1).symm
end
theorem FS {N:Nat} {es:List IE} {lab:List Int} {fl:List Bool} {r b:List T5} {tl:List (Nat×Fo)} {l o:List T5} (hf:∀e∈es,inE N e) (hN:N≤1000000) (hP:Av N es lab fl r b) (hT:Ao N es lab b tl l) (hL:Ix N es fl l o) (hm:es.length≤1000000) {lab2:List Int} (h2:Ee (gE (peB es fl l o)) (fun i=>i<(peB es fl l o).length) N (-1) lab2):Kl es (Gy l (edT es) (Bb lab2)):=by
 obtain⟨ls,hA⟩:=dF N es;refine⟨nF es _,fun z=>?_⟩;rw[nE (ls:=ls) ⟨hA,hf,hP,hT,hN⟩ hL hm h2];refine exists_congr fun i=>exists_congr fun k=>?_;constructor
 ·rintro⟨h1,h2,h3,h4,h5,h6,h7⟩;exact⟨h1,h2,h3,h4,h5,(Vd hf hA h1 h2 h4 h5).1 h6,fun j hj hn hs=>h7 j hj hn ((Vd hf hA h1 oM h4 hn).2 hs)⟩
 ·rintro⟨h1,h2,h3,h4,h5,h6,h7⟩;exact⟨h1,h2,h3,h4,h5,(Vd hf hA h1 h2 h4 h5).2 h6,fun j hj hn hs=>h7 j hj hn ((Vd hf hA h1 oM h4 hn).1 hs)⟩
theorem FT {N:Nat} {es:List IE} (hf:∀e∈es,inE N e) {i:Nat} (hi:i<es.length) (hn:Aq es i):∃k:Nat,k≤i∧Aq es k∧Sc es i k∧∀j,j<k→Aq es j→¬Sc es i j:=by obtain⟨k,h1,⟨h2,h3⟩,h4⟩:=Us (p:=fun k=>Aq es k∧Sc es i k) (n:=i) ⟨hn,nM hf hi hn⟩;exact⟨k,h1,h2,h3,fun j hj aa hs=>h4 j hj ⟨aa,hs⟩⟩
theorem FU (m:Nat):Kl (Fy m) ((BA m).map fun (i:Nat)=>(⟨(i:Int),(i:Int),0,0,0⟩:T5)):=by
 have hn:∀{j},j<m→Aq (Fy m) j:=fun {j} hj=>by unfold Aq;rw[Ti hj];dsimp only;omega
 have hE:∀{j u:Nat},j<m→(Cy (Fy m) j u↔u=j∨u=j+1):=fun {j u} hj=>by unfold Cy;rw[Ti hj];dsimp only;omega
 have aa:∀{i k:Nat},k<m→i<k→¬Sc (Fy m) i k:=fun {i k} hk ac hs=>by
  have h1:=hs (i+1) i (k+1) ((hE oM).2 (.inl rfl)) ((hE hk).2 (.inr rfl)) oM oM;have h2:=h1.stay (X:=fun z=>z≤i) (AI _) fun j hj=>by obtain⟨j1,j2,j3⟩:=(Fh (Tj m)).1 hj;rw[Ld] at j1;rw[Fw (by rw[Ld];exact j1),Ti j1] at j2 j3⊢;dsimp only at j2 j3⊢;omega
  omega
 have ab:∀{i k:Nat},i<m→k<m→Sc (Fy m) i k→i=k:=fun {i k} hi hk hs=>by
  rcases B5 i k with h|h|h
  ·exact absurd hs (aa hk h)
  ·exact h
  ·exact absurd (dK (Tj m) hs) (aa hi h)
 refine⟨?_,fun z=>?_⟩
 ·rw[A6];exact CV.imp fun h=>by dsimp only;omega
 rw[AO,Ld];constructor
 ·rintro⟨i,hi,rfl⟩;have hi:=A9.1 hi;exact⟨i,i,hi,hi,rfl,hn hi,hn hi,nM (Tj m) (by rw[Ld];exact hi) (hn hi),fun j hj _ hs=>by have:=ab hi oM hs;omega⟩
 ·rintro⟨i,k,hi,hk,rfl,_,_,hs,_⟩;obtain rfl:=ab hi hk hs;exact⟨i,A9.2 hi,rfl⟩
theorem FV (m:Nat) (hm:2≤m):Kl (Cz m) ((BA (m+1)).map fun (i:Nat)=>(⟨(i:Int),0,0,0,0⟩:T5)):=by
 have aa:∀j,j<m+1→∃a b:Nat,Ai (Cz m) j=((a:Int),(b:Int))∧a≠b∧a≤m∧b≤m:=fun j hj=>by
  rcases Nat.eq_or_lt_of_le (Nat.lt_succ_iff.1 hj) with rfl|h1
  ·exact⟨0,j,nL j,oM,oM,oM⟩
  ·exact⟨j,j+1,dJ h1,oM,oM,oM⟩
 have hn:∀{j},j<m+1→Aq (Cz m) j:=fun {j} hj=>by obtain⟨a,b,h1,h2,_⟩:=aa j hj;unfold Aq;rw[h1];dsimp only;omega
 have hE:∀{j u:Nat},j<m+1→Cy (Cz m) j u→u≤m:=fun {j u} hj h=>by obtain⟨a,b,h1,h2,h3,h4⟩:=aa j hj;unfold Cy at h;rw[h1] at h;dsimp only at h;omega
 have hs:∀{i k:Nat},i<m+1→k<m+1→Sc (Cz m) i k:=fun {i k} hi hk=>
  Yk (Vc m) (by rw[Nk];exact hi) (by rw[Nk];exact hk) (hn hi) fun v u w hv hu hw h1 h2=>FR (hE hi hu) (hE hk hw) oM h1 h2
 refine⟨?_,fun z=>?_⟩
 ·rw[A6];exact CV.imp fun h=>by dsimp only;omega
 rw[AO,Nk];constructor
 ·rintro⟨i,hi,rfl⟩;have hi:=A9.1 hi;exact⟨i,0,hi,oM,rfl,hn hi,hn oM,hs hi oM,fun j hj=>by omega⟩
 ·rintro⟨i,k,hi,hk,rfl,_,_,_,hl⟩;have ab:k=0:=BS fun h=>hl 0 oM (hn oM) (hs hi oM);subst ab;exact⟨i,A9.2 hi,rfl⟩
theorem eAt_l {a b:List IE} {i:Nat} (h:i<a.length):Ai (a++b) i=Ai a i:=by unfold Ai;rw[AM,AM,BK h]
theorem eAt_r {a b:List IE} (i:Nat):Ai (a++b) (a.length+i)=Ai b i:=by unfold Ai;rw[AM,AM,BE oM,Nat.add_sub_cancel_left]
theorem FW {N:Nat} {es:List IE} (hf:∀e∈es,inE N e) {k:Nat} (hk:k<es.length) (hn:Aq es k) {a b:List T5} (ha:Kl es a) (hb:Kl (es++[((Ai es k).2,(Ai es k).1)]) b):∃c:Int,(⟨(k:Int),c,0,0,0⟩:T5)∈a∧b=a++[⟨(es.length:Int),c,0,0,0⟩]:=by
 obtain⟨m,hm⟩:∃m,es.length=m:=⟨_,rfl⟩
 obtain⟨es',ae⟩:∃es',es++[((Ai es k).2,(Ai es k).1)]=es':=⟨_,rfl⟩
 rw[ae] at hb;rw[hm] at hk⊢;have ai:es'.length=m+1:=by rw[←ae,AH,List.length_singleton,hm]
 have ak:∀{j},j<m→Ai es' j=Ai es j:=fun {j} hj=>by rw[←ae];exact eAt_l oM
 have al:Ai es' m=((Ai es k).2,(Ai es k).1):=by rw[←ae,←hm];exact eAt_r 0
 have au:∀e∈es',inE N e:=by
  intro e he;rw[←ae] at he;rcases AR.1 he with he|he
  ·exact hf e he
  ·rw[AX.1 he];have h:=Iz hf (i:=k) oM;exact⟨h.2.2.1,h.2.2.2,h.1,h.2.1⟩
 have aj:∀{j},j<m→gE es' j=gE es j:=fun {j} hj=>by rw[Fw oM,Fw oM,ak hj]
 have av:gE es' m=((gE es k).2,(gE es k).1):=by rw[Fw oM,Fw oM,al]
 let q:Nat→Nat:=fun j=>if j<m then j else k
 have aa:∀{j},j<m→q j=j:=fun h=>if_pos h;have ab:q m=k:=if_neg (Nat.lt_irrefl _);have a1:∀{j},j<m+1→q j<m:=fun {j} hj=>by
  by_cases h:j<m
  ·rw[aa h];exact h
  ·obtain rfl:j=m:=by omega
   rw[ab];exact hk
 have ah:∀{j u},j<m+1→(Cy es' j u↔Cy es (q j) u):=fun {j u} hj=>by
  by_cases h:j<m
  ·rw[aa h];unfold Cy;rw[ak h]
  ·obtain rfl:j=m:=by omega
   rw[ab];unfold Cy;rw[al];exact Or.comm
 have ac:∀{j},j<m+1→(Aq es' j↔Aq es (q j)):=fun {j} hj=>by
  by_cases h:j<m
  ·rw[aa h];unfold Aq;rw[ak h]
  ·obtain rfl:j=m:=by omega
   rw[ab];unfold Aq;rw[al];exact⟨Ne.symm,Ne.symm⟩
 have aw:∀{v u w},Cn (gE es') (Act es' v) u w↔Cn (gE es) (Act es v) u w:=fun {v u w}=>by
  constructor
  ·intro h;refine Tk h (fun z=>z) fun j hj=>?_;obtain⟨j1,j2,j3⟩:=(Fh au).1 hj;rw[ai] at j1;by_cases h:j<m
   ·rw[aj h] at j2 j3⊢;exact Cn.edge ((Fh hf).2 ⟨oM,j2,j3⟩)
   ·obtain rfl:j=m:=by omega
    rw[av] at j2 j3⊢;exact(Cn.edge ((Fh hf).2 ⟨oM,j3,j2⟩)).symm
  ·intro h;refine Tk h (fun z=>z) fun j hj=>?_;obtain⟨j1,j2,j3⟩:=(Fh hf).1 hj;have a0:j<m:=oM;rw[←aj a0] at j2 j3⊢;exact Cn.edge ((Fh au).2 ⟨oM,j2,j3⟩)
 have ad:∀{i j},i<m+1→j<m+1→(Sc es' i j↔Sc es (q i) (q j)):=fun {i j} hi hj=>by
  unfold Sc;constructor
  ·intro h v u w h1 h2 h3 h4;exact aw.1 (h v u w ((ah hi).2 h1) ((ah hj).2 h2) h3 h4)
  ·intro h v u w h1 h2 h3 h4;exact aw.2 (h v u w ((ah hi).1 h1) ((ah hj).1 h2) h3 h4)
 obtain⟨c,c1,c2,c3,c4⟩:=FT hf (i:=k) oM hn;refine⟨(c:Int),(ha.mem _).2 ⟨k,c,oM,oM,rfl,hn,c2,c3,c4⟩,hb.uniq ⟨?_,fun z=>?_⟩⟩
 ·rw[CB];refine⟨ha.rise,List.pairwise_singleton _ _,fun x hx y hy=>?_⟩;obtain⟨i,_,hi,_,rfl,_⟩:=(ha.mem x).1 hx;rw[AX.1 hy];dsimp only;omega
 rw[AR,AX,ha.mem,ai];have ax:∀i x,i<m+1→x<m+1→Aq es' i→Aq es' x→Sc es' i x→(∀j,j<x→Aq es' j→¬Sc es' i j)→x<m∧Aq es x∧Sc es (q i) x∧∀j,j<x→Aq es j→¬Sc es (q i) j:=by
  intro i x hi hx ay am hs hl;have az:x<m:=BS fun h=>by
   obtain rfl:x=m:=by omega
   refine hl k hk ((ac oM).2 (by rw[aa hk];exact hn)) ((ad hi oM).2 ?_);have:=(ad hi hx).1 hs;rw[ab] at this;rw[aa hk];exact this
  have h1:=(ac hx).1 am;have h2:=(ad hi hx).1 hs;rw[aa az] at h1 h2;refine⟨az,h1,h2,fun j hj an ao=>hl j hj ((ac oM).2 (by rw[aa oM];exact an)) ((ad hi oM).2 (by rw[aa (by omega:j<m)];exact ao))⟩
 have ag:∀i x,i<m+1→x<m→Aq es (q i)→Aq es x→Sc es (q i) x→(∀j,j<x→Aq es j→¬Sc es (q i) j)→Aq es' i∧Aq es' x∧Sc es' i x∧∀j,j<x→Aq es' j→¬Sc es' i j:=by intro i x hi hx ay am hs hl;refine⟨(ac hi).2 ay,(ac oM).2 (by rw[aa hx];exact am),(ad hi oM).2 (by rw[aa hx];exact hs),fun j hj an ao=>?_⟩;have h1:=(ac oM).1 an;have h2:=(ad hi oM).1 ao;rw[aa (by omega:j<m)] at h1 h2;exact hl j hj h1 h2
 constructor
 ·rintro(⟨i,x,hi,hx,rfl,h1,h2,h3,h4⟩|rfl)
  ·have aq:i<m:=oM;obtain⟨g1,g2,g3,g4⟩:=ag i x oM oM (by rw[aa aq];exact h1) h2 (by rw[aa aq];exact h3) (by rw[aa aq];exact h4);exact⟨i,x,oM,oM,rfl,g1,g2,g3,g4⟩
  ·obtain⟨g1,g2,g3,g4⟩:=ag m c oM oM (by rw[ab];exact hn) c2 (by rw[ab];exact c3) (by rw[ab];exact c4);exact⟨m,c,oM,oM,rfl,g1,g2,g3,g4⟩
 ·rintro⟨i,x,hi,hx,rfl,h1,h2,h3,h4⟩;obtain⟨g1,g2,g3,g4⟩:=ax i x hi hx h1 h2 h3 h4;by_cases h:i<m
  ·rw[aa h] at g3 g4;have:=(ac hi).1 h1;rw[aa h] at this;exact .inl ⟨i,x,oM,oM,rfl,this,g2,g3,g4⟩
  ·obtain rfl:i=m:=by omega
   rw[ab] at g3 g4;obtain rfl:x=c:=by
    rcases B5 x c with h5|h5|h5
    ·exact absurd g3 (c4 x h5 g2)
    ·exact h5
    ·exact absurd c3 (g4 c h5 c2)
   exact .inr rfl
def shL (s:Nat) (es:List IE):List IE:=es.map fun e=>(e.1+(s:Int),e.2+(s:Int))
theorem shL_at {s:Nat} {es:List IE} {i:Nat} (h:i<es.length):Ai (shL s es) i=((Ai es i).1+(s:Int),(Ai es i).2+(s:Int)):=by unfold shL;have h1:=Ky h;have h2:=Ky (es:=es.map fun e=>(e.1+(s:Int),e.2+(s:Int))) (i:=i) (by rw[AQ];exact h);rw[BH,h1] at h2;exact(BF h2).symm
theorem FX {s M:Nat} {ea eb:List IE} (ad:∀e∈ea,inE ((s+1:Nat):Int) e) (ab:∀e∈eb,inE ((M+1:Nat):Int) e) {x y:List T5} (hx:Kl ea x) (hy:Kl eb y):(∀e∈ea++shL s eb,inE ((s+M+1:Nat):Int) e)∧Kl (ea++shL s eb) (x++y.map fun t=>⟨t.c0+(ea.length:Int),t.c1+(ea.length:Int),0,0,0⟩):=by
 obtain⟨p,hp⟩:∃p,ea.length=p:=⟨_,rfl⟩
 obtain⟨q,hq⟩:∃q,eb.length=q:=⟨_,rfl⟩
 obtain⟨es,he⟩:∃es,ea++shL s eb=es:=⟨_,rfl⟩
 have ag:es.length=p+q:=by rw[←he,AH,hp];unfold shL;rw[AQ,hq]
 have hf:∀e∈es,inE ((s+M+1:Nat):Int) e:=by
  intro e h;rw[←he] at h;rcases AR.1 h with h|h
  ·have:=ad e h;unfold inE at this⊢;omega
  ·obtain⟨d,hd,rfl⟩:=AO.1 h;have:=ab d hd;unfold inE at this⊢;dsimp only;omega
 rw[he,hp];refine⟨hf,?_⟩;have ax:∀{j},j<p→Ai es j=Ai ea j:=fun {j} hj=>by rw[←he];exact eAt_l oM
 have ay:∀{j},j<q→Ai es (p+j)=((Ai eb j).1+(s:Int),(Ai eb j).2+(s:Int)):=fun {j} hj=>by rw[←he,←hp,eAt_r,shL_at oM]
 have ah:∀{j},j<p→gE es j=gE ea j:=fun {j} hj=>by rw[Fw oM,Fw oM,ax hj]
 have ai:∀{j},j<q→gE es (p+j)=((gE eb j).1+s,(gE eb j).2+s):=fun {j} hj=>by have:=Iz ab (i:=j) oM;unfold inE at this;rw[Fw oM,Fw oM,ay hj];dsimp only;congr 1<;>omega
 have az:∀{j},j<p→(gE ea j).1≤s∧(gE ea j).2≤s:=fun {j} hj=>by have:=Iz ad (i:=j) oM;unfold inE at this;rw[Fw oM];dsimp only;omega
 have aj:∀{j u},j<p→(Cy es j u↔Cy ea j u):=fun {j u} hj=>by unfold Cy;rw[ax hj]
 have ak:∀{j u},j<q→(Cy es (p+j) u↔s≤u∧Cy eb j (u-s)):=fun {j u} hj=>by have:=Iz ab (i:=j) oM;unfold inE at this;unfold Cy;rw[ay hj];dsimp only;omega
 have a5:∀{j u},j<p→Cy ea j u→u≤s:=fun {j u} hj hu=>by have:=Iz ad (i:=j) oM;unfold inE at this;unfold Cy at hu;omega
 have ac:∀{j},j<p→(Aq es j↔Aq ea j):=fun {j} hj=>by unfold Aq;rw[ax hj]
 have ae:∀{j},j<q→(Aq es (p+j)↔Aq eb j):=fun {j} hj=>by unfold Aq;rw[ay hj];dsimp only;omega
 have aq:∀{i k},i<p→k<p→Aq ea i→(Sc es i k↔Sc ea i k):=fun {i k} hi hk al=>by
  constructor
  ·refine fun h=>Yk ad oM oM al fun v u w hv hu hw am an=>?_;have h1:=Tk (h v u w ((aj hi).2 hu) ((aj hk).2 hw) am an) (fun z=>min z s) (g':=gE ea) (S':=Act ea v) fun j hj=>by
    obtain⟨j1,j2,j3⟩:=(Fh hf).1 hj;rw[ag] at j1;by_cases aa:j<p
    ·have hb:=az aa;rw[ah aa] at j2 j3⊢;rw[show min (gE ea j).1 s=(gE ea j).1 by omega,show min (gE ea j).2 s=(gE ea j).2 by omega];exact Cn.edge ((Fh ad).2 ⟨oM,j2,j3⟩)
    ·obtain⟨i',rfl⟩:∃i',j=p+i':=⟨j-p,oM⟩
     rw[ai oM];dsimp only;rw[show min ((gE eb i').1+s) s=s by omega,show min ((gE eb i').2+s) s=s by omega];exact .refl _
   have h2:=a5 hi hu;have h3:=a5 hk hw;rwa[show min u s=u by omega,show min w s=w by omega] at h1
  ·intro h v u w hu hw am an;refine Tk (h v u w ((aj hi).1 hu) ((aj hk).1 hw) am an) (fun z=>z) fun j hj=>?_;obtain⟨j1,j2,j3⟩:=(Fh ad).1 hj;have aa:j<p:=oM;rw[←ah aa] at j2 j3⊢;exact Cn.edge ((Fh hf).2 ⟨oM,j2,j3⟩)
 have au:∀{i k},i<q→k<q→Aq eb i→(Sc es (p+i) (p+k)↔Sc eb i k):=fun {i k} hi hk al=>by
  constructor
  ·refine fun h=>Yk ab oM oM al fun v u w hv hu hw am an=>?_;have h1:=Tk (h (v+s) (u+s) (w+s) ((ak hi).2 ⟨oM,by rw[CG];exact hu⟩) ((ak hk).2 ⟨oM,by rw[CG];exact hw⟩) oM oM) (fun z=>z-s) (g':=gE eb) (S':=Act eb v) fun j hj=>by
    obtain⟨j1,j2,j3⟩:=(Fh hf).1 hj;rw[ag] at j1;by_cases aa:j<p
    ·have hb:=az aa;rw[ah aa];rw[show(gE ea j).1-s=0 by omega,show(gE ea j).2-s=0 by omega];exact .refl _
    ·obtain⟨i',rfl⟩:∃i',j=p+i':=⟨j-p,oM⟩
     rw[ai oM] at j2 j3⊢;dsimp only at j2 j3⊢;rw[CG,CG];exact Cn.edge ((Fh ab).2 ⟨oM,oM,oM⟩)
   rwa[CG,CG] at h1
  ·intro h v u w hu hw am an;obtain⟨u1,u2⟩:=(ak hi).1 hu;obtain⟨w1,w2⟩:=(ak hk).1 hw;obtain⟨v',a6,a7⟩:∃v':Nat,(u-s≠v'∧w-s≠v')∧∀z:Nat,z≠v'→z≤M→z+s≠v:=by
    by_cases hv:s≤v
    ·exact⟨v-s,oM,fun z h1 _=>by omega⟩
    ·exact⟨u+w+1,oM,fun z _ _=>by omega⟩
   have h1:=Tk (h v' (u-s) (w-s) u2 w2 a6.1 a6.2) (fun z=>z+s) (g':=gE es) (S':=Act es v) fun j hj=>by obtain⟨j1,j2,j3⟩:=(Fh ab).1 hj;have a9:j<q:=oM;have hb:=Iz ab (i:=j) oM;unfold inE at hb;have hg:=Fw (es:=eb) (i:=j) oM;have e1:=a7 _ j2 (by rw[hg];dsimp only;omega);have e2:=a7 _ j3 (by rw[hg];dsimp only;omega);have h:=ai a9;have h3:=Cn.edge (g:=gE es) (S:=Act es v) (i:=p+j) ((Fh hf).2 ⟨oM,by rw[h];exact e1,by rw[h];exact e2⟩);rw[h] at h3;exact h3
   rwa[Nat.sub_add_cancel u1,Nat.sub_add_cancel w1] at h1
 have a0:∀{i k},i<p→k<q→Aq ea i→Aq eb k→¬Sc es i (p+k):=fun {i k} hi hk al bc h=>by
  obtain⟨a,b,_,_,a1,a2,a3,a4⟩:=Rk ad (i:=i) oM;obtain⟨c,d,_,_,c1,c2,c3,c4⟩:=Rk ab (i:=k) oM;have bf:=a3.1 al;have bg:=c3.1 bc;obtain⟨u,hu,be⟩:∃u,Cy ea i u∧u<s:=by
   by_cases h:a=s
   ·exact⟨b,(a4 b).2 (.inr rfl),oM⟩
   ·exact⟨a,(a4 a).2 (.inl rfl),oM⟩
  obtain⟨w,hw,bh⟩:∃w,Cy eb k w∧0<w:=by
   by_cases h:c=0
   ·exact⟨d,(c4 d).2 (.inr rfl),oM⟩
   ·exact⟨c,(c4 c).2 (.inl rfl),oM⟩
  have h1:=h s u (w+s) ((aj hi).2 hu) ((ak hk).2 ⟨oM,by rw[CG];exact hw⟩) oM oM;have h2:=h1.stay (X:=fun z=>z<s) be fun j hj=>by
   obtain⟨j1,j2,j3⟩:=(Fh hf).1 hj;rw[ag] at j1;by_cases aa:j<p
   ·have hb:=az aa;rw[ah aa] at j2 j3⊢;omega
   ·obtain⟨i',rfl⟩:∃i',j=p+i':=⟨j-p,oM⟩
    rw[ai oM];dsimp only;omega
  omega
 refine⟨?_,fun z=>?_⟩
 ·rw[CB,A6];refine⟨hx.rise,hy.rise.imp fun h=>by dsimp only;omega,fun c hc d hd=>?_⟩;obtain⟨i,_,hi,_,rfl,_⟩:=(hx.mem c).1 hc;obtain⟨t,ht,rfl⟩:=AO.1 hd;obtain⟨k,_,hk,_,rfl,_⟩:=(hy.mem t).1 ht;dsimp only;omega
 rw[AR,hx.mem,AO,ag];constructor
 ·rintro(⟨i,k,hi,hk,rfl,h1,h2,h3,h4⟩|⟨t,ht,rfl⟩)
  ·rw[hp] at hi hk;exact⟨i,k,oM,oM,rfl,(ac hi).2 h1,(ac hk).2 h2,(aq hi hk h1).2 h3,fun j hj hn hs=>h4 j hj ((ac oM).1 hn) ((aq hi oM h1).1 hs)⟩
  ·obtain⟨i,k,hi,hk,rfl,h1,h2,h3,h4⟩:=(hy.mem t).1 ht;rw[hq] at hi hk;refine⟨p+i,p+k,oM,oM,by dsimp only;congr 1<;>omega,(ae hi).2 h1,(ae hk).2 h2,(au hi hk h1).2 h3,fun j hj hn hs=>?_⟩;by_cases aa:j<p
   ·exact a0 aa hi ((ac aa).1 hn) h1 (dK hf hs)
   ·obtain⟨i',rfl⟩:∃i',j=p+i':=⟨j-p,oM⟩
    exact h4 i' oM ((ae oM).1 hn) ((au hi oM h1).1 hs)
 ·rintro⟨i,k,hi,hk,rfl,h1,h2,h3,h4⟩;by_cases av:i<p
  ·have n1:=(ac av).1 h1;by_cases ao:k<p
   ·exact .inl ⟨i,k,oM,oM,rfl,n1,(ac ao).1 h2,(aq av ao n1).1 h3,fun j hj hn hs=>h4 j hj ((ac oM).2 hn) ((aq av oM n1).2 hs)⟩
   ·obtain⟨k',rfl⟩:∃i',k=p+i':=⟨k-p,oM⟩
    exact absurd h3 (a0 av oM n1 ((ae oM).1 h2))
  ·obtain⟨i',rfl⟩:∃i',i=p+i':=⟨i-p,oM⟩
   have aw:i'<q:=oM;have n1:=(ae aw).1 h1;by_cases ao:k<p
   ·exact absurd (dK hf h3) (a0 ao aw ((ac ao).1 h2) n1)
   ·obtain⟨k',rfl⟩:∃i',k=p+i':=⟨k-p,oM⟩
    have a8:k'<q:=oM;refine .inr ⟨⟨(i':Int),(k':Int),0,0,0⟩,(hy.mem _).2 ⟨i',k',oM,oM,rfl,n1,(ae a8).1 h2,(au aw a8 n1).1 h3,fun j hj hn hs=>h4 (p+j) oM ((ae oM).2 hn) ((au aw oM n1).2 hs)⟩,?_⟩;dsimp only;congr 1<;>omega
theorem Tl (bw bd ba bs ro:Nat) (ab:80≤ro) (cd ca cs:Aa) (hW:Wc bd ba bs (wk0 10 9000 ro) cd ca cs) (N:Nat) (hN:N≤40) (p:Option Addr) (m cap:Nat) (es:List IE) (c:Aa) (hv:Rw ecl 2 p m es c) (hm:m≤45) (hf:∀e∈es,inE N e) (aa:Ri N es):Ct AC 27 [pv bw,gv N p m cap] [Ab bw bd ba bs,cd,ca,cs,c] fun v H'=>∃cd' ca' cs' po oc co bq qf bo,v= .tuple #[.slice po bo.length oc,.slice (some ⟨bq,0,none⟩) 5 5,Z9 Z8 0]∧H'=[Ab bw bd ba bs,cd',ca',cs',c,co,qf]∧Kl es bo∧bo.length≤45∧Vec 33 5 po bo.length oc (flat bo) co:=by
 refine(dG bw bd ba bs ro ab cd ca cs hW N hN p m cap es c hv hm hf aa).mono ?_;rintro v H' ⟨cd',ca',cs',W',po,nl,oc,co,bq,qf,fs,lab,fl,r,bt,tl,l,o,lab2,rfl,rfl,_,hT,_,rfl,hV⟩;refine⟨cd',ca',cs',po,oc,co,bq,qf,_,rfl,rfl,FS hf oM hT.parts hT.tab hT.lows (by rw[hv.1];omega) hT.lb,?_,hV⟩;unfold Gy;rw[Xv,Iu,cY];have:=cW (edT es);rw[Mm,hv.1] at this;omega
theorem nN (bw bd ba bs ro:Nat) (ab:80≤ro) (cd ca cs:Aa) (hW:Wc bd ba bs (wk0 10 9000 ro) cd ca cs) (N:Nat) (hN:N≤40) (p:Option Addr) (m cap:Nat) (es:List IE) (c:Aa) (hv:Rw ecl 2 p m es c) (hm:m≤45) (hf:∀e∈es,inE N e) (aa:Ri N es) (A r:Aa) (hA:A.Perm (c++r)):Ct AC 27 [pv bw,gv N p m cap] [Ab bw bd ba bs,cd,ca,cs,A] fun v H'=>∃cd' ca' cs' po oc co bq qf bo,v= .tuple #[.slice po bo.length oc,.slice (some ⟨bq,0,none⟩) 5 5,Z9 Z8 0]∧H'=[Ab bw bd ba bs,cd',ca',cs',A,co,qf]∧Kl es bo∧bo.length≤45∧Vec 33 5 po bo.length oc (flat bo) co:=by
 have h:=Tl bw bd ba bs ro ab cd ca cs hW N hN p m cap es c hv hm hf aa;have h1:Ct AC 27 [pv bw,gv N p m cap] (c::[Ab bw bd ba bs,cd,ca,cs]) fun v H'=>∃H1,H'=c::H1∧∃cd' ca' cs' po oc co bq qf bo,v= .tuple #[.slice po bo.length oc,.slice (some ⟨bq,0,none⟩) 5 5,Z9 Z8 0]∧H1=[Ab bw bd ba bs,cd',ca',cs',co,qf]∧Kl es bo∧bo.length≤45∧Vec 33 5 po bo.length oc (flat bo) co:=by refine Ct.convP h (by refine Bz fun z=>?_;simp only[AW,A4,AP,A8];omega) ?_;rintro v H' ⟨cd',ca',cs',po,oc,co,bq,qf,bo,rfl,rfl,h2⟩;exact⟨c::[Ab bw bd ba bs,cd',ca',cs',co,qf],⟨_,rfl,cd',ca',cs',po,oc,co,bq,qf,bo,rfl,rfl,h2⟩,by refine Bz fun z=>?_;simp only[AW,A4,AP,A8];omega⟩
 refine Ct.convP (Ct.inA h1 hA) (by refine Bz fun z=>?_;simp only[AW,A4,AP,A8];omega) ?_;rintro v H' ⟨H1,rfl,cd',ca',cs',po,oc,co,bq,qf,bo,rfl,rfl,h2⟩;exact⟨[Ab bw bd ba bs,cd',ca',cs',A,co,qf],⟨cd',ca',cs',po,oc,co,bq,qf,bo,rfl,rfl,h2⟩,by refine Bz fun z=>?_;simp only[AW,A4,AP,A8];omega⟩
theorem one_le {α:Type} {l:List α} {a:α} (hn:l.Nodup) (h:∀b∈l,b=a):l.length≤1:=by
 match l,hn,h with
 |[],_,_=>exact AT _
 |[x],_,_=>exact AI _
 |x::y::l,hn,h=>
  rw[List.nodup_cons] at hn;exact absurd (by rw[h x AE,←h y (AF _ AE)];exact AE) hn.1
theorem FY (tt ff:List T5) (es:List IE):((Gp tt ff (edT es)).map (·.c0)).Nodup:=by
 have h0:((Hl ff (edT es)).map (·.c0)).Nodup:=by
  have h1:(Hl ff (edT es)).Pairwise fun a c=>a.c0<c.c0:=by
   unfold Hl Mk;rw[List.pairwise_flatMap];refine⟨fun t _=>by unfold Ii;split<;>(try split)<;>simp,?_⟩;rw[A6];have h2:(edT es).Pairwise fun a c=>a.c0<c.c0:=by unfold edT;rw[A6];exact CV.imp fun h=>by dsimp only;omega
   refine h2.imp fun {a c} aa x hx y hy=>?_;have hc:∀{t u:T5},u∈Ii (Bf (ff.map fun t=>⟨t.c0,1,0,0,0⟩) 0 1 3 t)→u.c0=t.c0:=fun {t u} hu=>by
    unfold Ii at hu;split at hu
    ·cases hu
    ·split at hu
     ·cases hu
     ·rw[AX.1 hu];rfl
   rw[hc hx,hc hy];exact aa
  rw[List.Nodup,A6];exact h1.imp fun h=>by omega
 unfold Gp;exact(Rg (v:=2) (.inr rfl) tt _).nodup_iff.2 ((Rg (v:=2) (.inl rfl) tt _).nodup_iff.2 h0)
theorem fewP_tree {N:Nat} {es:List IE} (hf:∀e∈es,inE N e) (hN:N≤68) (x:Nat) (hk:∀i,i<es.length→i≠x→Kr (gE es) (fun j=>j<es.length) i):Ri N es:=by
 intro lab fl r bt tl l o hP hT hL;have h1:(Gp l (Ba (edT es) fl) (edT es)).length≤1:=by rw[←AQ (f:=fun t:T5=>t.c0)];refine one_le (a:=(x:Int)) (FY _ _ _) fun b hb=>?_;obtain⟨t,ht,rfl⟩:=AO.1 hb;obtain⟨i,e,he,aa,ab,rfl⟩:=(cA hT hf hP.fors.1).1 ht;have hi:=(AK.1 he).1;refine BS fun h=>?_;have h2:=(hP.fors.2 i false aa).2 (hk i hi fun hq=>h (by rw[hq]));cases h2
 have h2:=Xr (Gp l (Ba (edT es) fl) (edT es)) (upF l);have h3:=Xu (upF l) o;have h4:=Xt (upF l) o;have h5:=Xq l;have h6:=hT.len;unfold Kk;rw[Qw,AH];omega
theorem nO {m:Nat} {es:List IE} (ab:m≤es.length) (aa:∀i,i<m→gE es i=(i,i+1)) {i:Nat} (hi:i<m):Kr (gE es) (fun j=>j<es.length) i:=by
 refine⟨oM,fun h=>?_⟩;have h2:=h.stay (X:=fun z=>z≤i) (by rw[aa i hi];exact AI _) fun j ⟨_,hj⟩=>by rw[aa j oM];dsimp only;omega
 rw[aa i hi] at h2;dsimp only at h2;omega
theorem FZ {m:Nat} (hm:m≤60):Ri (m+1) (Fy m):=
 fewP_tree (Tj m) oM m fun i hi _=>nO (m:=m) (by rw[Ld];exact AI _) (fun j hj=>by rw[Fw (by rw[Ld];exact hj),Ti hj];rfl) (by rw[Ld] at hi;exact hi)
theorem F0 {m:Nat} (hm:m≤60):Ri (m+1) (Cz m):=
 fewP_tree (Vc m) oM m fun i hi aa=>nO (m:=m) (by rw[Nk];omega) (fun j hj=>by rw[Fw (by rw[Nk];omega),dJ hj];rfl) (by rw[Nk] at hi;omega)
theorem F1 {P:Program} {W:World} {aa:Nat} {e:TypeId} {v:Value} (he:P.underlying e=some .bool) (h:Value.okWide P W .any aa e v):∃x:Bool,v= .bool x:=by
 have h':Cell.okWide P W .any aa e v:=by simpa only[Value.okWide,he] using h
 unfold Cell.okWide at h';cases v with
 |bool x=>exact⟨x,rfl⟩
 |_=>simp[he,Cell.ok] at h'
theorem nP (es:List IE):(es.flatMap ecl).all Value.oneCell'=true:=by rw[List.all_eq_true];intro v hv;obtain⟨e,_,he⟩:=BZ.1 hv;simp only[ecl,AN,DP,or_false] at he;rcases he with rfl|rfl<;>rfl
theorem nQ (es:List IE):(es.flatMap ecl).length=es.length*2:=by
 induction es with
 |nil=>rfl
 |cons e es ih=>rw[BC,AH,ih,AJ];simp only[ecl,AJ,AS];omega
end Go.Proofs.YtaofijjjheiknaaGreat
