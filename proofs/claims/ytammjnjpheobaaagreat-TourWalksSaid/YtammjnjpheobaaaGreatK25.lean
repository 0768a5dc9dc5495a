/-
  Parts of the proof, put together: EdT, PartsP, PartsU, PartsO, TourC, TourI, Ord, Rank1, RowJ. No condition.
-/
import Derived.Test.YtammjnjpheobaaaGreatK24
set_option linter.unusedVariables false
set_option linter.unusedSimpArgs false
set_option linter.unnecessarySimpa false
set_option maxHeartbeats 4000000
namespace Go.Proofs.YtammjnjpheobaaaGreat
open Go.SL Go.Tup
def edT (es:List IE):List T5:=(List.range es.length).map fun (i:Nat)=>⟨(i:Int),(es.getD i (0,0)).1,(es.getD i (0,0)).2,0,0⟩
theorem edT_len (es:List IE):(edT es).length=es.length:=by unfold edT;simp
theorem edT_get {es:List IE} {i:Nat} {e:IE} (h:es[i]? =some e):(edT es)[i]? =some ⟨(i:Int),e.1,e.2,0,0⟩:=by
 have hi:=(List.getElem?_eq_some_iff.1 h).1
 unfold edT
 rw[List.getElem?_map,List.getElem?_range hi]
 simp only[Option.map_some,List.getD_eq_getElem?_getD,h,Option.getD_some]
theorem edT_take {es:List IE} {i:Nat} {e:IE} (h:es[i]? =some e):(edT es).take (i+1)=(edT es).take i++[⟨(i:Int),e.1,e.2,0,0⟩]:=by
 rw[List.take_add_one,edT_get h];rfl
theorem edT_mem {es:List IE} {t:T5} (h:t∈edT es):∃(i:Nat) (e:IE),es[i]? =some e∧t=⟨(i:Int),e.1,e.2,0,0⟩:=by
 obtain⟨i,hi⟩:=List.mem_iff_getElem?.1 h
 have hl:=(List.getElem?_eq_some_iff.1 hi).1
 rw[edT_len] at hl
 have he:es[i]? =some es[i]:=List.getElem?_eq_getElem hl
 rw[edT_get he] at hi
 exact⟨i,es[i],he,(Option.some.inj hi).symm⟩
theorem edT_lt (es:List IE):(edT es).Pairwise fun a b=>a.c0<b.c0:=by
 unfold edT
 rw[List.pairwise_map]
 exact(List.pairwise_lt_range).imp fun h=>by dsimp only;omega
end Go.Proofs.YtammjnjpheobaaaGreat
namespace Go.Proofs.YtammjnjpheobaaaGreat
open Go.SL Go.Tup Go.Gr
theorem forT_mem {sl:List T5} {fl:List Bool} {e:T5} (h:e∈forT sl fl):∃t∈sl,e=⟨t.c0,t.c1,t.c2,0,0⟩:=by
 unfold forT at h
 obtain⟨⟨t,b⟩,hx,he⟩:=List.mem_filterMap.1 h
 refine⟨t,(List.of_mem_zip hx).1,?_⟩
 dsimp only at he
 split at he
 ·exact(Option.some.inj he).symm
 ·simp at he
theorem forT_sub:∀(sl:List T5) (fl:List Bool),((forT sl fl).map (·.c0)).Sublist (sl.map (·.c0))
 |[],_=>by simp[forT]
 |t::sl,[]=>by simp[forT]
 |t::sl,b::fl=>by
  have ih:=forT_sub sl fl
  unfold forT at ih⊢
  cases b
  ·rw[List.zip_cons_cons,List.filterMap_cons]
   exact ih.cons _
  ·rw[List.zip_cons_cons,List.filterMap_cons]
   exact ih.cons_cons _
theorem forT_len (sl:List T5) (fl:List Bool):(forT sl fl).length≤sl.length:=by
 have:=(forT_sub sl fl).length_le
 simpa using this
theorem edT_ok {N:Nat} {es:List IE} (hf:∀e∈es,inE N e):edgesOk N (edT es):=by
 refine⟨fun t ht=> ?_,(edT_lt es).imp fun h=>by omega⟩
 obtain⟨i,e,he,rfl⟩:=edT_mem ht
 have:=hf e (List.mem_of_getElem? he)
 unfold inE at this
 unfold edgeOk
 dsimp only
 omega
theorem edT_sorted {es:List IE} {sl:List T5} (hp:sl.Perm (edT es)) (hs:Sn sl):sl=edT es:=by
 refine List.Perm.eq_of_pairwise (le:=fun (a b:T5)=>a.c0≤b.c0) ?_ hs ((edT_lt es).imp fun h=>by omega) hp
 intro a b ha hb h1 h2
 obtain⟨i,e,he,rfl⟩:=edT_mem (hp.mem_iff.1 ha)
 obtain⟨j,e',he',rfl⟩:=edT_mem hb
 dsimp only at h1 h2
 obtain rfl:i=j:=by omega
 rw[he] at he'
 rw[Option.some.inj he']
theorem edT_eOf (es:List IE):(edT es).map eOf=es:=by
 refine List.ext_getElem? fun i=> ?_
 rw[List.getElem?_map]
 cases h:es[i]? with
 |none=>rw[List.getElem?_eq_none (by rw[edT_len];exact List.getElem?_eq_none_iff.1 h)];rfl
 |some e=>rw[edT_get h];rfl
structure PartsOk (N:Nat) (es:List IE) (lab:List Int) (fl:List Bool) (r b:List T5):Prop where
 labs:LabOk (gE es) (fun i=>i<es.length) N (-1) lab
 fors:forestOk es fl
 arcs:Arcs (labT lab) (forT (edT es) fl) r
 len:r.length=2*(forT (edT es) fl).length
 tours:b=toursF r
theorem compSpec.parts {N:Nat} {es:List IE} {a f:List T5} (h:compSpec N (edT es) a f):∃lab fl,a=labT lab∧f=forT (edT es) fl∧LabOk (gE es) (fun i=>i<es.length) N (-1) lab∧forestOk es fl:=by
 obtain⟨sl,fl,lab,h1,h2,h3,h4,rfl,rfl⟩:=h
 obtain rfl:=edT_sorted h1 h2
 rw[edT_eOf,edT_len] at h3
 rw[edT_eOf] at h4
 exact⟨lab,fl,rfl,rfl,h3,h4⟩
end Go.Proofs.YtammjnjpheobaaaGreat
namespace Go.Proofs.YtammjnjpheobaaaGreat
open Go.SL Go.Spc Go.Tup Go.Srt Go.Gr
theorem LabOk.root {g:Nat→Ed} {S:Nat→Prop} {N:Nat} {lab:List Int} (h:LabOk g S N (-1) lab) {v:Nat} (hv:v<N):∃x:Nat,lab[v]? =some (x:Int)∧x≤v∧Cn g S v x∧Mn g S x:=by
 obtain⟨x,h1,h2,h3,h4⟩:=h.at_ v hv (by omega)
 exact⟨x,h1,h3,h2,fun u hu hc=>by have:=h4 u (h2.trans hc.symm);omega⟩
theorem LabOk.same {g:Nat→Ed} {S:Nat→Prop} {N:Nat} {lab:List Int} (h:LabOk g S N (-1) lab) {u v:Nat} (hu:u<N) (hv:v<N) (hc:Cn g S u v):lab[u]? =lab[v]? :=by
 obtain⟨x,x1,_,x2,x3⟩:=h.root hu
 obtain⟨y,y1,_,y2,y3⟩:=h.root hv
 rw[x1,y1,x3.uniq y3 (x2.symm.trans (hc.trans y2))]
theorem labT_at {lab:List Int} {v:Nat} {x:Int} (h:lab[v]? =some x):(at5 (labT lab) v).c1=x:=by
 obtain⟨hv,rfl⟩:=List.getElem?_eq_some_iff.1 h
 unfold at5 labT
 rw[List.getD_eq_getElem?_getD,List.getElem?_map,List.getElem?_range hv]
 simp[List.getD_eq_getElem?_getD,hv]
namespace PartsOk
variable {N:Nat} {es:List IE} {lab:List Int} {fl:List Bool} {r b:List T5}
theorem edge (h:PartsOk N es lab fl r b) {e:T5} (he:e∈forT (edT es) fl):∃(i:Nat) (d:IE),es[i]? =some d∧fl[i]? =some true∧e=⟨(i:Int),d.1,d.2,0,0⟩:=by
 unfold forT at he
 obtain⟨⟨t,c⟩,hx,he⟩:=List.mem_filterMap.1 he
 dsimp only at he
 split at he
 next hc=>
  subst hc
  obtain⟨i,hi⟩:=List.mem_iff_getElem?.1 hx
  rw[List.getElem?_zip_eq_some] at hi
  have hil:=(List.getElem?_eq_some_iff.1 hi.1).1
  rw[edT_len] at hil
  have hd:es[i]? =some es[i]:=List.getElem?_eq_getElem hil
  have h1:=hi.1
  rw[edT_get hd] at h1
  have h2:=Option.some.inj h1
  subst h2
  exact⟨i,es[i],hd,hi.2,(Option.some.inj he).symm⟩
 next=>simp at he
theorem hl (h:PartsOk N es lab fl r b) (hf:∀e∈es,inE N e):∀e∈forT (edT es) fl,(at5 (labT lab) e.c1.toNat).c1=(at5 (labT lab) e.c2.toNat).c1:=by
 intro e he
 obtain⟨i,d,hd,_,rfl⟩:=h.edge he
 have h1:=hf d (List.mem_of_getElem? hd)
 unfold inE at h1
 have hg:gE es i=(d.1.toNat,d.2.toNat):=by unfold gE;rw[hd]
 have hc:Cn (gE es) (fun i=>i<es.length) d.1.toNat d.2.toNat:=by
  have:=Cn.edge (g:=gE es) (S:=fun i=>i<es.length) (i:=i) (List.getElem?_eq_some_iff.1 hd).1
  rwa[hg] at this
 have h2:=h.labs.same (u:=d.1.toNat) (v:=d.2.toNat) (by omega) (by omega) hc
 obtain⟨x,hx,_⟩:=h.labs.root (v:=d.1.toNat) (by omega)
 show(at5 (labT lab) d.1.toNat).c1=(at5 (labT lab) d.2.toNat).c1
 rw[labT_at hx,labT_at (h2▸hx)]
theorem tours_len (h:PartsOk N es lab fl r b) (hf:∀e∈es,inE N e):b.length≤2*(forT (edT es) fl).length:=by
 rw[h.tours,←h.len]
 exact h.arcs.tours_len (h.hl hf)
theorem gE_lt (hf:∀e∈es,inE N e):∀j,j<es.length→(gE es j).1<N∧(gE es j).2<N:=by
 intro j hj
 have hd:es[j]? =some es[j]:=List.getElem?_eq_getElem hj
 have h1:=hf _ (List.mem_of_getElem? hd)
 unfold inE at h1
 unfold gE;rw[hd];dsimp only
 omega
theorem for_le (h:PartsOk N es lab fl r b) (hf:∀e∈es,inE N e):(forT (edT es) fl).length≤N:=by
 classical
 have hc:=forest_count (g:=gE es) (n:=N) (fun k v=>decide (Mn (gE es) (fun j=>j<k) v)) (fun i=>decide (¬Cn (gE es) (fun j=>j<i) (gE es i).1 (gE es i).2)) (fun k v=>decide_eq_true_iff) (fun i=>decide_eq_true_iff) es.length (gE_lt hf)
 have h2:((forT (edT es) fl).map fun t=>t.c0.toNat).length≤((List.range es.length).filter fun i=>decide (¬Cn (gE es) (fun j=>j<i) (gE es i).1 (gE es i).2)).length:=by
  refine List.Nodup.length_le_of_subset ?_ ?_
  ·refine List.Pairwise.map _ (R:=fun (a b:T5)=>a.c0<b.c0∧0≤a.c0) (fun a b h=>by omega) ?_
   have hp:(forT (edT es) fl).Pairwise fun a b=>a.c0<b.c0:=by
    have:=List.Pairwise.sublist (R:=fun x y:Int=>x<y) (forT_sub (edT es) fl) (by rw[List.pairwise_map];exact edT_lt es)
    rwa[List.pairwise_map] at this
   refine List.Pairwise.imp_of_mem ?_ hp
   intro a b ha _ hab
   obtain⟨i,d,_,_,rfl⟩:=h.edge ha
   exact⟨hab,by dsimp only;omega⟩
  ·intro v hv
   obtain⟨t,ht,rfl⟩:=List.mem_map.1 hv
   obtain⟨i,d,hd,hfl,rfl⟩:=h.edge ht
   have hi:=(List.getElem?_eq_some_iff.1 hd).1
   have hk:=(h.fors.2 i true hfl).1 rfl
   refine List.mem_filter.2 ⟨List.mem_range.2 (by dsimp only;omega),decide_eq_true ?_⟩
   dsimp only
   rw[Int.toNat_natCast]
   exact fun hcn=>hk.2 (hcn.mono fun j hj=>⟨by omega,hj⟩)
 rw[List.length_map] at h2
 omega
end PartsOk
theorem tours_mem {r:List T5} {t:T5} (h:t∈toursF r):∃i n,i<r.length∧n<perA r i∧t=arcAt r i n:=by
 unfold toursF toursTo at h
 obtain⟨i,hi,hx⟩:=List.mem_flatMap.1 h
 split at hx
 ·unfold tourL at hx
  obtain⟨n,hn,rfl⟩:=List.mem_map.1 hx
  exact⟨i,n,List.mem_range.1 hi,List.mem_range.1 hn,rfl⟩
 ·simp at hx
theorem in_nat {x:Int} (h0:0≤x) (h:x≤1000000):inI64 x:=⟨by omega,by omega⟩
namespace PartsOk
variable {N:Nat} {es:List IE} {lab:List Int} {fl:List Bool} {r b:List T5}
theorem lab_ok (h:PartsOk N es lab fl r b) (hN:N≤1000000):∀t∈labT lab,okT 2 t:=by
 intro t ht
 unfold labT at ht
 obtain⟨v,hv,rfl⟩:=List.mem_map.1 ht
 have hv:=List.mem_range.1 hv
 have hl:=h.labs.len
 obtain⟨x,hx,hxv,_⟩:=h.labs.root (v:=v) (by omega)
 have:lab.getD v 0=(x:Int):=by rw[List.getD_eq_getElem?_getD,hx];rfl
 rw[this]
 exact okT2 (in_nat (by omega) (by omega)) (in_nat (by omega) (by omega))
theorem arc_of (h:PartsOk N es lab fl r b) (hf:∀e∈es,inE N e) {k:Nat} (hk:k<r.length):∃(i:Nat) (d:IE) (x:Nat),es[i]? =some d∧fl[i]? =some true∧x<N∧lab[d.1.toNat]? =some (x:Int)∧
  (at5 r k=⟨2*(i:Int),d.1,d.2,(x:Int),0⟩∨at5 r k=⟨2*(i:Int)+1,d.2,d.1,(x:Int),0⟩):=by
 obtain⟨e,he,hx⟩:=h.arcs.edge hk
 obtain⟨i,d,hd,hfl,rfl⟩:=h.edge he
 have h1:=hf d (List.mem_of_getElem? hd)
 unfold inE at h1
 obtain⟨x,hx1,hx2,_⟩:=h.labs.root (v:=d.1.toNat) (by omega)
 refine⟨i,d,x,hd,hfl,by omega,hx1,?_⟩
 rw[labT_at hx1] at hx
 exact hx
theorem tour_ok (h:PartsOk N es lab fl r b) (hf:∀e∈es,inE N e) (hN:N≤1000) (hm:es.length≤1000):∀t∈b,okT 5 t:=by
 intro t ht
 rw[h.tours] at ht
 obtain⟨i,n,hi,hn,rfl⟩:=tours_mem ht
 have hp:=(h.arcs.per hi).2.1
 have hrl:=h.len
 have hfl:=forT_len (edT es) fl
 rw[edT_len] at hfl
 have hk:=itF_lt (f:=sigF r) sigF_lt hi n
 unfold arcAt
 obtain⟨j,d,x,hd,_,hxN,_,hx⟩:=h.arc_of hf hk
 have hj:=(List.getElem?_eq_some_iff.1 hd).1
 have h1:=hf d (List.mem_of_getElem? hd)
 unfold inE at h1
 rcases hx with hx|hx<;>rw[hx]<;>exact okT5 (in_nat (by dsimp only;omega) (by dsimp only;omega)) (in_nat (by dsimp only;omega) (by dsimp only;omega)) (in_nat (by dsimp only;omega) (by dsimp only;omega)) (in_nat (by dsimp only;omega) (by dsimp only;omega)) (in_nat (by omega) (by omega))
theorem b_len (h:PartsOk N es lab fl r b) (hf:∀e∈es,inE N e) (hN:N≤1000000):b.length≤2*N:=by
 have h1:=h.tours_len hf
 have h2:=h.for_le hf
 omega
end PartsOk
end Go.Proofs.YtammjnjpheobaaaGreat
namespace Go.Proofs.YtammjnjpheobaaaGreat
open Go.SL Go.Tup Go.Gr
def edx (r:List T5) (k:Nat):Nat:=((at5 r k).c0/2).toNat
def Fs (fl:List Bool) (i:Nat):Prop:=fl[i]? =some true
def Rch (r:List T5) (j k:Nat):Prop:=∃n,itF (sigF r) n j=k
theorem Rch.trans {r:List T5} {a b c:Nat} (h1:Rch r a b) (h2:Rch r b c):Rch r a c:=by
 obtain⟨n,rfl⟩:=h1
 obtain⟨m,rfl⟩:=h2
 exact⟨m+n,itF_add ..⟩
theorem itF_round {f:Nat→Nat} {P i:Nat} (h:itF f P i=i):∀n,itF f (n*P) i=i
 |0=>by rw[Nat.zero_mul];rfl
 |n+1=>by rw[Nat.succ_mul,itF_add,h,itF_round h n]
theorem forT_in {es:List IE} {fl:List Bool} {i:Nat} {d:IE} (hd:es[i]? =some d) (hf:fl[i]? =some true):(⟨(i:Int),d.1,d.2,0,0⟩:T5)∈forT (edT es) fl:=by
 unfold forT
 refine List.mem_filterMap.2 ⟨(⟨(i:Int),d.1,d.2,0,0⟩,true),?_,rfl⟩
 exact List.mem_of_getElem? (List.getElem?_zip_eq_some.2 ⟨edT_get hd,hf⟩)
namespace Arcs
variable {a f r:List T5}
theorem pos0 (A:Arcs a f r) {k:Nat} (h:k<r.length):0≤(at5 r k).c0:=by
 obtain⟨e,he,hk⟩:=A.edge h
 have:=A.pos e he
 rcases hk with hk|hk<;>rw[hk]<;>dsimp only<;>omega
theorem bro_bro (A:Arcs a f r) {k:Nat} (h:k<r.length):brotherF r (brotherF r k)=k:=by
 have h0:=A.pos0 h
 refine A.num (brotherF_lt (brotherF_lt h)) h ?_
 rw[A.bro (brotherF_lt h),A.bro h]
 dsimp only
 unfold flipF
 split<;>split<;>omega
theorem edx_eq (A:Arcs a f r) {j k:Nat} (hj:j<r.length) (hk:k<r.length) (h:edx r j=edx r k):j=k∨j=brotherF r k:=by
 have h1:=A.pos0 hj
 have h2:=A.pos0 hk
 unfold edx at h
 by_cases he:(at5 r j).c0=(at5 r k).c0
 ·exact .inl (A.num hj hk he)
 ·refine .inr (A.num hj (brotherF_lt hk) ?_)
  rw[A.bro hk];dsimp only
  unfold flipF;split<;>omega
theorem symm (A:Arcs a f r) {j k:Nat} (hj:j<r.length) (h:Rch r j k):Rch r k j:=by
 obtain⟨n,rfl⟩:=h
 obtain⟨P0,_,P2,_⟩:=A.per hj
 refine⟨n*perA r j-n,?_⟩
 rw[←itF_add,Nat.sub_add_cancel (Nat.le_mul_of_pos_right n P0),itF_round P2]
theorem pos_of (A:Arcs a f r) {i k:Nat} (hi:i<r.length) (h:Rch r i k):∃n,n<perA r i∧itF (sigF r) n i=k:=by
 obtain⟨n,hn⟩:=h
 obtain⟨m,_,h2,h3⟩:=least_of (p:=fun n=>itF (sigF r) n i=k) hn
 obtain⟨P0,_,P2,_⟩:=A.per hi
 refine⟨m,?_,h2⟩
 rcases Nat.lt_or_ge m (perA r i) with h|h
 ·exact h
 ·refine(h3 (m-perA r i) (by omega) ?_).elim
  rw[←h2]
  conv=>rhs;rw[show m=(m-perA r i)+perA r i by omega,itF_add,P2]
end Arcs
namespace PartsOk
variable {N:Nat} {es:List IE} {lab:List Int} {fl:List Bool} {r b:List T5}
theorem bridge (h:PartsOk N es lab fl r b) (i:Nat) (hi:Fs fl i):¬Cn (gE es) (fun j=>Fs fl j∧j≠i) (gE es i).1 (gE es i).2:=by
 intro hc
 have hk:=(h.fors.2 i true hi).1 rfl
 exact hk.bridge (hc.mono fun j hj=>⟨(h.fors.2 j true hj.1).1 rfl,hj.2⟩)
theorem arc_g (h:PartsOk N es lab fl r b) (hf:∀e∈es,inE N e) {k:Nat} (hk:k<r.length):Fs fl (edx r k)∧
  ((gE es (edx r k)).1=(at5 r k).c1.toNat∧(gE es (edx r k)).2=(at5 r k).c2.toNat∨(gE es (edx r k)).1=(at5 r k).c2.toNat∧(gE es (edx r k)).2=(at5 r k).c1.toNat)∧
  0≤(at5 r k).c1∧(at5 r k).c1<N∧0≤(at5 r k).c2∧(at5 r k).c2<N:=by
 obtain⟨i,d,x,hd,hfl,_,_,hx⟩:=h.arc_of hf hk
 have h1:=hf d (List.mem_of_getElem? hd)
 unfold inE at h1
 have hg:gE es i=(d.1.toNat,d.2.toNat):=by unfold gE;rw[hd]
 unfold edx
 rcases hx with hx|hx
 ·have e1:((at5 r k).c0/2).toNat=i:=by rw[hx];dsimp only;omega
  rw[e1,hg,hx];dsimp only
  exact⟨hfl,.inl ⟨rfl,rfl⟩,by omega,by omega,by omega,by omega⟩
 ·have e1:((at5 r k).c0/2).toNat=i:=by rw[hx];dsimp only;omega
  rw[e1,hg,hx];dsimp only
  exact⟨hfl,.inr ⟨rfl,rfl⟩,by omega,by omega,by omega,by omega⟩
theorem rch_bro (h:PartsOk N es lab fl r b) (hf:∀e∈es,inE N e) {k:Nat} (hk:k<r.length):Rch r k (brotherF r k):=by
 refine Classical.byContradiction fun hno=> ?_
 obtain⟨P0,_,P2,P3⟩:=h.arcs.per hk
 have hw:∀n,n<perA r k→Cn (gE es) (fun j=>Fs fl j∧j≠edx r k) (at5 r k).c2.toNat (at5 r (itF (sigF r) (n+1) k)).c1.toNat:=by
  intro n
  induction n with
  |zero=>
   intro _
   show Cn _ _ _ (at5 r (sigF r k)).c1.toNat
   rw[h.arcs.sig_from hk];exact .refl _
  |succ n ih=>
   intro hn
   have hkn:itF (sigF r) (n+1) k<r.length:=itF_lt sigF_lt hk _
   refine(ih (by omega)).trans ?_
   show Cn _ _ _ (at5 r (sigF r (itF (sigF r) (n+1) k))).c1.toNat
   rw[h.arcs.sig_from hkn]
   obtain⟨g1,g2,_⟩:=h.arc_g hf hkn
   refine .one ⟨edx r (itF (sigF r) (n+1) k),⟨g1,fun hq=> ?_⟩,g2⟩
   rcases h.arcs.edx_eq hkn hk hq with h1|h1
   ·exact P3 (n+1) (by omega) (by omega) h1
   ·exact hno ⟨n+1,h1⟩
 have h1:=hw (perA r k-1) (by omega)
 rw[show perA r k-1+1=perA r k by omega,P2] at h1
 obtain⟨g1,g2,_⟩:=h.arc_g hf hk
 rcases g2 with⟨g2,g3⟩|⟨g2,g3⟩
 ·exact h.bridge _ g1 (by rw[g2,g3];exact h1.symm)
 ·exact h.bridge _ g1 (by rw[g2,g3];exact h1)
theorem rch_behind (h:PartsOk N es lab fl r b) (hf:∀e∈es,inE N e) {k:Nat} (hk:k<r.length):Rch r k (behindF r k):=by
 refine(h.rch_bro hf hk).trans ⟨1,?_⟩
 show behindF r (brotherF r (brotherF r k))=_
 rw[h.arcs.bro_bro hk]
theorem rch_to (h:PartsOk N es lab fl r b) (hf:∀e∈es,inE N e) {k:Nat} (hk:k<r.length):∀m,k+m<r.length→(at5 r k).c1=(at5 r (k+m)).c1→Rch r k (k+m)
 |0,_,_=>⟨0,rfl⟩
 |m+1,hm,hc=>by
  have e1:=at5le h.arcs.sa (show k≤k+m by omega) (by omega)
  have e2:=at5le h.arcs.sa (show k+m≤k+(m+1) by omega) hm
  refine(h.rch_to hf hk m (by omega) (by omega)).trans ?_
  have hb:=h.rch_behind hf (k:=k+m) (by omega)
  have e3:behindF r (k+m)=k+m+1:=by unfold behindF;rw[if_pos ⟨by omega,by rw[show k+m+1=k+(m+1) by omega];omega⟩]
  rw[e3] at hb
  exact hb
theorem rch_same (h:PartsOk N es lab fl r b) (hf:∀e∈es,inE N e) {j k:Nat} (hj:j<r.length) (hk:k<r.length) (hc:(at5 r j).c1=(at5 r k).c1):Rch r j k:=by
 rcases Nat.le_total j k with h1|h1
 ·have:=h.rch_to hf hj (k-j) (by omega) (by rw[show j+(k-j)=k by omega];exact hc)
  rwa[show j+(k-j)=k by omega] at this
 ·have:=h.rch_to hf hk (j-k) (by omega) (by rw[show k+(j-k)=j by omega];exact hc.symm)
  rw[show k+(j-k)=j by omega] at this
  exact h.arcs.symm hk this
theorem arc_at (h:PartsOk N es lab fl r b) (hf:∀e∈es,inE N e) {x y:Nat} (hj:Jn (gE es) (Fs fl) x y):∃k,k<r.length∧(at5 r k).c1=x∧(at5 r k).c2=y:=by
 obtain⟨i,hi,he⟩:=hj
 have hil:i<es.length:=by
  have:=(List.getElem?_eq_some_iff.1 hi).1
  rw[←h.fors.1];exact this
 have hd:es[i]? =some es[i]:=List.getElem?_eq_getElem hil
 have h1:=hf _ (List.mem_of_getElem? hd)
 unfold inE at h1
 have hg:gE es i=(es[i].1.toNat,es[i].2.toNat):=by unfold gE;rw[hd]
 rw[hg] at he
 have hm:=forT_in hd hi
 rcases he with⟨e1,e2⟩|⟨e1,e2⟩
 ·obtain⟨k,hk,hq⟩:=h.arcs.arc hm (t:=⟨2*(i:Int),es[i].1,es[i].2,(at5 (labT lab) es[i].1.toNat).c1,0⟩) (by simp[arcs2])
  exact⟨k,hk,by rw[hq];dsimp only at e1⊢;omega,by rw[hq];dsimp only at e2⊢;omega⟩
 ·obtain⟨k,hk,hq⟩:=h.arcs.arc hm (t:=⟨2*(i:Int)+1,es[i].2,es[i].1,(at5 (labT lab) es[i].1.toNat).c1,0⟩) (by simp[arcs2])
  exact⟨k,hk,by rw[hq];dsimp only at e2⊢;omega,by rw[hq];dsimp only at e1⊢;omega⟩
theorem rch_cn (h:PartsOk N es lab fl r b) (hf:∀e∈es,inE N e) {u x:Nat} (hc:Cn (gE es) (Fs fl) u x):∀{j k:Nat},j<r.length→k<r.length→(at5 r j).c1=u→(at5 r k).c1=x→Rch r j k:=by
 induction hc with
 |refl=>intro j k hj hk e1 e2;exact h.rch_same hf hj hk (e1.trans e2.symm)
 |step _ hjn ih=>
  intro j k hj hk e1 e2
  obtain⟨m,hm,m1,m2⟩:=h.arc_at hf hjn
  refine((ih hj hm e1 m1).trans (h.rch_bro hf hm)).trans (h.rch_same hf (brotherF_lt hm) hk ?_)
  rw[h.arcs.bro hm,e2];exact m2
theorem cn_f (h:PartsOk N es lab fl r b) {u x:Nat}:Cn (gE es) (fun i=>i<es.length) u x↔Cn (gE es) (Fs fl) u x:=by
 rw[Kr.conn]
 refine Cn.congr fun i=>⟨fun hk=> ?_,fun hk=>(h.fors.2 i true hk).1 rfl⟩
 have hi:i<fl.length:=by rw[h.fors.1];exact hk.1
 have:=(h.fors.2 i fl[i] (List.getElem?_eq_getElem hi)).2 hk
 unfold Fs
 rw[List.getElem?_eq_getElem hi,this]
theorem lab_at (h:PartsOk N es lab fl r b) (hf:∀e∈es,inE N e) {k:Nat} (hk:k<r.length):∃x:Nat,(at5 r k).c3=x∧x<N∧lab[(at5 r k).c1.toNat]? =some (x:Int)∧Cn (gE es) (Fs fl) (at5 r k).c1.toNat x∧lab[x]? =some (x:Int):=by
 obtain⟨_,_,c1,c2,_,_⟩:=h.arc_g hf hk
 obtain⟨x,h1,h2,h3,h4⟩:=h.labs.root (v:=(at5 r k).c1.toNat) (by omega)
 have hxN:x<N:=by omega
 refine⟨x,?_,hxN,h1,h.cn_f.1 h3,?_⟩
 ·rw[h.arcs.lab (h.hl hf) hk,labT_at h1]
 ·rw[←h1];exact h.labs.same hxN (by omega) h3.symm
theorem root_of (h:PartsOk N es lab fl r b) (hf:∀e∈es,inE N e) {k:Nat} (hk:k<r.length):∃i,i<r.length∧rootB r i=true∧(at5 r i).c3=(at5 r k).c3∧Rch r i k:=by
 obtain⟨x,h1,h2,h3,h4,h5⟩:=h.lab_at hf hk
 obtain⟨_,_,c1,c2,_,_⟩:=h.arc_g hf hk
 have hex:∃k0,k0<r.length∧(at5 r k0).c1=x:=by
  generalize hu:(at5 r k).c1.toNat=u at h4
  cases h4 with
  |refl=>exact⟨k,hk,by omega⟩
  |step _ hj=>
   obtain⟨m,hm,m1,m2⟩:=h.arc_at hf hj.symm
   exact⟨m,hm,m1⟩
 obtain⟨k0,hk0,hk1⟩:=hex
 obtain⟨i,i1,⟨i2,i3⟩,i4⟩:=least_of (p:=fun i=>i<r.length∧(at5 r i).c1=x) ⟨hk0,hk1⟩
 have hc3:(at5 r i).c3=x:=by
  rw[h.arcs.lab (h.hl hf) i2,i3]
  exact labT_at h5
 refine⟨i,i2,?_,by rw[hc3,h1],h.rch_cn hf h4.symm i2 hk i3 (by omega)⟩
 unfold rootB
 refine decide_eq_true ⟨by rw[i3,hc3],fun h0 hq=>i4 (i-1) (by omega) ⟨by omega,by rw[hq,i3]⟩⟩
end PartsOk
end Go.Proofs.YtammjnjpheobaaaGreat
namespace Go.Proofs.YtammjnjpheobaaaGreat
open Go.SL Go.Tup Go.Srt Go.Gr
theorem srtOf {o:T5} {l A:List T5} (hp:A.Perm l) (hs:A.Pairwise fun a b=>ltO o a b=true):srt (ltO o) false l=A:=by
 have hir:∀a,ltO o a a=false:=fun a=>by
  cases h:ltO o a a with
  |false=>rfl
  |true=>have:=(ltO_swo o).asym a a h;rw[h] at this;simp at this
 refine List.Perm.eq_of_pairwise (le:=fun a b=>ltO o b a=false) ?_ ((sd_srt (ltO_swo o) false l).imp fun {a b} h=>by simpa using h) (hs.imp fun {a b} h=>(ltO_swo o).asym a b h) ((perm_srt l).trans hp.symm)
 intro a b ha hb h1 h2
 have ha':a∈A:=hp.mem_iff.2 (srt_sub ha)
 refine Classical.byContradiction fun hne=> ?_
 have key:ltO o a b=true∨ltO o b a=true:=by
  obtain⟨i,hi,rfl⟩:=List.mem_iff_getElem.1 ha'
  obtain⟨j,hj,rfl⟩:=List.mem_iff_getElem.1 hb
  rcases Nat.lt_trichotomy i j with h3|h3|h3
  ·exact .inl (List.pairwise_iff_getElem.1 hs i j hi hj h3)
  ·subst h3;exact(hne rfl).elim
  ·exact .inr (List.pairwise_iff_getElem.1 hs j i hj hi h3)
 rcases key with h3|h3
 ·rw[h2] at h3;cases h3
 ·rw[h1] at h3;cases h3
theorem map_tours (r:List T5):∀n,(toursTo r n).map (·.c0)=(idxTo r n).map fun k=>(at5 r k).c0
 |0=>rfl
 |n+1=>by
  rw[toursTo_succ,idxTo_succ,List.map_append,List.map_append,map_tours r n]
  congr 1
  split
  ·unfold tourL arcAt;rw[List.map_map,List.map_map];rfl
  ·rfl
theorem range_at5 (r:List T5):(List.range r.length).map (at5 r)=r:=by
 apply List.ext_getElem
 ·simp
 ·intro i h1 h2
  rw[List.getElem_map,List.getElem_range]
  unfold at5
  rw[List.getD_eq_getElem?_getD,List.getElem?_eq_getElem h2];rfl
namespace PartsOk
variable {N:Nat} {es:List IE} {lab:List Int} {fl:List Bool} {r b:List T5}
theorem idx_perm (h:PartsOk N es lab fl r b) (hf:∀e∈es,inE N e):(idxTo r r.length).Perm (List.range r.length):=by
 rw[List.perm_ext_iff_of_nodup (h.arcs.idx_nodup (h.hl hf) (Nat.le_refl _)) List.nodup_range]
 intro k
 rw[List.mem_range]
 constructor
 ·intro hk
  obtain⟨i,hi,_,n,_,rfl⟩:=idxTo_mem hk
  exact itF_lt sigF_lt hi n
 ·intro hk
  obtain⟨i,hi,hr,_,hR⟩:=h.root_of hf hk
  obtain⟨n,hn,he⟩:=h.arcs.pos_of hi hR
  unfold idxTo
  refine List.mem_flatMap.2 ⟨i,List.mem_range.2 hi,?_⟩
  rw[if_pos hr]
  exact List.mem_map.2 ⟨n,List.mem_range.2 hn,he⟩
theorem arc_b (h:PartsOk N es lab fl r b) {i n:Nat} (hi:i<r.length) (hr:rootB r i=true) (hn:n<perA r i):arcAt r i n∈b:=by
 rw[h.tours]
 unfold toursF toursTo
 refine List.mem_flatMap.2 ⟨i,List.mem_range.2 hi,?_⟩
 rw[if_pos hr]
 exact List.mem_map_of_mem (List.mem_range.2 hn)
theorem b_arc (h:PartsOk N es lab fl r b) {t:T5} (ht:t∈b):∃i n,i<r.length∧rootB r i=true∧n<perA r i∧t=arcAt r i n:=by
 rw[h.tours] at ht
 unfold toursF toursTo at ht
 obtain⟨i,hi,hx⟩:=List.mem_flatMap.1 ht
 split at hx
 next hr=>
  obtain⟨n,hn,rfl⟩:=List.mem_map.1 hx
  exact⟨i,n,List.mem_range.1 hi,hr,List.mem_range.1 hn,rfl⟩
 next=>simp at hx
end PartsOk
end Go.Proofs.YtammjnjpheobaaaGreat
namespace Go.Proofs.YtammjnjpheobaaaGreat
open Go.SL Go.Tup Go.Srt
theorem cmp3lt (x y:Int):(if cmp3 x y≠0 then cmp3 x y else 0)<0↔x<y:=by unfold cmp3;split<;>(repeat' split)<;>omega
theorem ltO_o1 (a b:T5):ltO o1 a b=true↔a.c0<b.c0:=by
 have hf:formed o1=true:=by decide
 unfold ltO cmpT
 rw[decide_eq_true_iff,if_pos hf]
 exact cmp3lt a.c0 b.c0
theorem cmp33lt (x y z w:Int):(if cmp3 x y≠0 then cmp3 x y else if cmp3 z w≠0 then cmp3 z w else 0)<0↔x<y∨x=y∧z<w:=by unfold cmp3;(repeat' split)<;>omega
theorem srt_o1 (l:List T5):(srt (ltO o1) false l).Pairwise fun a c=>a.c0≤c.c0:=by
 refine(sd_srt (ltO_swo o1) false l).imp fun {a b} h=> ?_
 have h1:¬ltO o1 b a=true:=by
  intro h2
  simp only[Bool.false_eq_true,if_false] at h
  rw[h] at h2;cases h2
 rw[ltO_o1] at h1
 omega
end Go.Proofs.YtammjnjpheobaaaGreat
namespace Go.Proofs.YtammjnjpheobaaaGreat
open Go.SL Go.Spc Go.Tup Go.Srt
def okE (t:T5):Prop:=0≤t.c0∧-1≤t.c1
instance (t:T5):Decidable (okE t):=by unfold okE;infer_instance
def linkO (t:T5):List T5:=if t.c1= -1 then[] else[⟨t.c1,t.c0,t.c2,0,0⟩]
def linkM:Maker Unit:=⟨fun _=>[],fun _ t=>linkO t,fun _ _=>(),fun _ t=>if okE t then none else some 3⟩
theorem link_mk:MakeU linkM 3 (fun _ t=>okT 3 t) 131 [] []:=by
 rintro bx Pst Br bnd hP ps X ⟨⟩ t hX hk hb
 have htv:tv t= .agg #[.int .i64 t.c0,.int .i64 t.c1,.int .i64 t.c2,.int .i64 t.c3,.int .i64 t.c4]:=rfl
 rw[htv]
 unfold putV
 simp only[List.nil_append,List.cons_append]
 show Ct _ _ _ [X] _
 have ti:=okT_cols hk
 by_cases h:okE t
 rotate_left
 ·have hn:linkM.err () t=some 3:=if_neg h
  unfold okE at h
  by_cases h0:t.c0<0
  ·refine Ct.intro Tryz.func131 rfl Tryz.ntmps131 (nle rfl) fun w0=> ?_;dsimp only[argSlots,Nat.reduceAdd]
   repeat(refine st ?_;intros)
   (refine Dn.post (Hr:=[X]) Tryz.results131 (hR:= ?_);exact⟨X,(),rfl,.inr (.inr ⟨3,hn,by decide,rfl,ps,hX⟩)⟩)
  have h1:t.c1< -1:=by omega
  refine Ct.intro Tryz.func131 rfl Tryz.ntmps131 (nle rfl) fun w0=> ?_;dsimp only[argSlots,Nat.reduceAdd]
  repeat(refine st ?_;intros)
  (refine Dn.post (Hr:=[X]) Tryz.results131 (hR:= ?_);exact⟨X,(),rfl,.inr (.inr ⟨3,hn,by decide,rfl,ps,hX⟩)⟩)
 have hn:linkM.err () t=none:=if_pos h
 unfold okE at h
 obtain⟨h0,h1⟩:=h
 by_cases h2:t.c1= -1
 ·have ho:linkM.outs () t=[]:=if_pos h2
  refine Ct.intro Tryz.func131 rfl Tryz.ntmps131 (nle rfl) fun w0=> ?_;dsimp only[argSlots,Nat.reduceAdd]
  repeat(refine st ?_;intros)
  (refine Dn.post (Hr:=[X]) Tryz.results131 (hR:= ?_);exact⟨X,(),rfl,.inl ⟨rfl,hn,(by trivial),by rw[ho,List.append_nil];exact hX⟩⟩)
 ·have ho:linkM.outs () t=[⟨t.c1,t.c0,t.c2,0,0⟩]:=if_neg h2
  rw[ho,List.length_singleton] at hb
  have hP1:=hP ps X ⟨t.c1,t.c0,t.c2,0,0⟩ hX (okT3 ti.2.1 ti.1 ti.2.2.1) hb
  refine Ct.intro Tryz.func131 rfl Tryz.ntmps131 (nle rfl) fun w0=> ?_;dsimp only[argSlots,Nat.reduceAdd]
  repeat(refine st ?_;intros)
  refine R.callV (hct:=by exact hP1) (h:= ?_)
  rintro _ _ ⟨X',rfl,⟨rfl,hX'⟩|⟨rfl,hB⟩⟩
  try dsimp only[List.cons_append,List.nil_append]
  ·repeat(refine st ?_;intros)
   (refine Dn.post (Hr:=[X']) Tryz.results131 (hR:= ?_);exact⟨X',(),rfl,.inl ⟨rfl,hn,(by trivial),by rw[ho];exact hX'⟩⟩)
  ·repeat(refine st ?_;intros)
   (refine Dn.post (Hr:=[X']) Tryz.results131 (hR:= ?_);exact⟨X',(),rfl,.inr (.inl ⟨rfl,hB⟩)⟩)
theorem elem_mk (bx:Nat) (t:T5) (X:Chunk) (Rr:Value→Chunk→Prop) (h:PutC bx ((fun t=>⟨t.c0,0,0,0,0⟩) t) X Rr):Ct Tryz.prog 133 [tv t,putV bx] [X] (TailR Rr):=by
 have htv:tv t= .agg #[.int .i64 t.c0,.int .i64 t.c1,.int .i64 t.c2,.int .i64 t.c3,.int .i64 t.c4]:=rfl
 rw[htv]
 unfold putV
 refine Ct.intro Tryz.func133 rfl Tryz.ntmps133 (nle rfl) fun w0=> ?_;dsimp only[argSlots,Nat.reduceAdd]
 repeat(refine st ?_;intros)
 refine R.callV (hct:=by exact h) (h:= ?_)
 rintro _ _ ⟨X',rfl,hR⟩
 try dsimp only[List.cons_append,List.nil_append]
 repeat(refine st ?_;intros)
 (refine Dn.post (Hr:=[X']) Tryz.results133 (hR:= ?_);exact⟨X',rfl,hR⟩)
theorem same_mk (bx:Nat) (t:T5) (X:Chunk) (Rr:Value→Chunk→Prop) (h:PutC bx ((fun t=>t) t) X Rr):Ct Tryz.prog 139 [tv t,putV bx] [X] (TailR Rr):=by
 have htv:tv t= .agg #[.int .i64 t.c0,.int .i64 t.c1,.int .i64 t.c2,.int .i64 t.c3,.int .i64 t.c4]:=rfl
 rw[htv]
 unfold putV
 refine Ct.intro Tryz.func139 rfl Tryz.ntmps139 (nle rfl) fun w0=> ?_;dsimp only[argSlots,Nat.reduceAdd]
 repeat(refine st ?_;intros)
 refine R.callV (hct:=by exact h) (h:= ?_)
 rintro _ _ ⟨X',rfl,hR⟩
 try dsimp only[List.cons_append,List.nil_append]
 repeat(refine st ?_;intros)
 (refine Dn.post (Hr:=[X']) Tryz.results139 (hR:= ?_);exact⟨X',rfl,hR⟩)
theorem rankOut_mk (bx:Nat) (t:T5) (X:Chunk) (Rr:Value→Chunk→Prop) (h:PutC bx ((fun t=>⟨t.c0,t.c2,0,0,0⟩) t) X Rr):Ct Tryz.prog 95 [tv t,putV bx] [X] (TailR Rr):=by
 have htv:tv t= .agg #[.int .i64 t.c0,.int .i64 t.c1,.int .i64 t.c2,.int .i64 t.c3,.int .i64 t.c4]:=rfl
 rw[htv]
 unfold putV
 refine Ct.intro Tryz.func95 rfl Tryz.ntmps95 (nle rfl) fun w0=> ?_;dsimp only[argSlots,Nat.reduceAdd]
 repeat(refine st ?_;intros)
 refine R.callV (hct:=by exact h) (h:= ?_)
 rintro _ _ ⟨X',rfl,hR⟩
 try dsimp only[List.cons_append,List.nil_append]
 repeat(refine st ?_;intros)
 (refine Dn.post (Hr:=[X']) Tryz.results95 (hR:= ?_);exact⟨X',rfl,hR⟩)
def fndO (t:T5):T5:=if t.c1= -1 then⟨t.c0,t.c1,0,t.c3,t.c4⟩ else t
def fndM (bf:Nat):Maker Int where
 C k:=[[(bf,row [.int .i64 k] 3)]]
 outs _ t:=[fndO t]
 next k t:=if t.c1= -1 then k else IntKind.wrap .i64 (k+1)
 err _ _:=none
theorem fndM_C (bf:Nat) (k:Int):(fndM bf).C k=[[(bf,row [.int .i64 k] 3)]]:=rfl
theorem fndO_ok {t:T5} (h:okT 3 t):okT 3 (fndO t):=by
 have ti:=okT_cols h
 unfold fndO
 split
 ·have h3:=h.2 3 (by omega)
  have h4:=h.2 4 (by omega)
  have e3:t.c3=0:=h3
  have e4:t.c4=0:=h4
  rw[e3,e4]
  exact okT3 ti.1 ti.2.1 in_0
 ·exact h
theorem fnd_mk (bf:Nat):MakeU (fndM bf) 3 (fun _ t=>okT 3 t) 136 [] [pv bf]:=by
 rintro bx Pst Br bnd hP ps X k t hX hk hb
 have htv:tv t= .agg #[.int .i64 t.c0,.int .i64 t.c1,.int .i64 t.c2,.int .i64 t.c3,.int .i64 t.c4]:=rfl
 have hb':ps.length+1≤bnd:=hb
 have hP1:=hP ps X (fndO t) hX (fndO_ok hk) hb'
 rw[htv]
 unfold putV
 simp only[List.nil_append,List.cons_append]
 show Ct _ _ _ [X,[(bf,row [.int .i64 k] 3)]] _
 by_cases h2:t.c1= -1
 ·have ho:fndO t=⟨t.c0,t.c1,0,t.c3,t.c4⟩:=if_pos h2
  have hn:(fndM bf).next k t=k:=if_pos h2
  have ho2:(fndM bf).outs k t=[⟨t.c0,t.c1,0,t.c3,t.c4⟩]:=congrArg (fun x=>[x]) ho
  have htp:tv ⟨t.c0,t.c1,0,t.c3,t.c4⟩= .agg #[.int .i64 t.c0,.int .i64 t.c1,.int .i64 0,.int .i64 t.c3,.int .i64 t.c4]:=rfl
  rw[ho,htp] at hP1
  refine Ct.intro Tryz.func136 rfl Tryz.ntmps136 (nle rfl) fun w0=> ?_;dsimp only[argSlots,Nat.reduceAdd]
  repeat(refine st ?_;intros)
  refine R.callV (hct:=by exact hP1) (h:= ?_)
  rintro _ _ ⟨X',rfl,⟨rfl,hX'⟩|⟨rfl,hB⟩⟩
  try dsimp only[List.cons_append,List.nil_append]
  ·repeat(refine st ?_;intros)
   (refine Dn.post (Hr:=[X',[(bf,row [.int .i64 k] 3)]]) Tryz.results136 (hR:= ?_);exact⟨X',k,rfl,.inl ⟨rfl,rfl,hn.symm,by rw[ho2];exact hX'⟩⟩)
  ·repeat(refine st ?_;intros)
   (refine Dn.post (Hr:=[X',[(bf,row [.int .i64 k] 3)]]) Tryz.results136 (hR:= ?_);exact⟨X',k,rfl,.inr (.inl ⟨rfl,hB⟩)⟩)
 ·have ho:fndO t=t:=if_neg h2
  have hn:(fndM bf).next k t=IntKind.wrap .i64 (k+1):=if_neg h2
  have ho2:(fndM bf).outs k t=[t]:=congrArg (fun x=>[x]) ho
  obtain⟨w,hw⟩:∃w,IntKind.wrap .i64 (k+1)=w:=⟨_,rfl⟩
  rw[hw] at hn
  rw[ho,htv] at hP1
  refine Ct.intro Tryz.func136 rfl Tryz.ntmps136 (nle rfl) fun w0=> ?_;dsimp only[argSlots,Nat.reduceAdd]
  repeat(refine st ?_;intros)
  refine R.callV (hct:=by exact hP1) (h:= ?_)
  rintro _ _ ⟨X',rfl,⟨rfl,hX'⟩|⟨rfl,hB⟩⟩
  try dsimp only[List.cons_append,List.nil_append]
  ·repeat(refine st ?_;intros)
   (refine Dn.post (Hr:=[X',[(bf,row [.int .i64 w] 3)]]) Tryz.results136 (hR:= ?_);exact⟨X',w,rfl,.inl ⟨rfl,rfl,hn.symm,by rw[ho2];exact hX'⟩⟩)
  ·repeat(refine st ?_;intros)
   (refine Dn.post (Hr:=[X',[(bf,row [.int .i64 w] 3)]]) Tryz.results136 (hR:= ?_);exact⟨X',w,rfl,.inr (.inl ⟨rfl,hB⟩)⟩)
def jmpF (t:T5):T5:=if t.c1= -1 then⟨t.c0,t.c1,t.c2,0,0⟩ else⟨t.c0,t.c3,IntKind.wrap .i64 (t.c2+t.c4),0,0⟩
theorem jmpF_ok {t:T5} (h:okT 5 t):okT 3 (jmpF t):=by
 have ti:=okT_cols h
 unfold jmpF
 split
 ·exact okT3 ti.1 ti.2.1 ti.2.2.1
 ·exact okT3 ti.1 ti.2.2.2.1 (wrap_in _)
theorem jmp_mk:MakeU (mMap jmpF) 3 (fun _ t=>okT 5 t) 142 [] []:=by
 rintro bx Pst Br bnd hP ps X ⟨⟩ t hX hk hb
 have htv:tv t= .agg #[.int .i64 t.c0,.int .i64 t.c1,.int .i64 t.c2,.int .i64 t.c3,.int .i64 t.c4]:=rfl
 have hb':ps.length+1≤bnd:=hb
 have hP1:=hP ps X (jmpF t) hX (jmpF_ok hk) hb'
 rw[htv]
 unfold putV
 simp only[List.nil_append,List.cons_append]
 show Ct _ _ _ [X] _
 by_cases h2:t.c1= -1
 ·have ho:jmpF t=⟨t.c0,t.c1,t.c2,0,0⟩:=if_pos h2
  have ho2:(mMap jmpF).outs () t=[⟨t.c0,t.c1,t.c2,0,0⟩]:=congrArg (fun x=>[x]) ho
  have htp:tv ⟨t.c0,t.c1,t.c2,0,0⟩= .agg #[.int .i64 t.c0,.int .i64 t.c1,.int .i64 t.c2,.int .i64 0,.int .i64 0]:=rfl
  rw[ho,htp] at hP1
  refine Ct.intro Tryz.func142 rfl Tryz.ntmps142 (nle rfl) fun w0=> ?_;dsimp only[argSlots,Nat.reduceAdd]
  repeat(refine st ?_;intros)
  refine R.callV (hct:=by exact hP1) (h:= ?_)
  rintro _ _ ⟨X',rfl,⟨rfl,hX'⟩|⟨rfl,hB⟩⟩
  try dsimp only[List.cons_append,List.nil_append]
  ·repeat(refine st ?_;intros)
   (refine Dn.post (Hr:=[X']) Tryz.results142 (hR:= ?_);exact⟨X',(),rfl,.inl ⟨rfl,rfl,(by trivial),by rw[ho2];exact hX'⟩⟩)
  ·repeat(refine st ?_;intros)
   (refine Dn.post (Hr:=[X']) Tryz.results142 (hR:= ?_);exact⟨X',(),rfl,.inr (.inl ⟨rfl,hB⟩)⟩)
 ·obtain⟨w,hw⟩:∃w,IntKind.wrap .i64 (t.c2+t.c4)=w:=⟨_,rfl⟩
  have ho:jmpF t=⟨t.c0,t.c3,w,0,0⟩:=by unfold jmpF;rw[if_neg h2,hw]
  have ho2:(mMap jmpF).outs () t=[⟨t.c0,t.c3,w,0,0⟩]:=congrArg (fun x=>[x]) ho
  have htp:tv ⟨t.c0,t.c3,w,0,0⟩= .agg #[.int .i64 t.c0,.int .i64 t.c3,.int .i64 w,.int .i64 0,.int .i64 0]:=rfl
  rw[ho,htp] at hP1
  refine Ct.intro Tryz.func142 rfl Tryz.ntmps142 (nle rfl) fun w0=> ?_;dsimp only[argSlots,Nat.reduceAdd]
  repeat(refine st ?_;intros)
  refine R.callV (hct:=by exact hP1) (h:= ?_)
  rintro _ _ ⟨X',rfl,⟨rfl,hX'⟩|⟨rfl,hB⟩⟩
  try dsimp only[List.cons_append,List.nil_append]
  ·repeat(refine st ?_;intros)
   (refine Dn.post (Hr:=[X']) Tryz.results142 (hR:= ?_);exact⟨X',(),rfl,.inl ⟨rfl,rfl,(by trivial),by rw[ho2];exact hX'⟩⟩)
  ·repeat(refine st ?_;intros)
   (refine Dn.post (Hr:=[X']) Tryz.results142 (hR:= ?_);exact⟨X',(),rfl,.inr (.inl ⟨rfl,hB⟩)⟩)
def riseM (bl:Nat):Maker Int:=⟨fun k=>[[(bl,row [.int .i64 k] 2)]],fun _ _=>[],fun _ t=>t.c0,fun k t=>if t.c0≤k then some 3 else none⟩
theorem riseM_C (bl:Nat) (k:Int):(riseM bl).C k=[[(bl,row [.int .i64 k] 2)]]:=rfl
theorem rise_see (bl:Nat):SeeU (riseM bl) (fun _ _=>True) 165 [pv bl]:=by
 rintro k t-
 have htv:tv t= .agg #[.int .i64 t.c0,.int .i64 t.c1,.int .i64 t.c2,.int .i64 t.c3,.int .i64 t.c4]:=rfl
 rw[htv]
 simp only[List.nil_append,List.cons_append]
 show Ct _ _ _ [[(bl,row [.int .i64 k] 2)]] _
 by_cases h:t.c0≤k
 ·have hn:(riseM bl).err k t=some 3:=if_pos h
  refine Ct.intro Tryz.func165 rfl Tryz.ntmps165 (nle rfl) fun w0=> ?_;dsimp only[argSlots,Nat.reduceAdd]
  repeat(refine st ?_;intros)
  (refine Dn.post (Hr:=[[(bl,row [.int .i64 k] 2)]]) Tryz.results165 (hR:= ?_);exact⟨k,rfl,.inr ⟨3,hn,by decide,rfl⟩⟩)
 ·have hn:(riseM bl).err k t=none:=if_neg h
  refine Ct.intro Tryz.func165 rfl Tryz.ntmps165 (nle rfl) fun w0=> ?_;dsimp only[argSlots,Nat.reduceAdd]
  repeat(refine st ?_;intros)
  (refine Dn.post (Hr:=[[(bl,row [.int .i64 t.c0] 2)]]) Tryz.results165 (hR:= ?_);exact⟨t.c0,rfl,.inl ⟨rfl,hn,rfl⟩⟩)
def openM (bo:Nat):Maker Bool:=⟨fun k=>[[(bo,row [.bool k] 4)]],fun _ _=>[],fun k t=>k||decide (t.c1≠-1),fun _ _=>none⟩
theorem openM_C (bo:Nat) (k:Bool):(openM bo).C k=[[(bo,row [.bool k] 4)]]:=rfl
theorem open_see (bo:Nat):SeeU (openM bo) (fun _ _=>True) 138 [pv bo]:=by
 rintro k t-
 have htv:tv t= .agg #[.int .i64 t.c0,.int .i64 t.c1,.int .i64 t.c2,.int .i64 t.c3,.int .i64 t.c4]:=rfl
 rw[htv]
 simp only[List.nil_append,List.cons_append]
 show Ct _ _ _ [[(bo,row [.bool k] 4)]] _
 cases k with
 |true=>
  refine Ct.intro Tryz.func138 rfl Tryz.ntmps138 (nle rfl) fun w0=> ?_;dsimp only[argSlots,Nat.reduceAdd]
  repeat(refine st ?_;intros)
  (refine Dn.post (Hr:=[[(bo,row [.bool true] 4)]]) Tryz.results138 (hR:= ?_);exact⟨true,rfl,.inl ⟨rfl,rfl,rfl⟩⟩)
 |false=>
  have hd:dec (t.c1≠-1)=decide (t.c1≠-1):=dec_eq _
  refine Ct.intro Tryz.func138 rfl Tryz.ntmps138 (nle rfl) fun w0=> ?_;dsimp only[argSlots,Nat.reduceAdd]
  repeat(refine st ?_;intros)
  (refine Dn.post (Hr:=[[(bo,row [.bool (dec (t.c1≠-1))] 4)]]) Tryz.results138 (hR:= ?_);exact⟨dec (t.c1≠-1),rfl,.inl ⟨rfl,rfl,by rw[hd];simp[openM]⟩⟩)
theorem lkAhead (p:Jp) (fa fb:Fl) (b8 b4 b5:Nat) (J:Jb) (A T:Nat) (ts:List T5) (Rl:Fl→Int→Prop) (hL:LookS p J fa fb 0 1 1 A T ts Rl):
  StepCt p J 134 [pv b8,pv b4,pv b5] (lookH p.bj b8 b4 b5 fa fb) A T none ts fun f e Hx'=>Hx'=lookH p.bj b8 b4 b5 fa fb∧Rl f e:=by
 intro W cd ca cs held ph capj hW hJW
 have hL:=hL W cd ca cs held hW hJW
 have hflv:∀f:Fl,flv f= .agg #[.int .i64 (f.first:Int),.int .i64 (f.blocks:Int),.int .i64 (f.width:Int),.int .i64 (f.count:Int)]:=fun _=>rfl
 have hfl4:∀f:Fl,fl4 f=[.int .i64 (f.first:Int),.int .i64 (f.blocks:Int),.int .i64 (f.width:Int),.int .i64 (f.count:Int)]:=fun _=>rfl
 rw[hflv fa,hflv fb] at hL
 unfold jrow lookH
 rw[hfl4 fa,hfl4 fb]
 refine Ct.intro Tryz.func134 rfl Tryz.ntmps134 (nle rfl) fun w0=> ?_;dsimp only[argSlots,Nat.reduceAdd]
 repeat(first|(refine st ?_;intros)|refine G.draw [] (h:= ?_))
 refine R.callX (hct:=hL) (h:= ?_)
 rintro _ _ ⟨f,e,cd',ca',cs',W',rfl,rfl,hW',hS,hR⟩
 dsimp only[List.cons_append,List.nil_append]
 constructor
 ·(·(first|(intro _ _ h;cases h;done)|(repeat(first|exact qok_nil|(apply qok_cons;(·first|(intro hc;exact absurd hc (nmem rfl))|(intro _;apply CellPr.mk;(·repeat(first|exact Has.here|apply Has.there));(first|exact rfl|assumption))|(intro _;apply CellsPr.mk;(·repeat(first|exact Has.here|apply Has.there));(first|exact rfl|assumption))))))))
 rw[hflv]
 repeat(first|(refine st ?_;intros)|refine G.draw [] (h:= ?_))
 (refine Dn.post (Hr:=[[(p.bj,row [pv p.bw,.int .i64 0,.slice ph held.length capj] 95)],wrow p.bw p.bd p.ba p.bs,cd',ca',cs',[(b8,row [pv p.bj] 82)],[(b4,row (fl4 fa) 27)],[(b5,row (fl4 fb) 27)]]) Tryz.results134 (hR:= ?_);exact⟨f,e,cd',ca',cs',W',_,rfl,rfl,hW',hS,rfl,hR⟩)
theorem lkBoth (p:Jp) (fa fb:Fl) (b8 b4 b5:Nat) (J:Jb) (A T:Nat) (ts:List T5) (Rl:Fl→Int→Prop) (hL:LookS p J fa fb 0 2 2 A T ts Rl):
  StepCt p J 135 [pv b8,pv b4,pv b5] (lookH p.bj b8 b4 b5 fa fb) A T none ts fun f e Hx'=>Hx'=lookH p.bj b8 b4 b5 fa fb∧Rl f e:=by
 intro W cd ca cs held ph capj hW hJW
 have hL:=hL W cd ca cs held hW hJW
 have hflv:∀f:Fl,flv f= .agg #[.int .i64 (f.first:Int),.int .i64 (f.blocks:Int),.int .i64 (f.width:Int),.int .i64 (f.count:Int)]:=fun _=>rfl
 have hfl4:∀f:Fl,fl4 f=[.int .i64 (f.first:Int),.int .i64 (f.blocks:Int),.int .i64 (f.width:Int),.int .i64 (f.count:Int)]:=fun _=>rfl
 rw[hflv fa,hflv fb] at hL
 unfold jrow lookH
 rw[hfl4 fa,hfl4 fb]
 refine Ct.intro Tryz.func135 rfl Tryz.ntmps135 (nle rfl) fun w0=> ?_;dsimp only[argSlots,Nat.reduceAdd]
 repeat(first|(refine st ?_;intros)|refine G.draw [] (h:= ?_))
 refine R.callX (hct:=hL) (h:= ?_)
 rintro _ _ ⟨f,e,cd',ca',cs',W',rfl,rfl,hW',hS,hR⟩
 dsimp only[List.cons_append,List.nil_append]
 constructor
 ·(·(first|(intro _ _ h;cases h;done)|(repeat(first|exact qok_nil|(apply qok_cons;(·first|(intro hc;exact absurd hc (nmem rfl))|(intro _;apply CellPr.mk;(·repeat(first|exact Has.here|apply Has.there));(first|exact rfl|assumption))|(intro _;apply CellsPr.mk;(·repeat(first|exact Has.here|apply Has.there));(first|exact rfl|assumption))))))))
 rw[hflv]
 repeat(first|(refine st ?_;intros)|refine G.draw [] (h:= ?_))
 (refine Dn.post (Hr:=[[(p.bj,row [pv p.bw,.int .i64 0,.slice ph held.length capj] 95)],wrow p.bw p.bd p.ba p.bs,cd',ca',cs',[(b8,row [pv p.bj] 82)],[(b4,row (fl4 fa) 27)],[(b5,row (fl4 fb) 27)]]) Tryz.results135 (hR:= ?_);exact⟨f,e,cd',ca',cs',W',_,rfl,rfl,hW',hS,rfl,hR⟩)
theorem lkFar (p:Jp) (fa fb:Fl) (b8 b4 b5:Nat) (J:Jb) (A T:Nat) (ts:List T5) (Rl:Fl→Int→Prop) (hL:LookS p J fa fb 1 1 3 A T ts Rl):
  StepCt p J 140 [pv b8,pv b4,pv b5] (lookH p.bj b8 b4 b5 fa fb) A T none ts fun f e Hx'=>Hx'=lookH p.bj b8 b4 b5 fa fb∧Rl f e:=by
 intro W cd ca cs held ph capj hW hJW
 have hL:=hL W cd ca cs held hW hJW
 have hflv:∀f:Fl,flv f= .agg #[.int .i64 (f.first:Int),.int .i64 (f.blocks:Int),.int .i64 (f.width:Int),.int .i64 (f.count:Int)]:=fun _=>rfl
 have hfl4:∀f:Fl,fl4 f=[.int .i64 (f.first:Int),.int .i64 (f.blocks:Int),.int .i64 (f.width:Int),.int .i64 (f.count:Int)]:=fun _=>rfl
 rw[hflv fa,hflv fb] at hL
 unfold jrow lookH
 rw[hfl4 fa,hfl4 fb]
 refine Ct.intro Tryz.func140 rfl Tryz.ntmps140 (nle rfl) fun w0=> ?_;dsimp only[argSlots,Nat.reduceAdd]
 repeat(first|(refine st ?_;intros)|refine G.draw [] (h:= ?_))
 refine R.callX (hct:=hL) (h:= ?_)
 rintro _ _ ⟨f,e,cd',ca',cs',W',rfl,rfl,hW',hS,hR⟩
 dsimp only[List.cons_append,List.nil_append]
 constructor
 ·(·(first|(intro _ _ h;cases h;done)|(repeat(first|exact qok_nil|(apply qok_cons;(·first|(intro hc;exact absurd hc (nmem rfl))|(intro _;apply CellPr.mk;(·repeat(first|exact Has.here|apply Has.there));(first|exact rfl|assumption))|(intro _;apply CellsPr.mk;(·repeat(first|exact Has.here|apply Has.there));(first|exact rfl|assumption))))))))
 rw[hflv]
 repeat(first|(refine st ?_;intros)|refine G.draw [] (h:= ?_))
 (refine Dn.post (Hr:=[[(p.bj,row [pv p.bw,.int .i64 0,.slice ph held.length capj] 95)],wrow p.bw p.bd p.ba p.bs,cd',ca',cs',[(b8,row [pv p.bj] 82)],[(b4,row (fl4 fa) 27)],[(b5,row (fl4 fb) 27)]]) Tryz.results140 (hR:= ?_);exact⟨f,e,cd',ca',cs',W',_,rfl,rfl,hW',hS,rfl,hR⟩)
theorem lkSums (p:Jp) (fa fb:Fl) (b8 b4 b5:Nat) (J:Jb) (A T:Nat) (ts:List T5) (Rl:Fl→Int→Prop) (hL:LookS p J fa fb 1 2 4 A T ts Rl):
  StepCt p J 141 [pv b8,pv b4,pv b5] (lookH p.bj b8 b4 b5 fa fb) A T none ts fun f e Hx'=>Hx'=lookH p.bj b8 b4 b5 fa fb∧Rl f e:=by
 intro W cd ca cs held ph capj hW hJW
 have hL:=hL W cd ca cs held hW hJW
 have hflv:∀f:Fl,flv f= .agg #[.int .i64 (f.first:Int),.int .i64 (f.blocks:Int),.int .i64 (f.width:Int),.int .i64 (f.count:Int)]:=fun _=>rfl
 have hfl4:∀f:Fl,fl4 f=[.int .i64 (f.first:Int),.int .i64 (f.blocks:Int),.int .i64 (f.width:Int),.int .i64 (f.count:Int)]:=fun _=>rfl
 rw[hflv fa,hflv fb] at hL
 unfold jrow lookH
 rw[hfl4 fa,hfl4 fb]
 refine Ct.intro Tryz.func141 rfl Tryz.ntmps141 (nle rfl) fun w0=> ?_;dsimp only[argSlots,Nat.reduceAdd]
 repeat(first|(refine st ?_;intros)|refine G.draw [] (h:= ?_))
 refine R.callX (hct:=hL) (h:= ?_)
 rintro _ _ ⟨f,e,cd',ca',cs',W',rfl,rfl,hW',hS,hR⟩
 dsimp only[List.cons_append,List.nil_append]
 constructor
 ·(·(first|(intro _ _ h;cases h;done)|(repeat(first|exact qok_nil|(apply qok_cons;(·first|(intro hc;exact absurd hc (nmem rfl))|(intro _;apply CellPr.mk;(·repeat(first|exact Has.here|apply Has.there));(first|exact rfl|assumption))|(intro _;apply CellsPr.mk;(·repeat(first|exact Has.here|apply Has.there));(first|exact rfl|assumption))))))))
 rw[hflv]
 repeat(first|(refine st ?_;intros)|refine G.draw [] (h:= ?_))
 (refine Dn.post (Hr:=[[(p.bj,row [pv p.bw,.int .i64 0,.slice ph held.length capj] 95)],wrow p.bw p.bd p.ba p.bs,cd',ca',cs',[(b8,row [pv p.bj] 82)],[(b4,row (fl4 fa) 27)],[(b5,row (fl4 fb) 27)]]) Tryz.results141 (hR:= ?_);exact⟨f,e,cd',ca',cs',W',_,rfl,rfl,hW',hS,rfl,hR⟩)
abbrev o2:T5:=⟨2,0,0,0,0⟩
end Go.Proofs.YtammjnjpheobaaaGreat
namespace Go.SL
variable {P:Program} {ops:Array Oper} {Q:Exit→Act→World→Prop} {cls:Nat→Oper→Cls} {w0:World} {S:List Nat} {n:Nat} {l:List (Nat×Oper)} {L:Slots} {D:List Deferred} {H:Hp} {qs:List Rd} {k:Nat}
theorem close_perm {C c1 c2:Chunk} {Ha Hb:Hp} (hp:C.Perm (c1++c2)) (h1:Take c1 H Ha) (h2:Take c2 Ha Hb):H.flatten.Perm ((C::Hb).flatten):=by
 refine(join_perm h1 h2).trans ?_
 simp only[List.flatten_cons]
 exact hp.symm.append_right _
theorem R1.close {o:Oper} {C c1 c2:Chunk} {Ha Hb:Hp} (hp:C.Perm (c1++c2)) (h1:Take c1 H Ha) (h2:Take c2 Ha Hb) (h:R1 P ops Q cls w0 S n k o l L D (C::Hb) qs):R1 P ops Q cls w0 S n k o l L D H qs:=R1.recut (close_perm hp h1 h2) h
theorem Dn.close {e:Exit} {C c1 c2:Chunk} {Ha Hb:Hp} (hp:C.Perm (c1++c2)) (h1:Take c1 H Ha) (h2:Take c2 Ha Hb) (h:Dn Q w0 S n e L D (C::Hb)):Dn Q w0 S n e L D H:=Dn.recut (close_perm hp h1 h2) h
end Go.SL
namespace Go.Proofs.YtammjnjpheobaaaGreat
open Go.SL Go.Spc Go.Tup Go.Srt
theorem JobS.row {p:Jp} {B k a s0:Nat} {e:Int} {er:Option Nat} {Gf:List (Fl×List T5)} {C:Chunk} (h:JobS p B k a s0 e er Gf C):∃ph nh cap rest,C.Perm ([(p.bj,row [pv p.bw,.int .i64 e,.slice ph nh cap] 95)]++rest):=by
 obtain⟨⟨W,cd,ca,cs,held,ph,cap,ch,rfl,_⟩,_⟩:=h
 refine⟨ph,held.length,cap,[wrow p.bw p.bd p.ba p.bs,cd,ca,cs,ch].flatten,?_⟩
 unfold jobC jrow
 refine permC fun z=> ?_
 simp only[List.flatten_cons,List.flatten_nil,List.append_nil,List.flatten_append,List.count_append];omega
theorem StepCt.mono {p:Jp} {J:Jb} {mk:Nat} {us:List Value} {Hx:Hp} {A T:Nat} {er:Option Nat} {ts:List T5} {R R':Fl→Int→Hp→Prop} (h:StepCt p J mk us Hx A T er ts R) (hr:∀f e Hx',R f e Hx'→R' f e Hx'):StepCt p J mk us Hx A T er ts R':=by
 intro W cd ca cs held ph cap h1 h2
 refine(h W cd ca cs held ph cap h1 h2).mono ?_
 rintro v H' ⟨f,e,cd',ca',cs',W',Hx',a1,a2,a3,a4,a5⟩
 exact⟨f,e,cd',ca',cs',W',Hx',a1,a2,a3,a4,hr _ _ _ a5⟩
theorem JobW.lives {p:Jp} {J:Jb} {held:List (Fl×List T5)} {W:Wk} (h:JobW p J held W) (he:J.e=0):W.live.length≤J.G.length+p.L0.length∧total W.live=(J.G.map (·.1.blocks)).sum+total p.L0:=by
 obtain⟨hp,_⟩:=h.ok he
 have h1:=h.live.length_eq
 have h2:=length_addFs (held.map (·.1)) p.L0
 have h3:total W.live=_:=(total_perm h.live).trans (total_addFs _ _)
 have h4:=hp.length_eq
 have h5:(held.map (·.1)).map (·.blocks)=held.map (·.1.blocks):=by simp
 have h6:=(hp.map (·.1.blocks)).sum_nat
 rw[List.length_map] at h2
 rw[h5,h6] at h3
 exact⟨by omega,h3⟩
def fbox (b:Nat) (f:Fl):Chunk:=[(b,row [.int .i64 (f.first:Int),.int .i64 (f.blocks:Int),.int .i64 (f.width:Int),.int .i64 (f.count:Int)] 27)]
end Go.Proofs.YtammjnjpheobaaaGreat
