/-
  Parts of the proof, put together: TourU, Union, TourX, TorI, TorK. No condition.
-/
import Derived.Test.YtammjnjpheobaaaGreatK29
set_option linter.unusedVariables false
set_option linter.unusedSimpArgs false
set_option linter.unnecessarySimpa false
set_option maxHeartbeats 4000000
namespace Go.Proofs.YtammjnjpheobaaaGreat
open Go.SL Go.Tup Go.Srt Go.Gr
def shT (m n:Int) (t:T5):T5:=⟨t.c0+2*m,t.c1+n,t.c2+n,t.c3+n,t.c4⟩
structure Side (A B:List T5) (m n:Nat):Prop where
 lt:∀t∈A,t.c1<(n:Int)
 ge:∀t∈B,0≤t.c1
 pos:∀t∈B,0≤t.c0
section
variable {A B:List T5} {m n:Nat}
abbrev sdR (A B:List T5) (m n:Nat):List T5:=A++B.map (shT m n)
theorem sd_lo {k:Nat} (hk:k<A.length):at5 (sdR A B m n) k=at5 A k:=by
 unfold at5
 rw[List.getD_eq_getElem?_getD,List.getD_eq_getElem?_getD,List.getElem?_append_left hk]
theorem sd_hi {k:Nat} (hk:k<B.length):at5 (sdR A B m n) (A.length+k)=shT m n (at5 B k):=by
 unfold at5
 rw[List.getD_eq_getElem?_getD,List.getD_eq_getElem?_getD,List.getElem?_append_right (by omega),Nat.add_sub_cancel_left,List.getElem?_map,List.getElem?_eq_getElem hk]
 rfl
theorem sd_len:(sdR A B m n).length=A.length+B.length:=by simp
theorem Side.ne (h:Side A B m n) {i k:Nat} (hi:i<A.length) (hk:k<B.length):(at5 (sdR A B m n) i).c1≠(at5 (sdR A B m n) (A.length+k)).c1:=by
 rw[sd_lo hi,sd_hi hk]
 have h1:=h.lt _ (at5mem hi)
 have h2:=h.ge _ (at5mem hk)
 show _≠(at5 B k).c1+(n:Int)
 omega
theorem sd_head_lo {k:Nat} (hk:k<A.length):headF (sdR A B m n) k=headF A k:=by
 induction k with
 |zero=>rfl
 |succ k ih=>
  unfold headF
  rw[sd_lo hk,sd_lo (by omega),ih (by omega)]
theorem Side.head_hi (h:Side A B m n) {k:Nat} (hk:k<B.length):headF (sdR A B m n) (A.length+k)=A.length+headF B k:=by
 induction k with
 |zero=>
  cases ha:A.length with
  |zero=>rfl
  |succ j=>
   show(if _ then _ else _)=_
   have hne:=h.ne (i:=j) (k:=0) (by omega) hk
   rw[ha] at hne
   rw[if_neg hne];rfl
 |succ k ih=>
  have e:A.length+(k+1)=(A.length+k)+1:=by omega
  rw[e]
  show(if(at5 (sdR A B m n) (A.length+k)).c1=(at5 (sdR A B m n) (A.length+k+1)).c1 then headF (sdR A B m n) (A.length+k) else A.length+k+1)=A.length+(if(at5 B k).c1=(at5 B (k+1)).c1 then headF B k else k+1)
  rw[show A.length+k+1=A.length+(k+1) by omega,sd_hi hk,sd_hi (show k<B.length by omega),ih (by omega)]
  by_cases hc:(at5 B k).c1=(at5 B (k+1)).c1
  ·rw[if_pos hc,if_pos (by show(at5 B k).c1+_=(at5 B (k+1)).c1+_;rw[hc])]
  ·rw[if_neg hc,if_neg (by show¬((at5 B k).c1+(n:Int)=(at5 B (k+1)).c1+(n:Int));omega)]
theorem Side.behind_lo (h:Side A B m n) {k:Nat} (hk:k<A.length):behindF (sdR A B m n) k=behindF A k:=by
 unfold behindF
 rw[sd_head_lo hk,sd_len,sd_lo hk]
 by_cases hk1:k+1<A.length
 ·rw[sd_lo hk1]
  by_cases hc:(at5 A (k+1)).c1=(at5 A k).c1
  ·rw[if_pos ⟨by omega,hc⟩,if_pos ⟨hk1,hc⟩]
  ·rw[if_neg fun hh=>hc hh.2,if_neg fun hh=>hc hh.2]
 ·rw[if_neg (show¬(k+1<A.length∧_) from fun hh=>hk1 hh.1),if_neg]
  rintro⟨h1,h2⟩
  have e:k+1=A.length+0:=by omega
  have hb:0<B.length:=by omega
  have:=h.ne hk hb
  rw[sd_lo hk] at this
  rw[e] at h2
  exact this h2.symm
theorem Side.behind_hi (h:Side A B m n) {k:Nat} (hk:k<B.length):behindF (sdR A B m n) (A.length+k)=A.length+behindF B k:=by
 unfold behindF
 rw[h.head_hi hk,sd_len,sd_hi hk]
 by_cases hk1:k+1<B.length
 ·rw[show A.length+k+1=A.length+(k+1) by omega,sd_hi hk1]
  by_cases hc:(at5 B (k+1)).c1=(at5 B k).c1
  ·rw[if_pos ⟨by omega,by show(at5 B (k+1)).c1+_=(at5 B k).c1+_;rw[hc]⟩,if_pos ⟨hk1,hc⟩]
  ·rw[if_neg (fun hh=>hc (by have h2:(at5 B (k+1)).c1+(n:Int)=(at5 B k).c1+(n:Int):=hh.2;omega)),if_neg fun hh=>hc hh.2]
 ·rw[if_neg (fun hh=>hk1 (by have:=hh.1;omega)),if_neg (fun hh=>hk1 hh.1)]
theorem flip_sh (x:Int) (m:Nat):flipF (x+2*(m:Int))=flipF x+2*(m:Int):=by
 unfold flipF
 by_cases h:x%2=0
 ·rw[if_pos h,if_pos (by omega)];omega
 ·rw[if_neg h,if_neg (by omega)];omega
variable {a f a1 f1 a2 f2:List T5}
theorem Side.bro_lo (hR:Arcs a f (sdR A B m n)) (hA:Arcs a1 f1 A) {k:Nat} (hk:k<A.length):brotherF (sdR A B m n) k=brotherF A k:=by
 have hb:=brotherF_lt hk
 have hkR:k<(sdR A B m n).length:=by rw[sd_len];omega
 refine hR.num (brotherF_lt hkR) (by rw[sd_len];omega) ?_
 rw[hR.bro hkR,sd_lo hb,hA.bro hk,sd_lo hk]
theorem Side.bro_hi (hR:Arcs a f (sdR A B m n)) (hB:Arcs a2 f2 B) {k:Nat} (hk:k<B.length):brotherF (sdR A B m n) (A.length+k)=A.length+brotherF B k:=by
 have hb:=brotherF_lt hk
 have hkR:A.length+k<(sdR A B m n).length:=by rw[sd_len];omega
 refine hR.num (brotherF_lt hkR) (by rw[sd_len];omega) ?_
 rw[hR.bro hkR,sd_hi hb,hB.bro hk,sd_hi hk]
 exact flip_sh _ _
theorem Side.sig_lo (h:Side A B m n) (hR:Arcs a f (sdR A B m n)) (hA:Arcs a1 f1 A) {k:Nat} (hk:k<A.length):sigF (sdR A B m n) k=sigF A k:=by
 unfold sigF
 rw[Side.bro_lo hR hA hk,h.behind_lo (brotherF_lt hk)]
theorem Side.sig_hi (h:Side A B m n) (hR:Arcs a f (sdR A B m n)) (hB:Arcs a2 f2 B) {k:Nat} (hk:k<B.length):sigF (sdR A B m n) (A.length+k)=A.length+sigF B k:=by
 unfold sigF
 rw[Side.bro_hi hR hB hk,h.behind_hi (brotherF_lt hk)]
theorem Side.it_lo (h:Side A B m n) (hR:Arcs a f (sdR A B m n)) (hA:Arcs a1 f1 A) {i:Nat} (hi:i<A.length):∀k,itF (sigF (sdR A B m n)) k i=itF (sigF A) k i
 |0=>rfl
 |k+1=>by
  show sigF _ (itF _ k i)=sigF A (itF (sigF A) k i)
  rw[h.it_lo hR hA hi k,h.sig_lo hR hA (itF_lt (f:=sigF A) sigF_lt hi k)]
theorem Side.it_hi (h:Side A B m n) (hR:Arcs a f (sdR A B m n)) (hB:Arcs a2 f2 B) {i:Nat} (hi:i<B.length):∀k,itF (sigF (sdR A B m n)) k (A.length+i)=A.length+itF (sigF B) k i
 |0=>rfl
 |k+1=>by
  show sigF _ (itF _ k (A.length+i))=A.length+sigF B (itF (sigF B) k i)
  rw[h.it_hi hR hB hi k,h.sig_hi hR hB (itF_lt (f:=sigF B) sigF_lt hi k)]
theorem Side.per_lo (h:Side A B m n) (hR:Arcs a f (sdR A B m n)) (hA:Arcs a1 f1 A) {i:Nat} (hi:i<A.length):perA (sdR A B m n) i=perA A i:=by
 have hiR:i<(sdR A B m n).length:=by rw[sd_len];omega
 obtain⟨p1,_,p2,p3⟩:=hR.per hiR
 obtain⟨q1,_,q2,q3⟩:=hA.per hi
 rw[h.it_lo hR hA hi] at p2
 rcases Nat.lt_trichotomy (perA (sdR A B m n) i) (perA A i) with h1|h1|h1
 ·exact absurd p2 (q3 _ p1 h1)
 ·exact h1
 ·exact absurd ((h.it_lo hR hA hi _).trans q2) (p3 _ q1 h1)
theorem Side.per_hi (h:Side A B m n) (hR:Arcs a f (sdR A B m n)) (hB:Arcs a2 f2 B) {i:Nat} (hi:i<B.length):perA (sdR A B m n) (A.length+i)=perA B i:=by
 have hiR:A.length+i<(sdR A B m n).length:=by rw[sd_len];omega
 obtain⟨p1,_,p2,p3⟩:=hR.per hiR
 obtain⟨q1,_,q2,q3⟩:=hB.per hi
 rw[h.it_hi hR hB hi] at p2
 rcases Nat.lt_trichotomy (perA (sdR A B m n) (A.length+i)) (perA B i) with h1|h1|h1
 ·exact absurd (by omega) (q3 _ p1 h1)
 ·exact h1
 ·exact absurd ((h.it_hi hR hB hi _).trans (by rw[q2])) (p3 _ q1 h1)
theorem Side.root_lo {i:Nat} (hi:i<A.length):rootB (sdR A B m n) i=rootB A i:=by
 unfold rootB
 rw[sd_lo hi,sd_lo (show i-1<A.length by omega)]
theorem Side.root_hi (h:Side A B m n) {i:Nat} (hi:i<B.length):rootB (sdR A B m n) (A.length+i)=rootB B i:=by
 unfold rootB
 rw[sd_hi hi]
 refine decide_eq_decide.2 (and_congr ?_ ?_)
 ·show(at5 B i).c1+(n:Int)=(at5 B i).c3+(n:Int)↔_
  omega
 ·rcases Nat.eq_zero_or_pos i with h0|h0
  ·subst h0
   refine⟨fun _ hh=>absurd hh (Nat.lt_irrefl 0),fun _ hp=> ?_⟩
   have hne:=h.ne (i:=A.length-1) (k:=0) (by omega) hi
   rw[sd_hi hi] at hne
   exact hne
  ·rw[show A.length+i-1=A.length+(i-1) by omega,sd_hi (show i-1<B.length by omega)]
   constructor
   ·intro hh _ he
    exact hh (by omega) (by show(at5 B (i-1)).c1+_=(at5 B i).c1+_;rw[he])
   ·intro hh _ he
    have he:(at5 B (i-1)).c1+(n:Int)=(at5 B i).c1+(n:Int):=he
    exact hh h0 (by omega)
theorem Side.tours (h:Side A B m n) (hR:Arcs a f (sdR A B m n)) (hA:Arcs a1 f1 A) (hB:Arcs a2 f2 B):toursF (sdR A B m n)=toursF A++(toursF B).map (shT m n):=by
 unfold toursF toursTo
 rw[sd_len,List.range_add,List.flatMap_append,List.flatMap_map,List.map_flatMap]
 congr 1
 ·refine fmCongr fun i hi=> ?_
  have hi:=List.mem_range.1 hi
  rw[Side.root_lo hi]
  split
  ·unfold tourL
   rw[h.per_lo hR hA hi]
   refine List.map_congr_left fun k _=> ?_
   unfold arcAt
   rw[h.it_lo hR hA hi,sd_lo (itF_lt (f:=sigF A) sigF_lt hi k)]
  ·rfl
 ·refine fmCongr fun i hi=> ?_
  have hi:=List.mem_range.1 hi
  rw[h.root_hi hi]
  split
  ·unfold tourL
   rw[h.per_hi hR hB hi,List.map_map]
   refine List.map_congr_left fun k _=> ?_
   unfold arcAt
   rw[h.it_hi hR hB hi,sd_hi (itF_lt (f:=sigF B) sigF_lt hi k)]
   rfl
  ·rfl
end
def shE (n:Nat) (e:IE):IE:=(e.1+(n:Int),e.2+(n:Int))
abbrev unE (es1 es2:List IE) (n:Nat):List IE:=es1++es2.map (shE n)
section
variable {es1 es2:List IE} {n n2:Nat}
theorem un_lo {i:Nat} (hi:i<es1.length):gE (unE es1 es2 n) i=gE es1 i:=by
 unfold gE
 rw[List.getElem?_append_left hi]
theorem un_hi {i:Nat} (hi:i<es2.length) (hf2:∀e∈es2,inE n2 e):gE (unE es1 es2 n) (es1.length+i)=((gE es2 i).1+n,(gE es2 i).2+n):=by
 have h1:es2[i]? =some es2[i]:=List.getElem?_eq_getElem hi
 have h2:=hf2 _ (List.mem_of_getElem? h1)
 unfold inE at h2
 unfold gE
 rw[List.getElem?_append_right (by omega),Nat.add_sub_cancel_left,List.getElem?_map,h1]
 simp only[Option.map_some,shE]
 refine Prod.ext ?_ ?_<;>dsimp only<;>omega
theorem un_in {i:Nat} {N:Nat} {es:List IE} (hf:∀e∈es,inE N e) (hi:i<es.length):(gE es i).1<N∧(gE es i).2<N:=by
 have h1:es[i]? =some es[i]:=List.getElem?_eq_getElem hi
 have h2:=hf _ (List.mem_of_getElem? h1)
 unfold inE at h2
 unfold gE
 rw[h1]
 dsimp only
 omega
structure UnS (es1 es2:List IE) (S S1 S2:Nat→Prop):Prop where
 lo:∀i,i<es1.length→(S i↔S1 i)
 hi:∀i,i<es2.length→(S (es1.length+i)↔S2 i)
 le:∀i,S i→i<es1.length+es2.length
 l1:∀i,S1 i→i<es1.length
 l2:∀i,S2 i→i<es2.length
variable {S S1 S2:Nat→Prop}
theorem cn_lo (hs:UnS es1 es2 S S1 S2) (hf1:∀e∈es1,inE n e) (hf2:∀e∈es2,inE n2 e) {u x:Nat} (hu:u<n):Cn (gE (unE es1 es2 n)) S u x↔Cn (gE es1) S1 u x:=by
 constructor
 ·intro h
  have:x<n∧Cn (gE es1) S1 u x:=by
   induction h with
   |refl=>exact⟨hu,.refl _⟩
   |step _ hj ih=>
    obtain⟨hx,hc⟩:=ih
    obtain⟨i,hi,he⟩:=hj
    by_cases hlt:i<es1.length
    ·rw[un_lo hlt] at he
     have:=un_in hf1 hlt
     refine⟨by omega,hc.trans (.one ⟨i,(hs.lo i hlt).1 hi,he⟩)⟩
    ·exfalso
     have hle:=hs.le i hi
     obtain⟨k,rfl⟩:∃k,i=es1.length+k:=⟨i-es1.length,by omega⟩
     rw[un_hi (by omega) hf2] at he
     dsimp only at he
     omega
  exact this.2
 ·intro h
  induction h with
  |refl=>exact .refl _
  |step _ hj ih=>
   obtain⟨i,hi,he⟩:=hj
   have hlt:=hs.l1 i hi
   exact ih.trans (.one ⟨i,(hs.lo i hlt).2 hi,by rw[un_lo hlt];exact he⟩)
theorem cn_hi (hs:UnS es1 es2 S S1 S2) (hf1:∀e∈es1,inE n e) (hf2:∀e∈es2,inE n2 e) {u x:Nat}:Cn (gE (unE es1 es2 n)) S (n+u) x↔∃y,x=n+y∧Cn (gE es2) S2 u y:=by
 constructor
 ·intro h
  generalize hv:n+u=v at h
  induction h with
  |refl=>subst hv;exact⟨u,rfl,.refl _⟩
  |step _ hj ih=>
   obtain⟨y,rfl,hc⟩:=ih
   obtain⟨i,hi,he⟩:=hj
   by_cases hlt:i<es1.length
   ·exfalso
    rw[un_lo hlt] at he
    have:=un_in hf1 hlt
    omega
   ·have hle:=hs.le i hi
    obtain⟨k,rfl⟩:∃k,i=es1.length+k:=⟨i-es1.length,by omega⟩
    rw[un_hi (by omega) hf2] at he
    dsimp only at he
    have h2:=(hs.hi k (by omega)).1 hi
    rcases he with⟨e1,e2⟩|⟨e1,e2⟩
    ·exact⟨(gE es2 k).2,by omega,hc.trans (.one ⟨k,h2,.inl ⟨by omega,rfl⟩⟩)⟩
    ·exact⟨(gE es2 k).1,by omega,hc.trans (.one ⟨k,h2,.inr ⟨rfl,by omega⟩⟩)⟩
 ·rintro⟨y,rfl,h⟩
  induction h with
  |refl=>exact .refl _
  |step _ hj ih=>
   obtain⟨i,hi,he⟩:=hj
   have hlt:=hs.l2 i hi
   refine ih.trans (.one ⟨es1.length+i,(hs.hi i hlt).2 hi,?_⟩)
   rw[un_hi hlt hf2]
   dsimp only
   rcases he with⟨e1,e2⟩|⟨e1,e2⟩
   ·exact .inl ⟨by omega,by omega⟩
   ·exact .inr ⟨by omega,by omega⟩
theorem uns_all:UnS es1 es2 (fun i=>i<(unE es1 es2 n).length) (fun i=>i<es1.length) (fun i=>i<es2.length):=by
 refine⟨fun i hi=> ?_,fun i hi=> ?_,fun i hi=> ?_,fun i hi=>hi,fun i hi=>hi⟩
 ·simp;omega
 ·simp
 ·simpa using hi
theorem lab_un (hf1:∀e∈es1,inE n e) (hf2:∀e∈es2,inE n2 e) {l1 l2:List Int} (h1:LabOk (gE es1) (fun i=>i<es1.length) n (-1) l1) (h2:LabOk (gE es2) (fun i=>i<es2.length) n2 (-1) l2):
  LabOk (gE (unE es1 es2 n)) (fun i=>i<(unE es1 es2 n).length) (n+n2) (-1) (l1++l2.map fun x=>x+(n:Int)):=by
 refine⟨by rw[List.length_append,List.length_map,h1.len,h2.len],fun v hv _=> ?_,fun v _ hw=>by omega⟩
 by_cases hvn:v<n
 ·obtain⟨x,a1,a2,a3,a4⟩:=h1.at_ v hvn (by omega)
  refine⟨x,by rw[List.getElem?_append_left (by rw[h1.len];exact hvn)];exact a1,(cn_lo uns_all hf1 hf2 hvn).2 a2,a3,fun u hu=>a4 u ((cn_lo uns_all hf1 hf2 hvn).1 hu)⟩
 ·obtain⟨w,rfl⟩:∃w,v=n+w:=⟨v-n,by omega⟩
  obtain⟨x,a1,a2,a3,a4⟩:=h2.at_ w (by omega) (by omega)
  refine⟨n+x,?_,(cn_hi uns_all hf1 hf2).2 ⟨x,rfl,a2⟩,by omega,fun u hu=> ?_⟩
  ·rw[List.getElem?_append_right (by rw[h1.len];omega),h1.len,Nat.add_sub_cancel_left,List.getElem?_map,a1]
   simp only[Option.map_some,Option.some.injEq];omega
  ·obtain⟨y,rfl,hy⟩:=(cn_hi uns_all hf1 hf2).1 hu
   have:=a4 y hy
   omega
theorem for_un (hf1:∀e∈es1,inE n e) (hf2:∀e∈es2,inE n2 e) {fl1 fl2:List Bool} (h1:forestOk es1 fl1) (h2:forestOk es2 fl2):forestOk (unE es1 es2 n) (fl1++fl2):=by
 refine⟨by simp[h1.1,h2.1],fun i b hb=> ?_⟩
 by_cases hi:i<es1.length
 ·rw[List.getElem?_append_left (by rw[h1.1];exact hi)] at hb
  rw[h1.2 i b hb]
  unfold Kr
  rw[un_lo hi,cn_lo (S1:=fun j=>j<es1.length∧j<i) (S2:=fun _=>False) ⟨fun j hj=>by simp;omega,fun j hj=>by simp;omega,fun j hj=>by simp at hj;omega,fun j hj=>hj.1,fun j hj=>hj.elim⟩ hf1 hf2 (un_in hf1 hi).1]
  simp;omega
 ·have hil:=(List.getElem?_eq_some_iff.1 hb).1
  rw[List.length_append,h1.1,h2.1] at hil
  obtain⟨k,rfl⟩:∃k,i=es1.length+k:=⟨i-es1.length,by omega⟩
  rw[List.getElem?_append_right (by rw[h1.1];omega),h1.1,Nat.add_sub_cancel_left] at hb
  rw[h2.2 k b hb]
  unfold Kr
  rw[un_hi (by omega) hf2]
  dsimp only
  rw[Nat.add_comm _ n,Nat.add_comm _ n,cn_hi (S1:=fun j=>j<es1.length) (S2:=fun j=>j<es2.length∧j<k) ⟨fun j hj=>by simp;omega,fun j hj=>by simp,fun j hj=>by simp at hj;omega,fun j hj=>hj,fun j hj=>hj.1⟩ hf1 hf2]
  constructor
  ·rintro⟨a1,a2⟩
   refine⟨by simp;omega,?_⟩
   rintro⟨y,e,hc⟩
   have:y=(gE es2 k).2:=by omega
   subst this;exact a2 hc
  ·rintro⟨_,a2⟩
   exact⟨by omega,fun hc=>a2 ⟨_,rfl,hc⟩⟩
end
def shF (m n:Int) (t:T5):T5:=⟨t.c0+m,t.c1+n,t.c2+n,0,0⟩
theorem edT_un (es1 es2:List IE) (n:Nat):edT (unE es1 es2 n)=edT es1++(edT es2).map (shF es1.length n):=by
 unfold edT
 rw[List.length_append,List.length_map,List.range_add,List.map_append,List.map_map,List.map_map]
 congr 1
 ·refine List.map_congr_left fun i hi=> ?_
  have hi:=List.mem_range.1 hi
  rw[List.getD_eq_getElem?_getD,List.getD_eq_getElem?_getD,List.getElem?_append_left hi]
 ·refine List.map_congr_left fun i hi=> ?_
  have hi:=List.mem_range.1 hi
  simp only[Function.comp_apply]
  rw[List.getD_eq_getElem?_getD,List.getD_eq_getElem?_getD,List.getElem?_append_right (by omega),Nat.add_sub_cancel_left,List.getElem?_map,List.getElem?_eq_getElem hi]
  simp only[Option.map_some,Option.getD_some,shE,shF]
  congr 1
  omega
theorem forT_sh (m n:Int):∀(s:List T5) (fl:List Bool),forT (s.map (shF m n)) fl=(forT s fl).map (shF m n)
 |[],_=>by simp[forT]
 |t::s,[]=>by simp[forT]
 |t::s,b::fl=>by
  have ih:=forT_sh m n s fl
  unfold forT at ih⊢
  rw[List.map_cons,List.zip_cons_cons,List.zip_cons_cons,List.filterMap_cons,List.filterMap_cons]
  cases b with
  |false=>exact ih
  |true=>
   simp only[if_true,List.map_cons]
   rw[ih];rfl
theorem forT_un {s1 s2:List T5} {fl1 fl2:List Bool} (h:s1.length=fl1.length) (m n:Int):forT (s1++s2.map (shF m n)) (fl1++fl2)=forT s1 fl1++(forT s2 fl2).map (shF m n):=by
 rw[←forT_sh]
 unfold forT
 rw[List.zip_append h,List.filterMap_append]
theorem tour_un {n n2:Nat} {es1 es2:List IE} {l1 l2:List Int} {fl1 fl2:List Bool} {r1 b1 r2 b2 rg bg:List T5} (hf1:∀e∈es1,inE n e) (hf2:∀e∈es2,inE n2 e) (hm:es1.length+es2.length≤100000)
  (h1:PartsOk n es1 l1 fl1 r1 b1) (h2:PartsOk n2 es2 l2 fl2 r2 b2) (hg:PartsOk (n+n2) (unE es1 es2 n) (l1++l2.map fun x=>x+(n:Int)) (fl1++fl2) rg bg):
  bg=b1++b2.map (shT es1.length n):=by
 have hfg:∀e∈unE es1 es2 n,inE (n+n2:Nat) e:=by
  intro e he
  rcases List.mem_append.1 he with he|he
  ·have:=hf1 e he
   unfold inE at this⊢;omega
  ·obtain⟨d,hd,rfl⟩:=List.mem_map.1 he
   have:=hf2 d hd
   unfold inE at this⊢;unfold shE;dsimp only;omega
 have hFe:forT (edT (unE es1 es2 n)) (fl1++fl2)=forT (edT es1) fl1++(forT (edT es2) fl2).map (shF es1.length n):=by
  rw[edT_un]
  exact forT_un (by rw[edT_len,h1.fors.1]) _ _
 have hlo:∀v:Nat,v<n→(at5 (labT (l1++l2.map fun x=>x+(n:Int))) v).c1=(at5 (labT l1) v).c1:=fun v hv=>by
  obtain⟨x,hx,_⟩:=h1.labs.root hv
  rw[labT_at hx,labT_at (show(l1++l2.map fun x=>x+(n:Int))[v]? =some x by rw[List.getElem?_append_left (by rw[h1.labs.len];exact hv)];exact hx)]
 have hhi:∀v:Nat,v<n2→(at5 (labT (l1++l2.map fun x=>x+(n:Int))) (n+v)).c1=(at5 (labT l2) v).c1+(n:Int):=fun v hv=>by
  obtain⟨x,hx,_⟩:=h2.labs.root hv
  rw[labT_at hx,labT_at (show(l1++l2.map fun x=>x+(n:Int))[n+v]? =some ((x:Int)+n) by rw[List.getElem?_append_right (by rw[h1.labs.len];omega),h1.labs.len,Nat.add_sub_cancel_left,List.getElem?_map,hx];rfl)]
 have hA:arcsL (labT (l1++l2.map fun x=>x+(n:Int))) (forT (edT (unE es1 es2 n)) (fl1++fl2))=arcsL (labT l1) (forT (edT es1) fl1)++(arcsL (labT l2) (forT (edT es2) fl2)).map (shT es1.length n):=by
  rw[hFe]
  unfold arcsL
  rw[List.flatMap_append,List.flatMap_map,List.map_flatMap]
  congr 1
  ·refine fmCongr fun t ht=> ?_
   obtain⟨i,d,hd,_,rfl⟩:=h1.edge ht
   have:=hf1 d (List.mem_of_getElem? hd)
   unfold inE at this
   unfold arcs2
   dsimp only
   rw[hlo _ (by omega)]
  ·refine fmCongr fun t ht=> ?_
   obtain⟨i,d,hd,_,rfl⟩:=h2.edge ht
   have:=hf2 d (List.mem_of_getElem? hd)
   unfold inE at this
   unfold arcs2 shF shT
   dsimp only[List.map_cons,List.map_nil]
   have e1:(d.1+(n:Int)).toNat=n+d.1.toNat:=by omega
   rw[e1,hhi _ (by omega)]
   rw[show 2*((i:Int)+(es1.length:Int))=2*(i:Int)+2*(es1.length:Int) by omega,show 2*(i:Int)+2*(es1.length:Int)+1=2*(i:Int)+1+2*(es1.length:Int) by omega]
   try rfl
 have hlt:∀t∈r1,t.c1<(n:Int):=fun t ht=>by
  obtain⟨k,hk,rfl⟩:=mem_at5 ht
  obtain⟨i,d,x,hd,_,_,_,hx⟩:=h1.arc_of hf1 hk
  have:=hf1 d (List.mem_of_getElem? hd)
  unfold inE at this
  rcases hx with hx|hx<;>rw[hx]<;>dsimp only<;>omega
 have hge:∀t∈r2,0≤t.c1∧0≤t.c0:=fun t ht=>by
  obtain⟨k,hk,rfl⟩:=mem_at5 ht
  obtain⟨i,d,x,hd,_,_,_,hx⟩:=h2.arc_of hf2 hk
  have:=hf2 d (List.mem_of_getElem? hd)
  unfold inE at this
  rcases hx with hx|hx<;>rw[hx]<;>dsimp only<;>omega
 have hS:Side r1 r2 es1.length n:=⟨hlt,fun t ht=>(hge t ht).1,fun t ht=>(hge t ht).2⟩
 have hR:Arcs (labT (l1++l2.map fun x=>x+(n:Int))) (forT (edT (unE es1 es2 n)) (fl1++fl2)) (sdR r1 r2 es1.length n):=by
  refine⟨?_,?_,hg.arcs.nd,hg.arcs.pos⟩
  ·rw[hA]
   exact h1.arcs.perm.append (h2.arcs.perm.map _)
  ·unfold Sa
   refine List.pairwise_append.2 ⟨h1.arcs.sa,?_,fun x hx y hy=> ?_⟩
   ·rw[List.pairwise_map]
    refine h2.arcs.sa.imp fun {x y} hh=> ?_
    have h3:¬lessB y x=true:=by rw[hh];decide
    rw[lessB_iff] at h3
    cases hb:lessB (shT es1.length n y) (shT es1.length n x) with
    |false=>rfl
    |true=>
     rw[lessB_iff] at hb
     unfold shT at hb
     dsimp only at hb
     omega
   ·obtain⟨z,hz,rfl⟩:=List.mem_map.1 hy
    have a1:=hlt x hx
    have a2:=(hge z hz).1
    cases hb:lessB (shT es1.length n z) x with
    |false=>rfl
    |true=>
     rw[lessB_iff] at hb
     unfold shT at hb
     dsimp only at hb
     omega
 have hP:PartsOk (n+n2) (unE es1 es2 n) (l1++l2.map fun x=>x+(n:Int)) (fl1++fl2) (sdR r1 r2 es1.length n) (toursF (sdR r1 r2 es1.length n)):=by
  refine⟨hg.labs,hg.fors,hR,?_,rfl⟩
  rw[sd_len,h1.len,h2.len,hFe,List.length_append,List.length_map];omega
 have hml:(unE es1 es2 n).length≤1000000:=by simp;omega
 have hrr:rg=sdR r1 r2 es1.length n:=(hg.nam_is hfg hml).symm.trans (hP.nam_is hfg hml)
 rw[hg.tours,hrr,hS.tours hR h1.arcs h2.arcs,←h1.tours,←h2.tours]
end Go.Proofs.YtammjnjpheobaaaGreat
namespace Go.Proofs.YtammjnjpheobaaaGreat
open Go.SL Go.Spc Go.Tup Go.Srt Go.Gr
theorem laid16in (bw bd ba bs:Nat) (ro:Nat) (hR:10≤ro) (cd ca cs:Chunk) (hW:Wc bd ba bs (wk0 10 9000 ro) cd ca cs) (N:Nat) (hN:N≤1000) (p:Option Addr) (m cap:Nat) (es:List IE) (c:Chunk) (hv:Rw ecl 2 p m es c) (hm:m≤1000) (hf:∀e∈es,inE N e) (A r:Chunk) (hA:A.Perm (c++r)):
  Ct Tryz.prog 20 [pv bw,gv N p m cap] [wrow bw bd ba bs,cd,ca,cs,A] fun v H'=>∃cd' ca' cs' W f h lab fl,v= .tuple #[flv f,flv h,.bool true]∧H'=[wrow bw bd ba bs,cd',ca',cs',A]∧Wc bd ba bs W cd' ca' cs'∧Laid6 ro N es W f h lab fl∧W.δ.fault= -1:=by
 have h:=laid16ct bw bd ba bs ro hR cd ca cs hW N hN p m cap es c hv hm hf
 have h1:Ct Tryz.prog 20 [pv bw,gv N p m cap] (c::[wrow bw bd ba bs,cd,ca,cs]) fun v H'=>∃H1,H'=c::H1∧∃cd' ca' cs' W f h lab fl,v= .tuple #[flv f,flv h,.bool true]∧H1=[wrow bw bd ba bs,cd',ca',cs']∧Wc bd ba bs W cd' ca' cs'∧Laid6 ro N es W f h lab fl∧W.δ.fault= -1:=by
  refine Ct.convP h (by refine permC fun z=> ?_;simp only[List.flatten_cons,List.flatten_nil,List.append_nil,List.count_append];omega) ?_
  rintro v H' ⟨cd',ca',cs',W,f,h,lab,fl,rfl,rfl,h2⟩
  exact⟨c::[wrow bw bd ba bs,cd',ca',cs'],⟨_,rfl,cd',ca',cs',W,f,h,lab,fl,rfl,rfl,h2⟩,by refine permC fun z=> ?_;simp only[List.flatten_cons,List.flatten_nil,List.append_nil,List.count_append];omega⟩
 refine Ct.convP (Ct.inA h1 hA) (by refine permC fun z=> ?_;simp only[List.flatten_cons,List.flatten_nil,List.append_nil,List.count_append];omega) ?_
 rintro v H' ⟨H1,rfl,cd',ca',cs',W,f,h,lab,fl,rfl,rfl,h2⟩
 exact⟨[wrow bw bd ba bs,cd',ca',cs',A],⟨cd',ca',cs',W,f,h,lab,fl,rfl,rfl,h2⟩,by refine permC fun z=> ?_;simp only[List.flatten_cons,List.flatten_nil,List.append_nil,List.count_append];omega⟩
theorem apart_is {n n2:Nat} {es1 es2:List IE} {l1 l2 lg:List Int} {fl1 fl2 flg:List Bool} {r1 b1 r2 b2 rg bg:List T5} (hf1:∀e∈es1,inE n e) (hf2:∀e∈es2,inE n2 e) (hm:es1.length+es2.length≤100000)
  (h1:PartsOk n es1 l1 fl1 r1 b1) (h2:PartsOk n2 es2 l2 fl2 r2 b2) (hg:PartsOk (n+n2) (unE es1 es2 n) lg flg rg bg):bg=b1++b2.map (shT es1.length n):=by
 obtain rfl:=labs_one hg.labs (lab_un hf1 hf2 h1.labs h2.labs)
 obtain rfl:=fors_one hg.fors (for_un hf1 hf2 h1.fors h2.fors)
 exact tour_un hf1 hf2 hm h1 h2 hg
theorem un_inE {n n2:Nat} {es1 es2:List IE} (hf1:∀e∈es1,inE n e) (hf2:∀e∈es2,inE n2 e):∀e∈unE es1 es2 n,inE (n+n2:Nat) e:=by
 intro e he
 rcases List.mem_append.1 he with he|he
 ·have:=hf1 e he
  unfold inE at this⊢;omega
 ·obtain⟨d,hd,rfl⟩:=List.mem_map.1 he
  have:=hf2 d hd
  unfold inE at this⊢;unfold shE;dsimp only;omega
theorem tour_bnd {N:Nat} {es:List IE} {lab:List Int} {fl:List Bool} {r b:List T5} (h:PartsOk N es lab fl r b) (hf:∀e∈es,inE N e) (hN:N≤1000) (hm:es.length≤1000):∀t∈b,(0≤t.c0∧t.c0≤3000)∧(0≤t.c1∧t.c1≤3000)∧(0≤t.c2∧t.c2≤3000)∧(0≤t.c3∧t.c3≤3000):=by
 intro t ht
 rw[h.tours] at ht
 obtain⟨i,n,hi,hn,rfl⟩:=tours_mem ht
 have hk:=itF_lt (f:=sigF r) sigF_lt hi n
 unfold arcAt
 obtain⟨j,d,x,hd,_,hxN,_,hx⟩:=h.arc_of hf hk
 have hj:=(List.getElem?_eq_some_iff.1 hd).1
 have h1:=hf d (List.mem_of_getElem? hd)
 unfold inE at h1
 rcases hx with hx|hx<;>rw[hx]<;>dsimp only<;>omega
end Go.Proofs.YtammjnjpheobaaaGreat
