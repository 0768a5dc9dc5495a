/-
  Parts of the proof, put together: TourP, Tours16, ForN, EdT, PartsP, Parts17, Ord, TreeP, PartsT. No condition.
-/
import Derived.Test.YtlnehgklibbjiaaGreatD24
set_option linter.unusedVariables false
set_option linter.unusedSimpArgs false
set_option linter.unnecessarySimpa false
set_option maxHeartbeats 4000000
namespace Go.Proofs.YtlnehgklibbjiaaGreat
open Go.SL Go.Tup Go.Gr
def itF (f:Nat→Nat):Nat→Nat→Nat
 |0,x=>x
 |n+1,x=>f (itF f n x)
theorem itF_lt {m:Nat} {f:Nat→Nat} (hf:∀k,k<m→f k<m) {i:Nat} (hi:i<m):∀n,itF f n i<m
 |0=>hi
 |n+1=>hf _ (itF_lt hf hi n)
theorem itF_add (f:Nat→Nat) (b x:Nat):∀a,itF f (a+b) x=itF f a (itF f b x)
 |0=>by rw[Nat.zero_add];rfl
 |a+1=>by rw[Nat.succ_add];show f _=f _;rw[itF_add f b x a]
theorem itF_inj {m:Nat} {f:Nat→Nat} (hf:∀k,k<m→f k<m) (hj:∀a b,a<m→b<m→f a=f b→a=b) {x y:Nat} (hx:x<m) (hy:y<m):∀n,itF f n x=itF f n y→x=y
 |0,h=>h
 |n+1,h=>itF_inj hf hj hx hy n (hj _ _ (itF_lt hf hx n) (itF_lt hf hy n) h)
theorem two_of_not_nodup {g:Nat→Nat}:∀{n:Nat},¬((List.range n).map g).Nodup→∃a b,a<b∧b<n∧g a=g b
 |0,h=>(h (by simp)).elim
 |n+1,h=>by
  rw[List.range_succ,List.map_append,List.nodup_append] at h
  by_cases h1:((List.range n).map g).Nodup
  ·by_cases h2:g n∈(List.range n).map g
   ·obtain⟨a,ha,he⟩:=List.mem_map.1 h2
    exact⟨a,n,List.mem_range.1 ha,Nat.lt_succ_self n,he⟩
   ·refine(h ⟨h1,by simp,?_⟩).elim
    intro x hx y hy e
    simp only[List.map_cons,List.map_nil,List.mem_singleton] at hy
    subst hy;subst e;exact h2 hx
  ·obtain⟨a,b,h1,h2,h3⟩:=two_of_not_nodup h1
   exact⟨a,b,h1,Nat.lt_succ_of_lt h2,h3⟩
theorem comes_round {m:Nat} {f:Nat→Nat} (hf:∀k,k<m→f k<m) (hj:∀a b,a<m→b<m→f a=f b→a=b) {i:Nat} (hi:i<m):∃P,0<P∧P≤m∧itF f P i=i:=by
 have hn:¬((List.range (m+1)).map fun n=>itF f n i).Nodup:=by
  intro h
  have:=h.length_le_of_subset (l₂:=List.range m) (by
   intro x hx
   obtain⟨n,_,rfl⟩:=List.mem_map.1 hx
   exact List.mem_range.2 (itF_lt hf hi n))
  simp at this
  omega
 obtain⟨a,b,h1,h2,h3⟩:=two_of_not_nodup hn
 refine⟨b-a,by omega,by omega,?_⟩
 have h4:b=a+(b-a):=by omega
 rw[h4,itF_add] at h3
 exact(itF_inj hf hj hi (itF_lt hf hi _) a h3).symm
def perF (f:Nat→Nat) (m i:Nat):Nat:=((List.range m).find? fun n=>itF f (n+1) i==i).getD 0+1
theorem perF_spec {m:Nat} {f:Nat→Nat} {i:Nat} (h:∃P,0<P∧P≤m∧itF f P i=i):0<perF f m i∧perF f m i≤m∧itF f (perF f m i) i=i∧∀n,0<n→n<perF f m i→itF f n i≠i:=by
 obtain⟨P,h0,hP,hi⟩:=h
 unfold perF
 cases hf:(List.range m).find? fun n=>itF f (n+1) i==i with
 |none=>
  rw[List.find?_eq_none] at hf
  refine(hf (P-1) (List.mem_range.2 (by omega)) ?_).elim
  rw[show P-1+1=P by omega,hi];simp
 |some q=>
  rw[List.find?_range_eq_some] at hf
  obtain⟨h1,h2,h3⟩:=hf
  rw[List.mem_range] at h2
  refine⟨Nat.succ_pos _,h2,by simpa using h1,?_⟩
  intro n hn hq he
  have:=h3 (n-1) (by simp only[Option.getD_some] at hq;omega)
  rw[show n-1+1=n by omega,he] at this
  simp at this
theorem at5mem {r:List T5} {k:Nat} (h:k<r.length):at5 r k∈r:=List.mem_of_getElem? (at5get h)
theorem mem_at5 {r:List T5} {t:T5} (h:t∈r):∃k,k<r.length∧at5 r k=t:=by
 obtain⟨k,hk,rfl⟩:=List.mem_iff_getElem.1 h
 exact⟨k,hk,Option.some.inj ((at5get hk).symm.trans (List.getElem?_eq_getElem hk))⟩
theorem at5sorted {r:List T5} (hs:Sa r) {i j:Nat} (hij:i<j) (hj:j<r.length):lessB (at5 r j) (at5 r i)=false:=by
 have h1:=at5get (Nat.lt_trans hij hj)
 have h2:=at5get hj
 rw[List.getElem?_eq_some_iff] at h1 h2
 obtain⟨_,h1⟩:=h1
 obtain⟨_,h2⟩:=h2
 rw[←h1,←h2]
 exact List.pairwise_iff_getElem.1 hs i j _ _ hij
theorem at5le {r:List T5} (hs:Sa r) {i j:Nat} (hij:i≤j) (hj:j<r.length):(at5 r i).c1≤(at5 r j).c1:=by
 rcases Nat.eq_or_lt_of_le hij with rfl|h
 ·exact Int.le_refl _
 ·have h1:=at5sorted hs h hj
  have h2:¬(lessB (at5 r j) (at5 r i)=true):=by rw[h1];decide
  rw[lessB_iff] at h2
  omega
theorem headF_same (r:List T5):∀k,(at5 r (headF r k)).c1=(at5 r k).c1
 |0=>rfl
 |k+1=>by
  unfold headF
  split
  next h=>rw[headF_same r k,h]
  next=>rfl
theorem headF_head (r:List T5):∀{k j:Nat},headF r k=j+1→(at5 r j).c1≠(at5 r (j+1)).c1
 |0,j,h=>by unfold headF at h;omega
 |k+1,j,h=>by
  unfold headF at h
  split at h
  next=>exact headF_head r h
  next hne=>
        obtain rfl:k=j:=by omega
        exact hne
theorem behindF_from (r:List T5) (k:Nat):(at5 r (behindF r k)).c1=(at5 r k).c1:=by
 unfold behindF;split
 next h=>exact h.2
 next=>exact headF_same r k
theorem behindF_inj {r:List T5} (hs:Sa r) {a b:Nat} (ha:a<r.length) (hb:b<r.length) (h:behindF r a=behindF r b):a=b:=by
 have hc:(at5 r a).c1=(at5 r b).c1:=by rw[←behindF_from r a,←behindF_from r b,h]
 unfold behindF at h
 split at h
 next h1=>
  split at h
  next h2=>omega
  next h2=>exact absurd h1.2.symm (headF_head r h.symm)
 next h1=>
  split at h
  next h2=>exact absurd h2.2.symm (headF_head r h)
  next h2=>
   rcases Nat.lt_trichotomy a b with h3|h3|h3
   ·have e1:=at5le hs (show a≤a+1 by omega) (show a+1<r.length by omega)
    have e2:=at5le hs (show a+1≤b from h3) hb
    exact absurd ⟨by omega,by omega⟩ h1
   ·exact h3
   ·have e1:=at5le hs (show b≤b+1 by omega) (show b+1<r.length by omega)
    have e2:=at5le hs (show b+1≤a from h3) ha
    exact absurd ⟨by omega,by omega⟩ h2
def brotherF (r:List T5) (k:Nat):Nat:=((List.range r.length).find? fun i=>decide (i≠k∧(at5 r i).c0.tdiv 2=(at5 r k).c0.tdiv 2)).getD k
theorem brotherF_lt {r:List T5} {k:Nat} (h:k<r.length):brotherF r k<r.length:=by
 unfold brotherF
 cases hf:(List.range r.length).find? fun i=>decide (i≠k∧(at5 r i).c0.tdiv 2=(at5 r k).c0.tdiv 2) with
 |none=>exact h
 |some q=>exact List.mem_range.1 (List.mem_of_find?_eq_some hf)
structure Arcs (a f r:List T5):Prop where
 perm:r.Perm (arcsL a f)
 sa:Sa r
 nd:(f.map (·.c0)).Nodup
 pos:∀t∈f,0≤t.c0
def flipF (x:Int):Int:=if x%2=0 then x+1 else x-1
theorem nodup_two:∀{f:List T5},(f.map (·.c0)).Nodup→∀(a:List T5),((arcsL a f).map (·.c0)).Nodup
 |[],_,_=>by simp[arcsL]
 |t::f,h,a=>by
  rw[List.map_cons,List.nodup_cons] at h
  have ih:=nodup_two h.2 a
  have hm:∀x∈arcsL a f,∃e∈f,x.c0=2*e.c0∨x.c0=2*e.c0+1:=by
   intro x hx
   obtain⟨e,he,hx⟩:=List.mem_flatMap.1 hx
   refine⟨e,he,?_⟩
   simp only[arcs2,List.mem_cons,List.not_mem_nil,or_false] at hx
   rcases hx with rfl|rfl
   ·exact .inl rfl
   ·exact .inr rfl
  have hno:∀e∈f,e.c0≠t.c0:=fun e he hq=>h.1 (List.mem_map.2 ⟨e,he,hq⟩)
  unfold arcsL at ih hm⊢
  rw[List.flatMap_cons,List.map_append,List.nodup_append]
  refine⟨by simp[arcs2];omega,ih,?_⟩
  intro x hx y hy e
  subst e
  obtain⟨z,hz,hzx⟩:=List.mem_map.1 hy
  obtain⟨e,he,h1⟩:=hm z hz
  have:=hno e he
  simp only[arcs2,List.map_cons,List.map_nil,List.mem_cons,List.not_mem_nil,or_false] at hx
  omega
namespace Arcs
variable {a f r:List T5}
theorem edge (A:Arcs a f r) {k:Nat} (h:k<r.length):∃e∈f,at5 r k=⟨2*e.c0,e.c1,e.c2,(at5 a e.c1.toNat).c1,0⟩∨at5 r k=⟨2*e.c0+1,e.c2,e.c1,(at5 a e.c1.toNat).c1,0⟩:=by
 obtain⟨e,he,hx⟩:=List.mem_flatMap.1 (A.perm.mem_iff.1 (at5mem h))
 refine⟨e,he,?_⟩
 simpa only[arcs2,List.mem_cons,List.not_mem_nil,or_false] using hx
theorem arc (A:Arcs a f r) {e t:T5} (he:e∈f) (ht:t∈arcs2 a e):∃k,k<r.length∧at5 r k=t:=mem_at5 (A.perm.mem_iff.2 (List.mem_flatMap.2 ⟨e,he,ht⟩))
theorem num (A:Arcs a f r) {i j:Nat} (hi:i<r.length) (hj:j<r.length) (h:(at5 r i).c0=(at5 r j).c0):i=j:=by
 have hn:(r.map (·.c0)).Nodup:=(A.perm.map _).nodup_iff.2 (nodup_two A.nd a)
 have h1:=at5get hi
 have h2:=at5get hj
 rw[List.getElem?_eq_some_iff] at h1 h2
 obtain⟨_,h1⟩:=h1
 obtain⟨_,h2⟩:=h2
 refine(List.getElem_inj (h₀:=by simpa using hi) (h₁:=by simpa using hj) hn).1 ?_
 rw[List.getElem_map,List.getElem_map,h1,h2,h]
theorem bro (A:Arcs a f r) {k:Nat} (h:k<r.length):(at5 r (brotherF r k))=⟨flipF (at5 r k).c0,(at5 r k).c2,(at5 r k).c1,(at5 r k).c3,0⟩:=by
 obtain⟨e,he,hk⟩:=A.edge h
 have he0:=A.pos e he
 have htd:∀x:Int,0≤x→x.tdiv 2=x/2:=fun x hx=>Int.tdiv_eq_ediv_of_nonneg hx
 have hpos:∀{j:Nat},j<r.length→0≤(at5 r j).c0:=by
  intro j hj
  obtain⟨e',he',hj'⟩:=A.edge hj
  have:=A.pos e' he'
  rcases hj' with hj'|hj'<;>rw[hj']<;>dsimp only<;>omega
 obtain⟨j,hj,hjt⟩:∃j,j<r.length∧at5 r j=⟨flipF (at5 r k).c0,(at5 r k).c2,(at5 r k).c1,(at5 r k).c3,0⟩:=by
  rcases hk with hk|hk
  ·obtain⟨j,hj,hjt⟩:=A.arc he (t:=⟨2*e.c0+1,e.c2,e.c1,(at5 a e.c1.toNat).c1,0⟩) (by simp[arcs2])
   refine⟨j,hj,?_⟩
   have:flipF (2*e.c0)=2*e.c0+1:=by unfold flipF;rw[if_pos (by omega)]
   rw[hjt,hk];dsimp only;rw[this]
  ·obtain⟨j,hj,hjt⟩:=A.arc he (t:=⟨2*e.c0,e.c1,e.c2,(at5 a e.c1.toNat).c1,0⟩) (by simp[arcs2])
   refine⟨j,hj,?_⟩
   have:flipF (2*e.c0+1)=2*e.c0:=by unfold flipF;rw[if_neg (by omega)];omega
   rw[hjt,hk];dsimp only;rw[this]
 have hfl:(at5 r j).c0=flipF (at5 r k).c0:=by rw[hjt]
 have hk0:=hpos h
 have hj0:=hpos hj
 have hne:j≠k:=by rintro rfl;unfold flipF at hfl;split at hfl<;>omega
 have hdiv:(at5 r j).c0.tdiv 2=(at5 r k).c0.tdiv 2:=by
  rw[htd _ hk0,htd _ hj0,hfl];unfold flipF;split<;>omega
 have huniq:∀i,i<r.length→i≠k→(at5 r i).c0.tdiv 2=(at5 r k).c0.tdiv 2→i=j:=by
  intro i hi hik hd
  rw[htd _ hk0,htd _ (hpos hi)] at hd
  refine A.num hi hj ?_
  have hn:(at5 r i).c0≠(at5 r k).c0:=fun hq=>hik (A.num hi h hq)
  rw[hfl];unfold flipF;split<;>omega
 have hb:brotherF r k=j:=by
  unfold brotherF
  cases hf:(List.range r.length).find? fun i=>decide (i≠k∧(at5 r i).c0.tdiv 2=(at5 r k).c0.tdiv 2) with
  |none=>
   rw[List.find?_eq_none] at hf
   exact(hf j (List.mem_range.2 hj) (decide_eq_true ⟨hne,hdiv⟩)).elim
  |some q=>
   have h1:=List.find?_some hf
   have h2:=List.mem_range.1 (List.mem_of_find?_eq_some hf)
   have h3:=of_decide_eq_true h1
   exact huniq q h2 h3.1 h3.2
 rw[hb,hjt]
theorem bro_inj (A:Arcs a f r) {x y:Nat} (hx:x<r.length) (hy:y<r.length) (h:brotherF r x=brotherF r y):x=y:=by
 have h1:=A.bro hx
 have h2:=A.bro hy
 rw[h,h2] at h1
 have h3:=congrArg T5.c0 h1
 dsimp only at h3
 refine A.num hx hy ?_
 unfold flipF at h3
 split at h3<;>split at h3<;>omega
end Arcs
def sigF (r:List T5) (k:Nat):Nat:=behindF r (brotherF r k)
theorem sigF_lt {r:List T5} (k:Nat) (h:k<r.length):sigF r k<r.length:=behindF_lt (brotherF_lt h)
theorem Arcs.sig_inj {a f r:List T5} (A:Arcs a f r) (x y:Nat) (hx:x<r.length) (hy:y<r.length) (h:sigF r x=sigF r y):x=y:=A.bro_inj hx hy (behindF_inj A.sa (brotherF_lt hx) (brotherF_lt hy) h)
theorem Arcs.sig_from {a f r:List T5} (A:Arcs a f r) {k:Nat} (h:k<r.length):(at5 r (sigF r k)).c1=(at5 r k).c2:=by
 unfold sigF;rw[behindF_from,A.bro h]
def perA (r:List T5) (i:Nat):Nat:=perF (sigF r) r.length i
def arcAt (r:List T5) (i n:Nat):T5:={at5 r (itF (sigF r) n i) with c4:=(n:Int)}
def tourL (r:List T5) (i:Nat):List T5:=(List.range (perA r i)).map (arcAt r i)
def rootB (r:List T5) (i:Nat):Bool:=decide ((at5 r i).c1=(at5 r i).c3∧(0<i→(at5 r (i-1)).c1≠(at5 r i).c1))
def toursTo (r:List T5) (n:Nat):List T5:=(List.range n).flatMap fun i=>if rootB r i then tourL r i else[]
def toursF (r:List T5):List T5:=toursTo r r.length
theorem toursTo_succ (r:List T5) (n:Nat):toursTo r (n+1)=toursTo r n++if rootB r n then tourL r n else[]:=by
 unfold toursTo;rw[List.range_succ,List.flatMap_append];simp
theorem Arcs.per {a f r:List T5} (A:Arcs a f r) {i:Nat} (h:i<r.length):0<perA r i∧perA r i≤r.length∧itF (sigF r) (perA r i) i=i∧∀n,0<n→n<perA r i→itF (sigF r) n i≠i:=perF_spec (comes_round sigF_lt A.sig_inj h)
theorem tourL_len (r:List T5) (i:Nat):(tourL r i).length=perA r i:=by unfold tourL;simp
theorem Arcs.to_len {a f r:List T5} (A:Arcs a f r):∀{n:Nat},n≤r.length→(toursTo r n).length≤n*r.length
 |0,_=>by simp[toursTo]
 |n+1,h=>by
  have ih:=A.to_len (n:=n) (by omega)
  have hp:=(A.per (i:=n) (by omega)).2.1
  rw[toursTo_succ,List.length_append,Nat.succ_mul]
  split
  ·rw[tourL_len];omega
  ·simp only[List.length_nil];omega
def idxTo (r:List T5) (n:Nat):List Nat:=(List.range n).flatMap fun i=>if rootB r i then(List.range (perA r i)).map fun k=>itF (sigF r) k i else[]
theorem idxTo_succ (r:List T5) (n:Nat):idxTo r (n+1)=idxTo r n++if rootB r n then(List.range (perA r n)).map (fun k=>itF (sigF r) k n) else[]:=by
 unfold idxTo;rw[List.range_succ,List.flatMap_append];simp
theorem idxTo_len (r:List T5):∀n,(idxTo r n).length=(toursTo r n).length
 |0=>rfl
 |n+1=>by
  rw[idxTo_succ,toursTo_succ,List.length_append,List.length_append,idxTo_len r n]
  split
  ·rw[tourL_len];simp
  ·rfl
theorem idxTo_mem {r:List T5} {n x:Nat} (h:x∈idxTo r n):∃i,i<n∧rootB r i=true∧∃k,k<perA r i∧x=itF (sigF r) k i:=by
 obtain⟨i,hi,hx⟩:=List.mem_flatMap.1 h
 split at hx
 next hr=>
  obtain⟨k,hk,rfl⟩:=List.mem_map.1 hx
  exact⟨i,List.mem_range.1 hi,hr,k,List.mem_range.1 hk,rfl⟩
 next=>simp at hx
namespace Arcs
variable {a f r:List T5}
theorem lab (A:Arcs a f r) (hl:∀e∈f,(at5 a e.c1.toNat).c1=(at5 a e.c2.toNat).c1) {k:Nat} (h:k<r.length):(at5 r k).c3=(at5 a (at5 r k).c1.toNat).c1:=by
 obtain⟨e,he,hk|hk⟩:=A.edge h
 ·rw[hk]
 ·rw[hk];exact hl e he
theorem sig_lab (A:Arcs a f r) (hl:∀e∈f,(at5 a e.c1.toNat).c1=(at5 a e.c2.toNat).c1) {k:Nat} (h:k<r.length):(at5 r (sigF r k)).c3=(at5 r k).c3:=by
 have h1:=A.lab hl (sigF_lt k h)
 have h2:=A.lab hl (brotherF_lt h)
 rw[A.bro h] at h2
 dsimp only at h2
 rw[h1,A.sig_from h,h2]
theorem it_lab (A:Arcs a f r) (hl:∀e∈f,(at5 a e.c1.toNat).c1=(at5 a e.c2.toNat).c1) {i:Nat} (h:i<r.length):∀k,(at5 r (itF (sigF r) k i)).c3=(at5 r i).c3
 |0=>rfl
 |k+1=>by
  show(at5 r (sigF r (itF (sigF r) k i))).c3=_
  rw[A.sig_lab hl (itF_lt sigF_lt h k),A.it_lab hl h k]
theorem root_uniq (A:Arcs a f r) {i j:Nat} (hij:i<j) (hj:j<r.length) (hri:rootB r i=true) (hrj:rootB r j=true):(at5 r i).c3≠(at5 r j).c3:=by
 intro h
 unfold rootB at hri hrj
 obtain⟨i1,_⟩:=of_decide_eq_true hri
 obtain⟨j1,j2⟩:=of_decide_eq_true hrj
 have e1:=at5le A.sa (show i≤j-1 by omega) (by omega)
 have e2:=at5le A.sa (show j-1≤j by omega) hj
 exact j2 (by omega) (by omega)
theorem idx_nodup (A:Arcs a f r) (hl:∀e∈f,(at5 a e.c1.toNat).c1=(at5 a e.c2.toNat).c1):∀{n:Nat},n≤r.length→(idxTo r n).Nodup
 |0,_=>by simp[idxTo]
 |n+1,h=>by
  rw[idxTo_succ,List.nodup_append]
  obtain⟨P0,P1,P2,P3⟩:=A.per (i:=n) (by omega)
  refine⟨A.idx_nodup hl (by omega),?_,?_⟩
  ·split
   ·by_cases hn:((List.range (perA r n)).map fun k=>itF (sigF r) k n).Nodup
    ·exact hn
    ·obtain⟨x,y,h1,h2,h3⟩:=two_of_not_nodup hn
     rw[show y=x+(y-x) by omega,itF_add] at h3
     have:=itF_inj (f:=sigF r) sigF_lt A.sig_inj (show n<r.length by omega) (itF_lt sigF_lt (by omega) _) x h3
     exact(P3 (y-x) (by omega) (by omega) this.symm).elim
   ·simp
  ·intro x hx y hy hxy
   subst hxy
   split at hy
   next hr=>
    obtain⟨k,_,hk⟩:=List.mem_map.1 hy
    obtain⟨i,hi,hri,k2,_,hk2⟩:=idxTo_mem hx
    refine A.root_uniq hi (by omega) hri hr ?_
    rw[←A.it_lab hl (show i<r.length by omega) k2,←hk2,←hk,A.it_lab hl (by omega) k]
   next=>simp at hy
theorem tours_len (A:Arcs a f r) (hl:∀e∈f,(at5 a e.c1.toNat).c1=(at5 a e.c2.toNat).c1):(toursF r).length≤r.length:=by
 unfold toursF
 rw[←idxTo_len]
 have:=(A.idx_nodup hl (Nat.le_refl _)).length_le_of_subset (l₂:=List.range r.length) (by
  intro x hx
  obtain⟨i,hi,_,k,_,rfl⟩:=idxTo_mem hx
  exact List.mem_range.2 (itF_lt sigF_lt hi k))
 simpa using this
end Arcs
theorem brotherF_eq {r:List T5} {k i:Nat} (hi:i<r.length) (hno:∀j,j<i→¬(j≠k∧(at5 r j).c0.tdiv 2=(at5 r k).c0.tdiv 2)) (h:i≠k∧(at5 r i).c0.tdiv 2=(at5 r k).c0.tdiv 2):brotherF r k=i:=by
 unfold brotherF
 have:(List.range r.length).find? (fun i=>decide (i≠k∧(at5 r i).c0.tdiv 2=(at5 r k).c0.tdiv 2))=some i:=by
  rw[List.find?_range_eq_some]
  refine⟨decide_eq_true h,List.mem_range.2 hi,fun j hj=> ?_⟩
  have h2:=hno j hj
  rw[Bool.not_eq_true']
  exact decide_eq_false h2
 rw[this];rfl
theorem brotherF_no {r:List T5} {k:Nat} (hno:∀j,j<r.length→¬(j≠k∧(at5 r j).c0.tdiv 2=(at5 r k).c0.tdiv 2)):brotherF r k=k:=by
 unfold brotherF
 have:(List.range r.length).find? (fun i=>decide (i≠k∧(at5 r i).c0.tdiv 2=(at5 r k).c0.tdiv 2))=none:=by
  rw[List.find?_eq_none]
  intro j hj hd
  exact hno j (List.mem_range.1 hj) (of_decide_eq_true hd)
 rw[this];rfl
theorem brother16ct (p:Option Addr) (m cap:Nat) (r:List T5) (c:Chunk) (hv:RV p m r c) (hm:m≤1000000) (hc:∀t∈r,0≤t.c0∧t.c0≤4398046511104) (k:Nat) (hk:k<m):
  CtQ Tryz.prog 101 [.slice p m cap,.int .i64 (k:Int)] [c] (.int .i64 (brotherF r k:Int)):=by
 have hl:=hv.1
 obtain⟨b,off,cs,T,fz,rfl,rfl,_,hget⟩:=(RV.rw hv).pos tcells_len (by omega)
 have hg:∀j,j<m→cs[off+j*5]? =some (.int .i64 (at5 r j).c0):=fun j hj=>by have:=hget j 0 _ _ (at5get (by omega)) rfl;rwa[Nat.add_zero] at this
 have hd:∀j,j<m→IntKind.wrap .i64 ((at5 r j).c0.tdiv 2)=(at5 r j).c0.tdiv 2:=fun j hj=>by
  have:=hc _ (at5mem (r:=r) (k:=j) (by omega))
  have e:=Int.tdiv_eq_ediv_of_nonneg (b:=2) this.1
  rw[e];exact wrap_i64 (by omega)
 have q0:=hg k hk
 have d0:=hd k hk
 refine Ct.intro Tryz.func101 rfl Tryz.ntmps101 (nle rfl) fun w0=> ?_;dsimp only[argSlots,Nat.reduceAdd]
 repeat(first|(refine st ?_;intros)|refine G.draw [] (h:= ?_))
 refine G.loop (X:=Nat) (fun i=>i≤m∧∀j,j<i→¬(j≠k∧(at5 r j).c0.tdiv 2=(at5 r k).c0.tdiv 2)) (fun i=>[(5,.int .i64 (i:Int)),(1,.int .i64 (k:Int)),(0,.slice (some ⟨b,off,none⟩) m cap)])
  (fun _=>[[(b,rowf cs T fz)]]) (fun i=>m-i) 0 ⟨Nat.zero_le _,fun j hj=>absurd hj (Nat.not_lt_zero j)⟩ (body:= ?_)
 rintro i ⟨hi,hno⟩
 by_cases hlt:i<m
 ·have q1:=hg i hlt
  have d1:=hd i hlt
  by_cases hik:i=k
  ·subst hik
   repeat(first|(refine st ?_;intros)|refine G.draw [] (h:= ?_))
   refine Dn.round (i+1) ⟨hlt,fun j hj h=> ?_⟩ (by omega)
   by_cases hji:j=i
   ·exact h.1 hji
   ·exact hno j (by omega) h
  ·by_cases hq:(at5 r i).c0.tdiv 2=(at5 r k).c0.tdiv 2
   ·have hb:=brotherF_eq (by omega) hno ⟨hik,hq⟩
    repeat(first|(refine st ?_;intros)|refine G.draw [] (h:= ?_))
    (refine Dn.post (Hr:=[[(b,rowf cs T fz)]]) Tryz.results101 (hR:= ?_);exact⟨congrArg (Value.int .i64) (by omega),rfl⟩)
   ·repeat(first|(refine st ?_;intros)|refine G.draw [] (h:= ?_))
    refine Dn.round (i+1) ⟨hlt,fun j hj h=> ?_⟩ (by omega)
    by_cases hji:j=i
    ·subst hji;exact hq h.2
    ·exact hno j (by omega) h
 ·obtain rfl:i=m:=by omega
  have hb:=brotherF_no (r:=r) (k:=k) (fun j hj=>hno j (by omega))
  repeat(first|(refine st ?_;intros)|refine G.draw [] (h:= ?_))
  (refine Dn.post (Hr:=[[(b,rowf cs T fz)]]) Tryz.results101 (hR:= ?_);exact⟨congrArg (Value.int .i64) (by omega),rfl⟩)
structure ToX where
 i:Nat
 n:Nat
 p:Option Addr
 cap:Nat
 ch:Chunk
structure TuX where
 k:Nat
 n:Nat
 p:Option Addr
 cap:Nat
 ch:Chunk
theorem Arcs.c0le {a f r:List T5} (A:Arcs a f r) {M:Int} (hf:∀t∈f,t.c0≤M):∀t∈r,0≤t.c0∧t.c0≤2*M+1:=by
 intro t ht
 obtain⟨k,hk,rfl⟩:=mem_at5 ht
 obtain⟨e,he,h⟩:=A.edge hk
 have h1:=hf e he
 have h2:=A.pos e he
 rcases h with h|h<;>rw[h]<;>dsimp only<;>omega
theorem Tours16ct (pa:Option Addr) (na ka:Nat) (a:List T5) (ca:Chunk) (hva:RV pa na a ca) (pf:Option Addr) (nf kf:Nat) (f:List T5) (cf:Chunk) (hvf:RV pf nf f cf) (hn:nf≤1000) (hna:na≤1000000)
  (hf:∀t∈f,0≤t.c0∧t.c0≤1099511627776∧0≤t.c1∧t.c1<na) (hnd:(f.map (·.c0)).Nodup):
  Ct Tryz.prog 65 [.slice pa na ka,.slice pf nf kf] [ca,cf] fun v H'=>∃p n cap c r,v= .slice p n cap∧H'=[ca,cf,c]∧n=(toursF r).length∧Vec 47 5 p n cap (flat (toursF r)) c∧Arcs a f r∧r.length=2*nf:=by
 have htv:∀t:T5,tv t= .agg #[.int .i64 t.c0,.int .i64 t.c1,.int .i64 t.c2,.int .i64 t.c3,.int .i64 t.c4]:=fun _=>rfl
 have hA:=Arcs16ct pa na ka a ca hva pf nf kf f cf hvf (by omega) hna hf
 refine Ct.intro Tryz.func65 rfl Tryz.ntmps65 (nle rfl) fun w0=> ?_;dsimp only[argSlots,Nat.reduceAdd]
 repeat(first|(refine st ?_;intros)|refine G.draw [] (h:= ?_)|(refine cq hBr ?_)|(refine cq hBe ?_))
 refine R.call (hct:=hA) (h:= ?_)
 rintro _ _ ⟨q,qcap,qc,r,rfl,rfl,hQ,hp,hs⟩
 try dsimp only[List.cons_append,List.nil_append]
 have A:Arcs a f r:=⟨hp,hs,hnd,fun t ht=>(hf t ht).1⟩
 have hrv:RV q (2*nf) r qc:=RV.vec hQ
 have hrl:r.length=2*nf:=hrv.1
 have hc0:=A.c0le (M:=1099511627776) (fun t ht=>(hf t ht).2.1)
 clear hQ
 repeat(first|(refine st ?_;intros)|refine G.draw [] (h:= ?_)|(refine cq hBr ?_)|(refine cq hBe ?_))
 refine G.loop (X:=ToX) (fun x=>x.i≤2*nf∧x.n=(toursTo r x.i).length∧Vec 47 5 x.p x.n x.cap (flat (toursTo r x.i)) x.ch)
  (fun x=>[(7,.int .i64 (x.i:Int)),(6,.slice x.p x.n x.cap),(5,.slice q (2*nf) qcap)])
  (fun x=>[ca,cf,qc,x.ch]) (fun x=>2*nf-x.i) ⟨0,0,none,0,[]⟩ ⟨Nat.zero_le _,rfl,Vec.nil _ _⟩ (by repeat(first|exact trivial|refine⟨rfl,?_⟩)) (by repeat(first|exact Split.nil|(apply Split.cons;·(first|exact Take.nil|(repeat(first|exact Take.here|apply Take.there)))))) ?_
 rintro⟨i,n,p,cap,ch⟩ ⟨hi,hni,hV⟩
 dsimp only at hi hni hV⊢
 by_cases hlt:i<2*nf
 rotate_left
 ·obtain rfl:i=2*nf:=by omega
  have hall:toursTo r (2*nf)=toursF r:=by unfold toursF;rw[hrl]
  rw[hall] at hV hni
  repeat(first|(refine st ?_;intros)|refine G.draw [] (h:= ?_)|(refine cq hBr ?_)|(refine cq hBe ?_))
  (refine Dn.post (Hr:=[ca,cf,ch]) Tryz.results65 (hR:= ?_);exact⟨p,n,cap,ch,r,rfl,rfl,hni,hV,A,hrl⟩)
 obtain⟨b,off,cs,T,fz,rfl,rfl,hcut,hget⟩:=(RV.rw hrv).pos tcells_len (by omega)
 have hg:∀j k v,j<2*nf→(tcells (at5 r j))[k]? =some v→cs[off+j*5+k]? =some v:=fun j k v hj hv=>hget j k _ _ (at5get (by omega)) hv
 have q1:=hg i 1 _ hlt rfl
 have q3:=hg i 3 _ hlt rfl
 have hto:=toursTo_succ r i
 have hlenT:=A.to_len (n:=i) (by omega)
 have hnb:n≤4000000:=by
  have h1:i*r.length≤2000*2000:=Nat.mul_le_mul (by omega) (by omega)
  omega
 by_cases hroot:rootB r i=true
 ·rw[if_pos hroot] at hto
  have hr:=hroot
  unfold rootB at hr
  obtain⟨hr1,hr2⟩:=of_decide_eq_true hr
  have hq:i=0∨(0<i∧cs[off+(i-1)*5+1]? =some (.int .i64 (at5 r (i-1)).c1)∧(at5 r (i-1)).c1≠(at5 r i).c1):=by
   rcases Nat.eq_zero_or_pos i with hz|hz
   ·exact .inl hz
   ·exact .inr ⟨hz,hg (i-1) 1 _ (by omega) rfl,hr2 hz⟩
  obtain⟨P0,P1,P2,P3⟩:=A.per (i:=i) (by omega)
  have hPd:perA r i=(tourL r i).length:=(tourL_len r i).symm
  have hBr:∀k,k<2*nf→CtQ Tryz.prog 101 [.slice (some ⟨b,off,none⟩) (2*nf) qcap,.int .i64 (k:Int)] [[(b,rowf cs T fz)]] (.int .i64 (brotherF r k:Int)):=fun k hk=>brother16ct _ _ _ r _ hrv (by omega) (fun t ht=>by have:=hc0 t ht;omega) k hk
  have hBe:∀k,k<2*nf→CtQ Tryz.prog 100 [.slice (some ⟨b,off,none⟩) (2*nf) qcap,.int .i64 (k:Int)] [[(b,rowf cs T fz)]] (.int .i64 (behindF r k:Int)):=fun k hk=>behind16ct _ _ _ r _ hrv (by omega) k hk
  have hbl:∀k,k<2*nf→brotherF r k<2*nf:=fun k hk=>by have:=brotherF_lt (r:=r) (k:=k) (by omega);omega
  have hsl:∀k,itF (sigF r) k i<2*nf:=fun k=>by have:=itF_lt (f:=sigF r) (m:=r.length) sigF_lt (i:=i) (by omega) k;omega
  have ei:((i:Int)-1).toNat=i-1:=by omega
  obtain hz|⟨hz,q1',hr3⟩:=hq
  all_goals
   repeat(first|(refine st ?_;intros)|refine G.draw [] (h:= ?_)|(refine cq hBr ?_)|(refine cq hBe ?_))
   refine G.loop (X:=TuX) (fun x=>x.k≤perA r i∧x.n=n+x.k∧Vec 47 5 x.p x.n x.cap (flat (toursTo r i++(List.range x.k).map (arcAt r i))) x.ch)
    (fun x=>[(9,.int .i64 (x.k:Int)),(8,.int .i64 (itF (sigF r) x.k i:Int)),(7,.int .i64 (i:Int)),(6,.slice x.p x.n x.cap),(5,.slice (some ⟨b,off,none⟩) (2*nf) qcap)])
    (fun x=>[ca,cf,[(b,rowf cs T fz)],x.ch]) (fun x=>perA r i-x.k) ⟨0,n,p,cap,ch⟩ ⟨Nat.zero_le _,rfl,by simpa using hV⟩ (body:= ?_)
   rintro⟨k,m,p2,cap2,ch2⟩ ⟨hk,hm,hV2⟩
   dsimp only at hk hm hV2⊢
   by_cases hkP:k<perA r i
   ·have hq2:k=0∨(0<k∧itF (sigF r) k i≠i):=by
     rcases Nat.eq_zero_or_pos k with h|h
     ·exact .inl h
     ·exact .inr ⟨h,P3 k h hkP⟩
    have hs1:=hsl k
    have hs2:=hbl _ hs1
    have c5:(cs.drop (off+itF (sigF r) k i*5)).take 5=[.int .i64 (at5 r (itF (sigF r) k i)).c0,.int .i64 (at5 r (itF (sigF r) k i)).c1,.int .i64 (at5 r (itF (sigF r) k i)).c2,.int .i64 (at5 r (itF (sigF r) k i)).c3,.int .i64 (at5 r (itF (sigF r) k i)).c4]:=hcut _ _ (at5get (by omega))
    have hmx:m+1≤maxLen:=by simp only[maxLen];omega
    have hsn:flat (toursTo r i++(List.range (k+1)).map (arcAt r i))=flat (toursTo r i++(List.range k).map (arcAt r i))++[.int .i64 (at5 r (itF (sigF r) k i)).c0,.int .i64 (at5 r (itF (sigF r) k i)).c1,.int .i64 (at5 r (itF (sigF r) k i)).c2,.int .i64 (at5 r (itF (sigF r) k i)).c3,.int .i64 (k:Int)]:=by
     rw[List.range_succ,List.map_append,←List.append_assoc,flat_append];rfl
    obtain hk0|⟨hk0,hne⟩:=hq2
    all_goals
     repeat(first|(refine st ?_;intros)|refine G.draw [] (h:= ?_)|(refine cq hBr ?_)|(refine cq hBe ?_))
     rename_i p' cap' c' hV'
     have hV3:Vec 47 5 p' (m+1) cap' (flat (toursTo r i++(List.range (k+1)).map (arcAt r i))) c':=by rw[hsn];exact hV'
     refine Dn.round ⟨k+1,m+1,p',cap',c'⟩ ⟨hkP,by dsimp only;omega,hV3⟩ (by dsimp only;omega)
   ·obtain rfl:k=perA r i:=by omega
    have hk0:perA r i≠0:=by omega
    subst hm
    repeat(first|(refine st ?_;intros)|refine G.draw [] (h:= ?_)|(refine cq hBr ?_)|(refine cq hBe ?_))
    refine Dn.round ⟨i+1,n+perA r i,p2,cap2,ch2⟩ ⟨hlt,by dsimp only;rw[hto,List.length_append,←hPd,←hni],?_⟩ (by dsimp only;omega)
    dsimp only
    rw[hto]
    exact hV2
 ·rw[if_neg hroot,List.append_nil] at hto
  have hr:¬((at5 r i).c1=(at5 r i).c3∧(0<i→(at5 r (i-1)).c1≠(at5 r i).c1)):=fun h=>hroot (by unfold rootB;exact decide_eq_true h)
  have hq:(at5 r i).c1≠(at5 r i).c3∨((at5 r i).c1=(at5 r i).c3∧0<i∧cs[off+(i-1)*5+1]? =some (.int .i64 (at5 r (i-1)).c1)∧(at5 r (i-1)).c1=(at5 r i).c1):=by
   by_cases h1:(at5 r i).c1=(at5 r i).c3
   ·refine .inr ⟨h1,?_⟩
    rcases Nat.eq_zero_or_pos i with hz|hz
    ·exact(hr ⟨h1,fun h=>by omega⟩).elim
    ·refine⟨hz,hg (i-1) 1 _ (by omega) rfl,?_⟩
     by_cases h2:(at5 r (i-1)).c1=(at5 r i).c1
     ·exact h2
     ·exact(hr ⟨h1,fun _=>h2⟩).elim
   ·exact .inl h1
  have ei:((i:Int)-1).toNat=i-1:=by omega
  obtain hz|⟨h0,hz,q1',hr3⟩:=hq
  all_goals
   repeat(first|(refine st ?_;intros)|refine G.draw [] (h:= ?_)|(refine cq hBr ?_)|(refine cq hBe ?_))
   refine Dn.round ⟨i+1,n,p,cap,ch⟩ ⟨hlt,by dsimp only;rw[hto,hni],by dsimp only;rw[hto];exact hV⟩ (by dsimp only;omega)
end Go.Proofs.YtlnehgklibbjiaaGreat
namespace Go.Gr
variable {g:Nat→Ed} {S S':Nat→Prop}
def Mn (g:Nat→Ed) (S:Nat→Prop) (v:Nat):Prop:=∀u,u<v→¬Cn g S u v
theorem least_of {p:Nat→Prop}:∀{n:Nat},p n→∃m,m≤n∧p m∧∀k,k<m→¬p k:=by
 intro n
 induction n using Nat.strongRecOn with
 |ind n ih=>
  intro h
  by_cases hx:∃k,k<n∧p k
  ·obtain⟨k,hk,hpk⟩:=hx
   obtain⟨m,hm,h1,h2⟩:=ih k hk hpk
   exact⟨m,by omega,h1,h2⟩
  ·exact⟨n,Nat.le_refl _,h,fun k hk hp=>hx ⟨k,hk,hp⟩⟩
theorem Mn.of (g:Nat→Ed) (S:Nat→Prop) (x:Nat):∃m,m≤x∧Cn g S m x∧Mn g S m:=by
 obtain⟨m,h1,h2,h3⟩:=least_of (p:=fun u=>Cn g S u x) (n:=x) (.refl x)
 exact⟨m,h1,h2,fun u hu hc=>h3 u hu (hc.trans h2)⟩
theorem Mn.uniq {a b:Nat} (ha:Mn g S a) (hb:Mn g S b) (h:Cn g S a b):a=b:=by
 rcases Nat.lt_trichotomy a b with h1|h1|h1
 ·exact(hb a h1 h).elim
 ·exact h1
 ·exact(ha b h1 h.symm).elim
theorem Mn.le {a b:Nat} (ha:Mn g S a) (h:Cn g S a b):a≤b:=by
 rcases Nat.lt_or_ge b a with h1|h1
 ·exact(ha b h1 h.symm).elim
 ·exact h1
theorem count_less {p q:Nat→Bool} {c:Nat}:∀{n:Nat},(∀v,v<n→(q v=true↔p v=true∧v≠c))→p c=true→c<n→((List.range n).filter q).length+1=((List.range n).filter p).length:=by
 have same:∀{n:Nat},(∀v,v<n→(q v=true↔p v=true∧v≠c))→n≤c→((List.range n).filter q).length=((List.range n).filter p).length:=by
  intro n h hn
  congr 1
  refine List.filter_congr fun v hv=> ?_
  have h1:=List.mem_range.1 hv
  have h2:=h v h1
  rw[Bool.eq_iff_iff,h2]
  exact⟨fun h=>h.1,fun h=>⟨h,by omega⟩⟩
 intro n
 induction n with
 |zero=>intro _ _ h;omega
 |succ n ih=>
  intro h hc hn
  rw[List.range_succ,List.filter_append,List.filter_append,List.length_append,List.length_append]
  by_cases hcn:c=n
  ·subst hcn
   have h1:=same (n:=c) (fun v hv=>h v (by omega)) (Nat.le_refl _)
   have h2:q c=false:=by
    cases hq:q c with
    |false=>rfl
    |true=>exact((h c (by omega)).1 hq).2.elim rfl
   simp[h1,h2,hc]
  ·have h1:=ih (fun v hv=>h v (by omega)) hc (by omega)
   have h2:q n=p n:=by
    rw[Bool.eq_iff_iff,h n (by omega)]
    exact⟨fun h=>h.1,fun h=>⟨h,fun e=>hcn e.symm⟩⟩
   have h3:(List.filter q [n]).length=(List.filter p [n]).length:=by simp[List.filter_cons,h2]
   omega
theorem forest_count {n:Nat} (mb:Nat→Nat→Bool) (kb:Nat→Bool) (hm:∀k v,mb k v=true↔Mn g (fun j=>j<k) v) (hk:∀i,kb i=true↔¬Cn g (fun j=>j<i) (g i).1 (g i).2):
  ∀m,(∀j,j<m→(g j).1<n∧(g j).2<n)→((List.range n).filter (mb m)).length+((List.range m).filter kb).length=n
 |0,_=>by
  have:(List.range n).filter (mb 0)=List.range n:=by
   rw[List.filter_eq_self]
   intro v _
   rw[hm]
   intro u hu hc
   have:u=v:=hc.stay (X:=fun y=>u=y) rfl (fun j hj=>absurd hj (Nat.not_lt_zero j))
   omega
  rw[this];simp
 |m+1,hg=>by
  have ih:=forest_count mb kb hm hk m (fun j hj=>hg j (by omega))
  rw[List.range_succ,List.filter_append,List.length_append]
  have hmono:∀{a b},Cn g (fun j=>j<m) a b→Cn g (fun j=>j<m+1) a b:=fun h=>h.mono fun i hi=>Nat.lt_succ_of_lt hi
  have hadd:∀{a b},Cn g (fun j=>j<m+1) a b→Cn g (fun j=>j<m∨j=m) a b:=fun h=>h.mono fun i hi=>by
   rcases Nat.lt_or_ge i m with h|h
   ·exact .inl h
   ·exact .inr (by omega)
  by_cases hc:Cn g (fun j=>j<m) (g m).1 (g m).2
  ·have hkm:kb m=false:=by
    cases h:kb m with
    |false=>rfl
    |true=>exact((hk m).1 h hc).elim
   have hsame:(List.range n).filter (mb (m+1))=(List.range n).filter (mb m):=by
    refine List.filter_congr fun v _=> ?_
    rw[Bool.eq_iff_iff,hm,hm]
    refine⟨fun h u hu hx=>h u hu (hmono hx),fun h u hu hx=> ?_⟩
    refine h u hu ((hadd hx).sub fun i hi=> ?_)
    rcases hi with hi|rfl
    ·exact Cn.edge hi
    ·exact hc
   rw[hsame];simp[hkm];omega
  ·have hkm:kb m=true:=(hk m).2 hc
   obtain⟨a,a1,a2,a3⟩:=Mn.of g (fun j=>j<m) (g m).1
   obtain⟨b,b1,b2,b3⟩:=Mn.of g (fun j=>j<m) (g m).2
   have hab:a≠b:=by rintro rfl;exact hc (a2.symm.trans b2)
   have hgm:=hg m (by omega)
   have hedge:Cn g (fun j=>j<m+1) a b:=((hmono a2).trans (Cn.edge (Nat.lt_succ_self m))).trans (hmono b2).symm
   have hiff:∀v,Mn g (fun j=>j<m+1) v↔Mn g (fun j=>j<m) v∧v≠max a b:=by
    intro v
    constructor
    ·intro h
     refine⟨fun u hu hx=>h u hu (hmono hx),?_⟩
     rintro rfl
     rcases Nat.lt_or_ge a b with h1|h1
     ·refine h a (by omega) ?_
      rw[Nat.max_eq_right (by omega)];exact hedge
     ·refine h b (by omega) ?_
      rw[Nat.max_eq_left (by omega)];exact hedge.symm
    ·rintro⟨h,hne⟩ u hu hx
     rcases(hadd hx).add with h1|⟨h1,h2⟩|⟨h1,h2⟩
     ·exact h u hu h1
     ·have e1:=Mn.uniq b3 h (b2.trans h2)
      have e2:=Mn.le a3 (a2.trans h1.symm)
      refine hne ?_
      subst e1
      omega
     ·have e1:=Mn.uniq a3 h (a2.trans h2)
      have e2:=Mn.le b3 (b2.trans h1.symm)
      refine hne ?_
      subst e1
      omega
   have h1:=count_less (p:=mb m) (q:=mb (m+1)) (c:=max a b) (n:=n) (fun v _=>by rw[hm,hm,hiff]) (by
    rw[hm]
    rcases Nat.lt_or_ge a b with h|h
    ·rw[Nat.max_eq_right (by omega)];exact b3
    ·rw[Nat.max_eq_left (by omega)];exact a3) (by omega)
   simp[hkm]
   omega
end Go.Gr
namespace Go.Proofs.YtlnehgklibbjiaaGreat
open Go.SL Go.Tup
def edT (es:List IE):List T5:=(List.range es.length).map fun (i:Nat)=>⟨(i:Int),(es.getD i (0,0)).1,(es.getD i (0,0)).2,0,0⟩
theorem edT_len (es:List IE):(edT es).length=es.length:=by unfold edT;simp
theorem edT_get {es:List IE} {i:Nat} {e:IE} (h:es[i]? =some e):(edT es)[i]? =some ⟨(i:Int),e.1,e.2,0,0⟩:=by
 have hi:=(List.getElem?_eq_some_iff.1 h).1
 unfold edT
 rw[List.getElem?_map,List.getElem?_range hi]
 simp only[Option.map_some,List.getD_eq_getElem?_getD,h,Option.getD_some]
theorem edT_take {es:List IE} {i:Nat} {e:IE} (h:es[i]? =some e):(edT es).take (i+1)=(edT es).take i++[⟨(i:Int),e.1,e.2,0,0⟩]:=by
 rw[List.take_add_one,edT_get h];rfl
theorem edT_mem {es:List IE} {t:T5} (h:t∈edT es):∃(i:Nat) (e:IE),es[i]? =some e∧t=⟨(i:Int),e.1,e.2,0,0⟩:=by
 obtain⟨i,hi⟩:=List.mem_iff_getElem?.1 h
 have hl:=(List.getElem?_eq_some_iff.1 hi).1
 rw[edT_len] at hl
 have he:es[i]? =some es[i]:=List.getElem?_eq_getElem hl
 rw[edT_get he] at hi
 exact⟨i,es[i],he,(Option.some.inj hi).symm⟩
theorem edT_lt (es:List IE):(edT es).Pairwise fun a b=>a.c0<b.c0:=by
 unfold edT
 rw[List.pairwise_map]
 exact(List.pairwise_lt_range).imp fun h=>by dsimp only;omega
end Go.Proofs.YtlnehgklibbjiaaGreat
namespace Go.Proofs.YtlnehgklibbjiaaGreat
open Go.SL Go.Tup Go.Gr
theorem forT_mem {sl:List T5} {fl:List Bool} {e:T5} (h:e∈forT sl fl):∃t∈sl,e=⟨t.c0,t.c1,t.c2,0,0⟩:=by
 unfold forT at h
 obtain⟨⟨t,b⟩,hx,he⟩:=List.mem_filterMap.1 h
 refine⟨t,(List.of_mem_zip hx).1,?_⟩
 dsimp only at he
 split at he
 ·exact(Option.some.inj he).symm
 ·simp at he
theorem forT_sub:∀(sl:List T5) (fl:List Bool),((forT sl fl).map (·.c0)).Sublist (sl.map (·.c0))
 |[],_=>by simp[forT]
 |t::sl,[]=>by simp[forT]
 |t::sl,b::fl=>by
  have ih:=forT_sub sl fl
  unfold forT at ih⊢
  cases b
  ·rw[List.zip_cons_cons,List.filterMap_cons]
   exact ih.cons _
  ·rw[List.zip_cons_cons,List.filterMap_cons]
   exact ih.cons_cons _
theorem forT_len (sl:List T5) (fl:List Bool):(forT sl fl).length≤sl.length:=by
 have:=(forT_sub sl fl).length_le
 simpa using this
theorem edT_ok {N:Nat} {es:List IE} (hf:∀e∈es,inE N e):edgesOk N (edT es):=by
 refine⟨fun t ht=> ?_,(edT_lt es).imp fun h=>by omega⟩
 obtain⟨i,e,he,rfl⟩:=edT_mem ht
 have:=hf e (List.mem_of_getElem? he)
 unfold inE at this
 unfold edgeOk
 dsimp only
 omega
theorem edT_sorted {es:List IE} {sl:List T5} (hp:sl.Perm (edT es)) (hs:Sn sl):sl=edT es:=by
 refine List.Perm.eq_of_pairwise (le:=fun (a b:T5)=>a.c0≤b.c0) ?_ hs ((edT_lt es).imp fun h=>by omega) hp
 intro a b ha hb h1 h2
 obtain⟨i,e,he,rfl⟩:=edT_mem (hp.mem_iff.1 ha)
 obtain⟨j,e',he',rfl⟩:=edT_mem hb
 dsimp only at h1 h2
 obtain rfl:i=j:=by omega
 rw[he] at he'
 rw[Option.some.inj he']
theorem edT_eOf (es:List IE):(edT es).map eOf=es:=by
 refine List.ext_getElem? fun i=> ?_
 rw[List.getElem?_map]
 cases h:es[i]? with
 |none=>rw[List.getElem?_eq_none (by rw[edT_len];exact List.getElem?_eq_none_iff.1 h)];rfl
 |some e=>rw[edT_get h];rfl
structure PartsOk (N:Nat) (es:List IE) (lab:List Int) (fl:List Bool) (r b:List T5):Prop where
 labs:LabOk (gE es) (fun i=>i<es.length) N (-1) lab
 fors:forestOk es fl
 arcs:Arcs (labT lab) (forT (edT es) fl) r
 len:r.length=2*(forT (edT es) fl).length
 tours:b=toursF r
theorem compSpec.parts {N:Nat} {es:List IE} {a f:List T5} (h:compSpec N (edT es) a f):∃lab fl,a=labT lab∧f=forT (edT es) fl∧LabOk (gE es) (fun i=>i<es.length) N (-1) lab∧forestOk es fl:=by
 obtain⟨sl,fl,lab,h1,h2,h3,h4,rfl,rfl⟩:=h
 obtain rfl:=edT_sorted h1 h2
 rw[edT_eOf,edT_len] at h3
 rw[edT_eOf] at h4
 exact⟨lab,fl,rfl,rfl,h3,h4⟩
structure PtX where
 i:Nat
 p:Option Addr
 cap:Nat
 ch:Chunk
theorem parts17ct (N:Nat) (hN:N≤1000) (p:Option Addr) (m cap:Nat) (es:List IE) (c:Chunk) (hv:Rw ecl 2 p m es c) (hm:m≤1000) (hf:∀e∈es,inE N e):
  Ct Tryz.prog 33 [gv N p m cap] [c] fun v H'=>∃pa na ka ca pb nb kb cb lab fl r b,v= .tuple #[.slice pa na ka,.slice pb nb kb]∧H'=[c,ca,cb]∧RV pa na (labT lab) ca∧RV pb nb b cb∧PartsOk N es lab fl r b:=by
 have hl:=hv.1
 unfold gv
 refine Ct.intro Tryz.func33 rfl Tryz.ntmps33 (nle rfl) fun w0=> ?_;dsimp only[argSlots,Nat.reduceAdd]
 repeat(first|(refine st ?_;intros)|refine G.draw [] (h:= ?_))
 rename_i b1
 refine G.loop (X:=PtX) (fun x=>x.i≤m∧Vec 47 5 x.p x.i x.cap (flat ((edT es).take x.i)) x.ch)
  (fun x=>[(5,.int .i64 (x.i:Int)),(4,.slice x.p x.i x.cap),(1,pv b1)])
  (fun x=>[x.ch,[(b1,row [.int .i64 (N:Int),.slice p m cap] 37)],c]) (fun x=>m-x.i) ⟨0,none,0,[]⟩ ⟨Nat.zero_le _,Vec.nil _ _⟩ (by repeat(first|exact trivial|refine⟨rfl,?_⟩)) (by repeat(first|exact Split.nil|(apply Split.cons;·(first|exact Take.nil|(repeat(first|exact Take.here|apply Take.there)))))) ?_
 rintro⟨i,q,qc,ch⟩ ⟨hi,hV⟩
 dsimp only at hi hV⊢
 by_cases hlt:i<m
 ·obtain⟨b,off,cs,T,fz,rfl,rfl,_,hget⟩:=hv.pos ecl_len (by omega)
  have hie:es[i]? =some es[i]:=List.getElem?_eq_getElem (by omega)
  have q0:=hget i 0 _ _ hie rfl
  have q1:=hget i 1 _ _ hie rfl
  rw[Nat.add_zero] at q0
  have htk:=edT_take hie
  generalize es[i]=e at*
  have hmx:i+1≤maxLen:=by simp only[maxLen];omega
  have hsn:flat ((edT es).take (i+1))=flat ((edT es).take i)++[.int .i64 (i:Int),.int .i64 e.1,.int .i64 e.2,.int .i64 0,.int .i64 0]:=by
   rw[htk,flat_append];rfl
  repeat(first|(refine st ?_;intros)|refine G.draw [] (h:= ?_))
  rename_i p' cap' c' hV'
  have hV3:Vec 47 5 p' (i+1) cap' (flat ((edT es).take (i+1))) c':=by rw[hsn];exact hV'
  refine Dn.round ⟨i+1,p',cap',c'⟩ ⟨hlt,hV3⟩ (by dsimp only;omega)
 obtain rfl:i=m:=by omega
 rw[List.take_of_length_le (by rw[edT_len];omega)] at hV
 have hC:=Comp15ct N (by omega) q i qc (edT es) ch (RV.vec hV) (by omega) (edT_ok hf)
 repeat(first|(refine st ?_;intros)|refine G.draw [] (h:= ?_))
 refine R.call (hct:=hC) (h:= ?_)
 rintro _ _ ⟨pa,na,ka,ca,pf,nf,kf,cf,a,f,rfl,rfl,hva,hvf,hnf,hspec⟩
 try dsimp only[List.cons_append,List.nil_append]
 obtain⟨lab,fl,rfl,rfl,hlab,hfl⟩:=hspec.parts
 have hna:na=N:=by
  have h1:=hva.1
  have h2:=hlab.len
  unfold labT at h1
  rw[List.length_map,List.length_range] at h1
  omega
 have hT:=Tours16ct pa na ka (labT lab) ca hva pf nf kf (forT (edT es) fl) cf hvf (by omega) (by omega) (by
  intro t ht
  obtain⟨t',ht',rfl⟩:=forT_mem ht
  obtain⟨j,e,he,rfl⟩:=edT_mem ht'
  have h1:=hf e (List.mem_of_getElem? he)
  have h2:=(List.getElem?_eq_some_iff.1 he).1
  unfold inE at h1
  dsimp only
  omega) (((edT_lt es).map _ (fun a b h=>by omega:∀a b:T5,a.c0<b.c0→a.c0≠b.c0)).sublist (forT_sub _ _))
 repeat(first|(refine st ?_;intros)|refine G.draw [] (h:= ?_))
 refine R.call (hct:=hT) (h:= ?_)
 rintro _ _ ⟨pt,nt,kt,ct,r,rfl,rfl,hnt,hVt,hA,hrl⟩
 try dsimp only[List.cons_append,List.nil_append]
 repeat(first|(refine st ?_;intros)|refine G.draw [] (h:= ?_))
 (refine Dn.post (Hr:=[c,ca,ct]) Tryz.results33 (hR:= ?_);exact⟨pa,na,ka,ca,pt,nt,kt,ct,lab,fl,r,_,rfl,rfl,hva,RV.vec hVt,hlab,hfl,hA,by rw[hrl,hvf.1],rfl⟩)
end Go.Proofs.YtlnehgklibbjiaaGreat
namespace Go.Proofs.YtlnehgklibbjiaaGreat
open Go.SL Go.Tup Go.Srt
theorem cmp3lt (x y:Int):(if cmp3 x y≠0 then cmp3 x y else 0)<0↔x<y:=by unfold cmp3;split<;>(repeat' split)<;>omega
theorem ltO_o1 (a b:T5):ltO o1 a b=true↔a.c0<b.c0:=by
 have hf:formed o1=true:=by decide
 unfold ltO cmpT
 rw[decide_eq_true_iff,if_pos hf]
 exact cmp3lt a.c0 b.c0
theorem cmp33lt (x y z w:Int):(if cmp3 x y≠0 then cmp3 x y else if cmp3 z w≠0 then cmp3 z w else 0)<0↔x<y∨x=y∧z<w:=by unfold cmp3;(repeat' split)<;>omega
theorem ltO_o12 (a b:T5):ltO o12 a b=true↔a.c0<b.c0∨a.c0=b.c0∧a.c1<b.c1:=by
 have hf:formed o12=true:=by decide
 unfold ltO cmpT
 rw[decide_eq_true_iff,if_pos hf]
 exact cmp33lt a.c0 b.c0 a.c1 b.c1
end Go.Proofs.YtlnehgklibbjiaaGreat
namespace Go.Proofs.YtlnehgklibbjiaaGreat
open Go.SL Go.Spc Go.Tup Go.Srt Go.Gr
def key (x:Int):T5:=⟨x,0,0,0,0⟩
def runs (l:List (Int×Nat)):List T5:=l.flatMap fun x=>List.replicate x.2 (key x.1)
def rootT (x:Int×Nat):T5:=⟨x.1,-1,x.1,-1,(x.2:Int)⟩
theorem runs_cons (x:Int×Nat) (l:List (Int×Nat)):runs (x::l)=List.replicate x.2 (key x.1)++runs l:=by unfold runs;rw[List.flatMap_cons]
theorem runs_mem {l:List (Int×Nat)} {t:T5} (h:t∈runs l):∃x∈l,t=key x.1:=by
 obtain⟨x,hx,h⟩:=List.mem_flatMap.1 h
 exact⟨x,hx,(List.mem_replicate.1 h).2⟩
theorem rootM_rep (x:Int) (rest:List T5):∀(n m:Nat),m+n≤1000000000→(rootM 0 0).all (x,(m:Int)) (List.replicate n (key x)++rest)=(rootM 0 0).all (x,((m+n:Nat):Int)) rest∧
  (rootM 0 0).st (x,(m:Int)) (List.replicate n (key x)++rest)=(rootM 0 0).st (x,((m+n:Nat):Int)) rest
 |0,m,_=>⟨rfl,rfl⟩
 |n+1,m,h=>by
  have ih:=rootM_rep x rest n (m+1) (by omega)
  have hn:(rootM 0 0).next (x,(m:Int)) (key x)=(x,((m+1:Nat):Int)):=by
   unfold rootM key;dsimp only
   rw[if_pos rfl,wrap_i64 (by omega)];rfl
  have ho:(rootM 0 0).outs (x,(m:Int)) (key x)=[]:=by
   unfold rootM key;dsimp only
   rw[if_pos rfl]
  rw[List.replicate_succ,List.cons_append]
  simp only[Maker.all,Maker.st,hn,ho,List.nil_append]
  rw[ih.1,ih.2,show m+1+n=m+(n+1) by omega]
  exact⟨rfl,rfl⟩
theorem roots_runs:∀(l:List (Int×Nat)) (k:Int×Int),(∀x∈l,x.1≠-1∧1≤x.2∧x.2≤1000000000)→l.Pairwise (fun a b=>a.1<b.1)→(∀x∈l,x.1≠k.1)→
  rootsOut ((rootM 0 0).all k (runs l)) ((rootM 0 0).st k (runs l)).1 ((rootM 0 0).st k (runs l)).2=(if k.1= -1 then[] else[⟨k.1,-1,k.1,-1,k.2⟩])++l.map rootT
 |[],k,_,_,_=>by
  show[]++_=_++[]
  rw[List.nil_append,List.append_nil];rfl
 |(x,n)::l,k,h1,h2,h3=>by
  rw[List.pairwise_cons] at h2
  obtain⟨hx,hn,hnb⟩:=h1 _ List.mem_cons_self
  dsimp only at hx hn hnb
  have hk:=h3 _ List.mem_cons_self
  dsimp only at hk
  obtain⟨n,rfl⟩:∃m,n=m+1:=⟨n-1,by omega⟩
  have ih:=roots_runs l (x,((n+1:Nat):Int)) (fun y hy=>h1 y (List.mem_cons_of_mem _ hy)) h2.2 (fun y hy=>by have:=h2.1 y hy;dsimp only at this⊢;omega)
  rw[if_neg hx] at ih
  have hr:=rootM_rep x (runs l) n 1 (by omega)
  rw[show 1+n=n+1 by omega,show((1:Nat):Int)=1 from rfl] at hr
  have hnx:(rootM 0 0).next k (key x)=(x,1):=by
   unfold rootM key;dsimp only
   rw[if_neg hk]
  have ho:(rootM 0 0).outs k (key x)=if k.1= -1 then[] else[⟨k.1,-1,k.1,-1,k.2⟩]:=by
   unfold rootM key;dsimp only
   rw[if_neg hk]
  rw[runs_cons,List.replicate_succ,List.cons_append]
  simp only[Maker.all,Maker.st,hnx,ho,hr.1,hr.2]
  unfold rootsOut at ih⊢
  rw[List.append_assoc,ih]
  rfl
theorem runs_of:∀(s:List T5),s.Pairwise (fun a b=>a.c0≤b.c0)→(∀t∈s,t=key t.c0)→∃l,s=runs l∧l.Pairwise (fun a b=>a.1<b.1)∧∀x∈l,1≤x.2∧key x.1∈s
 |[],_,_=>⟨[],rfl,List.Pairwise.nil,by simp⟩
 |t::s,h1,h2=>by
  rw[List.pairwise_cons] at h1
  obtain⟨l,rfl,hl,hx⟩:=runs_of s h1.2 fun u hu=>h2 u (List.mem_cons_of_mem _ hu)
  have ht:=h2 t List.mem_cons_self
  have hle:∀x∈l,t.c0≤x.1:=fun x hxl=>h1.1 _ (hx x hxl).2
  cases l with
  |nil=>
   refine⟨[(t.c0,1)],by rw[runs_cons];show[t]=[key t.c0]++[];rw[←ht];rfl,List.pairwise_singleton _ _,?_⟩
   intro x hx
   simp only[List.mem_singleton] at hx;subst hx
   exact⟨Nat.le_refl _,by rw[←ht];exact List.mem_cons_self⟩
  |cons y l=>
   obtain⟨x,n⟩:=y
   by_cases hxt:x=t.c0
   ·subst hxt
    refine⟨(t.c0,n+1)::l,by rw[runs_cons,runs_cons];dsimp only;rw[List.replicate_succ,List.cons_append,←ht],?_,?_⟩
    ·rw[List.pairwise_cons] at hl⊢
     exact hl
    ·intro z hz
     rcases List.mem_cons.1 hz with rfl|hz
     ·exact⟨by dsimp only;omega,by dsimp only;rw[←ht];exact List.mem_cons_self⟩
     ·exact⟨(hx z (List.mem_cons_of_mem _ hz)).1,List.mem_cons_of_mem _ (hx z (List.mem_cons_of_mem _ hz)).2⟩
   ·refine⟨(t.c0,1)::(x,n)::l,by rw[runs_cons (t.c0,1)];dsimp only;rw[←ht];rfl,?_,?_⟩
    ·rw[List.pairwise_cons]
     refine⟨fun z hz=> ?_,hl⟩
     have h3:=hle _ List.mem_cons_self
     dsimp only at h3⊢
     rcases List.mem_cons.1 hz with rfl|hz'
     ·dsimp only;omega
     ·have:=(List.pairwise_cons.1 hl).1 z hz'
      dsimp only at this
      omega
    ·intro z hz
     rcases List.mem_cons.1 hz with rfl|hz
     ·exact⟨Nat.le_refl _,by dsimp only;rw[←ht];exact List.mem_cons_self⟩
     ·exact⟨(hx z hz).1,List.mem_cons_of_mem _ (hx z hz).2⟩
theorem runs_count:∀{l:List (Int×Nat)},l.Pairwise (fun a b=>a.1<b.1)→∀{x:Int×Nat},x∈l→(runs l).count (key x.1)=x.2
 |y::l,h,x,hx=>by
  rw[List.pairwise_cons] at h
  rw[runs_cons,List.count_append,List.count_replicate]
  rcases List.mem_cons.1 hx with rfl|hx
  ·have h0:(runs l).count (key x.1)=0:=by
    rw[List.count_eq_zero]
    intro hm
    obtain⟨z,hz,he⟩:=runs_mem hm
    have:=h.1 z hz
    have:=congrArg T5.c0 he
    simp only[key] at this
    omega
   rw[h0];simp
  ·have ih:=runs_count h.2 hx
   have hne:¬(key y.1=key x.1):=by
    intro he
    have:=h.1 x hx
    have:=congrArg T5.c0 he
    simp only[key] at this
    omega
   rw[ih]
   simp[hne]
theorem key_inj {x y:Int} (h:key x=key y):x=y:=congrArg T5.c0 h
theorem labKeys (lab:List Int):(labT lab).map (fun t=>(⟨t.c1,0,0,0,0⟩:T5))=lab.map key:=by
 refine List.ext_getElem? fun i=> ?_
 unfold labT
 rw[List.map_map,List.getElem?_map,List.getElem?_map]
 by_cases h:i<lab.length
 ·rw[List.getElem?_range h,List.getElem?_eq_getElem h]
  simp[key,List.getD_eq_getElem?_getD,h]
 ·rw[List.getElem?_eq_none (by simpa using h),List.getElem?_eq_none (by omega)];rfl
theorem count_key (lab:List Int) (x:Int):(lab.map key).count (key x)=lab.count x:=by
 induction lab with
 |nil=>rfl
 |cons y l ih=>
  rw[List.map_cons,List.count_cons,List.count_cons,ih]
  by_cases h:y=x
  ·subst h;simp
  ·have:¬key y=key x:=fun e=>h (key_inj e)
   simp[h,this]
theorem roots_lab {lab:List Int} (h0:∀x∈lab,0≤x) (hlen:lab.length≤1000000):∃l:List (Int×Nat),rootsF (labT lab)=l.map rootT∧l.Pairwise (fun a b=>a.1<b.1)∧(∀x∈l,x.1∈lab∧x.2=lab.count x.1)∧∀y∈lab,∃x∈l,x.1=y:=by
 have hp:(srt (ltO o1) false (lab.map key)).Perm (lab.map key):=perm_srt _
 have hs:(srt (ltO o1) false (lab.map key)).Pairwise (fun a b=>a.c0≤b.c0):=(sd_srt (ltO_swo o1) false (lab.map key)).imp fun {a b} h=>by
  simp only[Bool.false_eq_true,if_false] at h
  have h2:¬(ltO o1 b a=true):=by rw[h];decide
  rw[ltO_o1] at h2
  omega
 obtain⟨l,hl,hlp,hlm⟩:=runs_of _ hs (fun t ht=>by
  obtain⟨x,_,rfl⟩:=List.mem_map.1 (hp.mem_iff.1 ht);rfl)
 have hin:∀x∈l,x.1∈lab:=fun x hx=>by
  obtain⟨y,hy,he⟩:=List.mem_map.1 (hp.mem_iff.1 (hlm x hx).2)
  rw[←key_inj he];exact hy
 have hcn:∀x∈l,x.2=lab.count x.1:=fun x hx=>by
  rw[←runs_count hlp hx,←hl,hp.count_eq,count_key]
 refine⟨l,?_,hlp,fun x hx=>⟨hin x hx,hcn x hx⟩,fun y hy=> ?_⟩
 ·unfold rootsF
  rw[labKeys,hl,roots_runs l (-1,0) (fun x hx=>⟨fun he=>by have:=h0 _ (hin x hx);omega,(hlm x hx).1,by have:=List.count_le_length (a:=x.1) (l:=lab);have:=hcn x hx;omega⟩) hlp (fun x hx he=>by have:=h0 _ (hin x hx);dsimp only at he;omega)]
  rfl
 ·obtain⟨x,hx,he⟩:=runs_mem (l:=l) (by rw[←hl];exact hp.mem_iff.2 (List.mem_map.2 ⟨y,hy,rfl⟩))
  exact⟨x,hx,(key_inj he).symm⟩
theorem numM_cnt (a b:Nat):∀(ts:List T5) (k:Int×Int),((numM a b).all k ts).length=ts.countP fun t=>decide (t.c2≠-1)
 |[],_=>rfl
 |t::ts,k=>by
  have ih:=numM_cnt a b ts ((numM a b).next k t)
  simp only[Maker.all]
  rw[List.length_append,ih,List.countP_cons]
  unfold numM;dsimp only
  by_cases h:t.c2= -1
  ·simp[h]
  ·simp[h];omega
theorem turnM_down (a b:Nat):∀(ts:List T5) (d:T5),2*(((turnM a b).all (false,d) ts).countP fun t=>decide (t.c2≠-1))≤ts.length
 |[],_=>by simp[Maker.all]
 |[t],d=>by simp[Maker.all,turnM]
 |t::u::ts,d=>by
  have ih:=turnM_down a b ts (if u.c4<t.c4 then u else t)
  have h1:(turnM a b).all (false,d) (t::u::ts)=(turnM a b).outs (true,t) u++(turnM a b).all (false,if u.c4<t.c4 then u else t) ts:=by
   simp only[Maker.all];rfl
  have h2:((turnM a b).outs (true,t) u).countP (fun t=>decide (t.c2≠-1))≤1:=by
   unfold turnM;dsimp only
   rw[if_pos rfl,List.countP_cons,List.countP_cons,List.countP_nil]
   simp only[ne_eq,not_true_eq_false,decide_false,Bool.false_eq_true,if_false]
   have hx:∀c:Bool,(if c=true then 1 else 0)≤1:=by intro c;cases c<;>decide
   have h3:=hx (decide ¬(if u.c4<t.c4 then u else t).c2= -1)
   omega
  rw[h1,List.countP_append]
  simp only[List.length_cons]
  omega
theorem LabOk.root {g:Nat→Ed} {S:Nat→Prop} {N:Nat} {lab:List Int} (h:LabOk g S N (-1) lab) {v:Nat} (hv:v<N):∃x:Nat,lab[v]? =some (x:Int)∧x≤v∧Cn g S v x∧Mn g S x:=by
 obtain⟨x,h1,h2,h3,h4⟩:=h.at_ v hv (by omega)
 exact⟨x,h1,h3,h2,fun u hu hc=>by have:=h4 u (h2.trans hc.symm);omega⟩
theorem LabOk.same {g:Nat→Ed} {S:Nat→Prop} {N:Nat} {lab:List Int} (h:LabOk g S N (-1) lab) {u v:Nat} (hu:u<N) (hv:v<N) (hc:Cn g S u v):lab[u]? =lab[v]? :=by
 obtain⟨x,x1,_,x2,x3⟩:=h.root hu
 obtain⟨y,y1,_,y2,y3⟩:=h.root hv
 rw[x1,y1,x3.uniq y3 (x2.symm.trans (hc.trans y2))]
theorem LabOk.mem {g:Nat→Ed} {S:Nat→Prop} {N:Nat} {lab:List Int} (h:LabOk g S N (-1) lab) {x:Int} (hx:x∈lab):∃v:Nat,x=(v:Int)∧v<N∧Mn g S v:=by
 obtain⟨i,hi,rfl⟩:=List.mem_iff_getElem.1 hx
 obtain⟨v,h1,h2,_,h3⟩:=h.root (v:=i) (by rw[←h.len];exact hi)
 rw[List.getElem?_eq_getElem hi] at h1
 have:=h.len
 exact⟨v,Option.some.inj h1,by omega,h3⟩
theorem labT_at {lab:List Int} {v:Nat} {x:Int} (h:lab[v]? =some x):(at5 (labT lab) v).c1=x:=by
 obtain⟨hv,rfl⟩:=List.getElem?_eq_some_iff.1 h
 unfold at5 labT
 rw[List.getD_eq_getElem?_getD,List.getElem?_map,List.getElem?_range hv]
 simp[List.getD_eq_getElem?_getD,hv]
namespace PartsOk
variable {N:Nat} {es:List IE} {lab:List Int} {fl:List Bool} {r b:List T5}
theorem edge (h:PartsOk N es lab fl r b) {e:T5} (he:e∈forT (edT es) fl):∃(i:Nat) (d:IE),es[i]? =some d∧fl[i]? =some true∧e=⟨(i:Int),d.1,d.2,0,0⟩:=by
 unfold forT at he
 obtain⟨⟨t,c⟩,hx,he⟩:=List.mem_filterMap.1 he
 dsimp only at he
 split at he
 next hc=>
  subst hc
  obtain⟨i,hi⟩:=List.mem_iff_getElem?.1 hx
  rw[List.getElem?_zip_eq_some] at hi
  have hil:=(List.getElem?_eq_some_iff.1 hi.1).1
  rw[edT_len] at hil
  have hd:es[i]? =some es[i]:=List.getElem?_eq_getElem hil
  have h1:=hi.1
  rw[edT_get hd] at h1
  have h2:=Option.some.inj h1
  subst h2
  exact⟨i,es[i],hd,hi.2,(Option.some.inj he).symm⟩
 next=>simp at he
theorem hl (h:PartsOk N es lab fl r b) (hf:∀e∈es,inE N e):∀e∈forT (edT es) fl,(at5 (labT lab) e.c1.toNat).c1=(at5 (labT lab) e.c2.toNat).c1:=by
 intro e he
 obtain⟨i,d,hd,_,rfl⟩:=h.edge he
 have h1:=hf d (List.mem_of_getElem? hd)
 unfold inE at h1
 have hg:gE es i=(d.1.toNat,d.2.toNat):=by unfold gE;rw[hd]
 have hc:Cn (gE es) (fun i=>i<es.length) d.1.toNat d.2.toNat:=by
  have:=Cn.edge (g:=gE es) (S:=fun i=>i<es.length) (i:=i) (List.getElem?_eq_some_iff.1 hd).1
  rwa[hg] at this
 have h2:=h.labs.same (u:=d.1.toNat) (v:=d.2.toNat) (by omega) (by omega) hc
 obtain⟨x,hx,_⟩:=h.labs.root (v:=d.1.toNat) (by omega)
 show(at5 (labT lab) d.1.toNat).c1=(at5 (labT lab) d.2.toNat).c1
 rw[labT_at hx,labT_at (h2▸hx)]
theorem tours_len (h:PartsOk N es lab fl r b) (hf:∀e∈es,inE N e):b.length≤2*(forT (edT es) fl).length:=by
 rw[h.tours,←h.len]
 exact h.arcs.tours_len (h.hl hf)
theorem gE_lt (hf:∀e∈es,inE N e):∀j,j<es.length→(gE es j).1<N∧(gE es j).2<N:=by
 intro j hj
 have hd:es[j]? =some es[j]:=List.getElem?_eq_getElem hj
 have h1:=hf _ (List.mem_of_getElem? hd)
 unfold inE at h1
 unfold gE;rw[hd];dsimp only
 omega
theorem roots_for (h:PartsOk N es lab fl r b) (hf:∀e∈es,inE N e) (hN:N≤1000000):(rootsF (labT lab)).length+(forT (edT es) fl).length≤N:=by
 classical
 obtain⟨l,hl,hlp,hlm,_⟩:=roots_lab (lab:=lab) (fun x hx=>by obtain⟨v,rfl,_⟩:=h.labs.mem hx;omega) (by rw[h.labs.len];exact hN)
 have hc:=forest_count (g:=gE es) (n:=N) (fun k v=>decide (Mn (gE es) (fun j=>j<k) v)) (fun i=>decide (¬Cn (gE es) (fun j=>j<i) (gE es i).1 (gE es i).2)) (fun k v=>decide_eq_true_iff) (fun i=>decide_eq_true_iff) es.length (gE_lt hf)
 have h1:(l.map fun x=>x.1.toNat).length≤((List.range N).filter fun v=>decide (Mn (gE es) (fun j=>j<es.length) v)).length:=by
  refine List.Nodup.length_le_of_subset ?_ ?_
  ·refine List.Pairwise.map _ (R:=fun (a b:Int×Nat)=>a.1<b.1∧0≤a.1) (fun a b h=>by omega) ?_
   refine List.Pairwise.imp_of_mem ?_ hlp
   intro a b ha _ hab
   obtain⟨v,hv,_⟩:=h.labs.mem (hlm a ha).1
   omega
  ·intro v hv
   obtain⟨x,hx,rfl⟩:=List.mem_map.1 hv
   obtain⟨v,hv,hvN,hm⟩:=h.labs.mem (hlm x hx).1
   rw[hv]
   exact List.mem_filter.2 ⟨List.mem_range.2 (by omega),decide_eq_true (by simpa using hm)⟩
 have h2:((forT (edT es) fl).map fun t=>t.c0.toNat).length≤((List.range es.length).filter fun i=>decide (¬Cn (gE es) (fun j=>j<i) (gE es i).1 (gE es i).2)).length:=by
  refine List.Nodup.length_le_of_subset ?_ ?_
  ·refine List.Pairwise.map _ (R:=fun (a b:T5)=>a.c0<b.c0∧0≤a.c0) (fun a b h=>by omega) ?_
   have hp:(forT (edT es) fl).Pairwise fun a b=>a.c0<b.c0:=by
    have:=List.Pairwise.sublist (R:=fun x y:Int=>x<y) (forT_sub (edT es) fl) (by rw[List.pairwise_map];exact edT_lt es)
    rwa[List.pairwise_map] at this
   refine List.Pairwise.imp_of_mem ?_ hp
   intro a b ha _ hab
   obtain⟨i,d,_,_,rfl⟩:=h.edge ha
   exact⟨hab,by dsimp only;omega⟩
  ·intro v hv
   obtain⟨t,ht,rfl⟩:=List.mem_map.1 hv
   obtain⟨i,d,hd,hfl,rfl⟩:=h.edge ht
   have hi:=(List.getElem?_eq_some_iff.1 hd).1
   have hk:=(h.fors.2 i true hfl).1 rfl
   refine List.mem_filter.2 ⟨List.mem_range.2 (by dsimp only;omega),decide_eq_true ?_⟩
   dsimp only
   rw[Int.toNat_natCast]
   exact fun hcn=>hk.2 (hcn.mono fun j hj=>⟨by omega,hj⟩)
 rw[List.length_map] at h1 h2
 rw[hl,List.length_map]
 omega
theorem hcnt (h:PartsOk N es lab fl r b) (hf:∀e∈es,inE N e) (hN:N≤1000000):((numM 0 0).all (0,0) (visitsF (labT lab) b)).length≤N:=by
 rw[numM_cnt]
 unfold visitsF
 rw[(perm_srt _).countP_eq,List.countP_append]
 have h1:=h.roots_for hf hN
 have h2:=h.tours_len hf
 have h3:=turnM_down 0 0 (srt (ltO o1) false b) T5.zero
 have h4:=(perm_srt (lt:=ltO o1) b).length_eq
 have h5:=List.countP_le_length (p:=fun t:T5=>decide (t.c2≠-1)) (l:=rootsF (labT lab))
 unfold turnsF
 omega
end PartsOk
end Go.Proofs.YtlnehgklibbjiaaGreat
