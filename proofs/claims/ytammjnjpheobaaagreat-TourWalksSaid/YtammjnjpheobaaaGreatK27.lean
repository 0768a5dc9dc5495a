/-
  Parts of the proof, put together: RankP3, TourL, TourK, TourA, TourB. No condition.
-/
import Derived.Test.YtammjnjpheobaaaGreatK26
set_option linter.unusedVariables false
set_option linter.unusedSimpArgs false
set_option linter.unnecessarySimpa false
set_option maxHeartbeats 4000000
namespace Go.Proofs.YtammjnjpheobaaaGreat
open Go.SL Go.Spc Go.Tup Go.Srt
def Ends (l:List T5):Prop:=∀t∈l,∃k,itA (paT l) k t.c0= -1
def rkV (l:List T5) (x:Int):Int:=IntKind.wrap .i64 (smA (paT l) (waT l) (2^bits l.length) x)
theorem paT_end (l:List T5):paT l (-1)= -1:=by unfold paT aheadT;simp
theorem waT_end (l:List T5):waT l (-1)=0:=by unfold waT aheadT;simp
theorem paT_in {l:List T5} (x:Int):paT l x= -1∨∃u∈l,u.c0=paT l x:=by
 unfold paT
 cases ha:aheadT l x with
 |none=>exact .inl rfl
 |some t=>exact .inr ⟨t,(aheadT_of ha).1,rfl⟩
theorem itA_in {l:List T5}:∀(k:Nat) {x:Int},(x= -1∨∃u∈l,u.c0=x)→itA (paT l) k x= -1∨∃u∈l,u.c0=itA (paT l) k x
 |0,_,h=>h
 |k+1,x,_=>itA_in k (paT_in x)
theorem sJ_is {l:List T5} (h:PreL l) (hok:∀t∈l,okT 3 t) (j:Nat):sJ l j=(allF l).map (stT (itA (paT l) (2^j)) fun x=>IntKind.wrap .i64 (smA (paT l) (waT l) (2^j) x)):=
 sJ_it h.all h.pos (fun e _=>(paT_in e.c0).imp id fun ⟨u,hu,he⟩=>⟨⟨u.c0,0,0,0,0⟩,allF_mem.2 ⟨u,hu,rfl⟩,he⟩) (paT_end l) (waT_end l) (begF_is h hok) j
theorem open_iff {l:List T5} (h:PreL l) (hok:∀t∈l,okT 3 t) (j:Nat):openT (sJ l j)=false↔∀t∈l,itA (paT l) (2^j) t.c0= -1:=by
 rw[sJ_is h hok j]
 unfold openT
 rw[List.any_eq_false]
 constructor
 ·intro h1 t ht
  have h2:=h1 _ (List.mem_map_of_mem (f:=stT (itA (paT l) (2^j)) fun x=>IntKind.wrap .i64 (smA (paT l) (waT l) (2^j) x)) (allF_mem.2 ⟨t,ht,rfl⟩))
  by_cases h3:itA (paT l) (2^j) t.c0= -1
  ·exact h3
  ·exact absurd (decide_eq_true h3) h2
 ·intro h1 z hz
  obtain⟨e,he,rfl⟩:=List.mem_map.1 hz
  obtain⟨t,ht,rfl⟩:=allF_mem.1 he
  have:=h1 t ht
  show¬decide (itA (paT l) (2^j) t.c0≠-1)=true
  simp[this]
theorem ends_len {l:List T5} {x:Int} (hx:x= -1∨∃u∈l,u.c0=x):∀{k:Nat},itA (paT l) k x= -1→∃j,j≤l.length∧itA (paT l) j x= -1
 |k,hk=>by
  by_cases hle:k≤l.length
  ·exact⟨k,hle,hk⟩
  ·by_cases hex:∃j,j<k∧itA (paT l) j x= -1
   ·obtain⟨j,hj,h1⟩:=hex
    exact ends_len hx h1
   ·exfalso
    have hno:∀j,j<k→itA (paT l) j x≠-1:=fun j hj h=>hex ⟨j,hj,h⟩
    have hnd:((List.range k).map fun i=>itA (paT l) i x).Nodup:=by
     refine List.pairwise_map.2 ?_
     rw[List.pairwise_iff_getElem]
     intro i j hi hj hij he
     rw[List.length_range] at hi hj
     simp only[List.getElem_range] at he
     have h1:itA (paT l) (i+(k-j)) x= -1:=by
      rw[itA_add,he,←itA_add,show j+(k-j)=k by omega];exact hk
     exact hno (i+(k-j)) (by omega) h1
    have h2:=hnd.length_le_of_subset (l₂:=l.map fun u=>u.c0) (fun z hz=>by
     obtain⟨i,hi,rfl⟩:=List.mem_map.1 hz
     rcases itA_in (l:=l) i hx with h3|⟨u,hu,h3⟩
     ·exact absurd h3 (hno i (List.mem_range.1 hi))
     ·exact List.mem_map.2 ⟨u,hu,h3⟩)
    simp only[List.length_map,List.length_range] at h2
    omega
theorem ends_it {l:List T5} {x:Int} (hx:x= -1∨∃u∈l,u.c0=x) {k:Nat} (hk:itA (paT l) k x= -1) {n:Nat} (hn:l.length≤n):itA (paT l) n x= -1:=by
 obtain⟨j,hj,h1⟩:=ends_len hx hk
 rw[show n=j+(n-j) by omega,itA_add,h1]
 exact itA_end (paT_end l) _
theorem errR_iff {l:List T5} (hl:l.length<1000000) (hok:∀t∈l,okT 3 t):errR l=none↔OkL l∧Ends l:=by
 unfold errR
 have hb:=bits_gt l.length
 constructor
 ·intro h
  obtain⟨h1,h2⟩:=or_nil h
  have h3:=(errB_iff hl).1 h1
  refine⟨h3,fun t ht=>⟨_,(open_iff h3.toPreL hok (bits l.length)).1 ?_ t ht⟩⟩
  cases ho:openT (sJ l (bits l.length)) with
  |false=>rfl
  |true=>rw[ho] at h2;cases h2
 ·rintro⟨h1,h2⟩
  rw[(errB_iff hl).2 h1,(open_iff h1.toPreL hok (bits l.length)).2 fun t ht=>by
   obtain⟨k,hk⟩:=h2 t ht
   exact ends_it (.inr ⟨t,ht,rfl⟩) hk (Nat.le_of_lt hb)]
  rfl
theorem ranksF_is {l:List T5} (h:OkL l) (hok:∀t∈l,okT 3 t):ranksF l=(allF l).map fun e=>⟨e.c0,rkV l e.c0,0,0,0⟩:=by
 unfold ranksF
 rw[sJ_is h.toPreL hok,List.map_map]
 rfl
theorem ranksF_len {l:List T5}:(ranksF l).length=l.length:=by unfold ranksF;rw[List.length_map,sJ_len]
theorem rk_first {l:List T5} {x:Int} (ha:aheadT l x=none):rkV l x=0:=by
 unfold rkV
 have hz:∀k,smA (paT l) (waT l) k x=0:=by
  intro k
  cases k with
  |zero=>rfl
  |succ k=>
   show waT l x+smA (paT l) (waT l) k (paT l x)=0
   have h1:paT l x= -1:=by unfold paT;rw[ha]
   have h2:waT l x=0:=by unfold waT;rw[ha]
   rw[h1,h2,smA_end (paT_end l) (waT_end l)];rfl
 rw[hz];decide
theorem rk_next {l:List T5} (h:OkL l) (he:Ends l) (hok:∀t∈l,okT 3 t) {t:T5} (ht:t∈l) (hn:t.c1≠-1):rkV l t.c1=IntKind.wrap .i64 (rkV l t.c0+t.c2):=by
 unfold rkV
 obtain⟨u,hu,hux⟩:=h.im t ht hn
 have hb:=bits_gt l.length
 generalize 2^bits l.length=N at*
 have ha:=aheadT_some h.toPreL ht hn
 have hp:paT l t.c1=t.c0:=by unfold paT;rw[ha]
 have hw:waT l t.c1=t.c2:=by unfold waT;rw[ha]
 have hend:itA (paT l) N t.c1= -1:=by
  rw[←hux]
  obtain⟨k,hk⟩:=he u hu
  exact ends_it (.inr ⟨u,hu,rfl⟩) hk (Nat.le_of_lt hb)
 have h1:smA (paT l) (waT l) (N+1) t.c1=smA (paT l) (waT l) N t.c1:=by
  rw[smA_add,hend,smA_end (paT_end l) (waT_end l),Int.add_zero]
 have h2:smA (paT l) (waT l) (N+1) t.c1=t.c2+smA (paT l) (waT l) N t.c0:=by
  show waT l t.c1+smA (paT l) (waT l) N (paT l t.c1)=_
  rw[hp,hw]
 rw[←h1,h2,Int.add_comm]
 have hc:=(okT_cols (hok t ht)).2.2.1
 have h3:=wrap_sum (smA (paT l) (waT l) N t.c0) t.c2
 rw[wrap_i64 hc] at h3
 exact h3.symm
theorem OkL.perm {l m:List T5} (h:OkL l) (hp:l.Perm m):OkL m where
 el t ht:=h.el t (hp.mem_iff.2 ht)
 nd:=(hp.pairwise_iff (R:=fun a c:T5=>a.c0≠c.c0) (fun hh=>fun e=>hh e.symm)).1 h.nd
 nx:=(hp.pairwise_iff (R:=fun a c:T5=>a.c1≠-1→a.c1≠c.c1) (fun {a c} hh hn e=>hh (by omega) e.symm)).1 h.nx
 im t ht hn:=by
  obtain⟨u,hu,he⟩:=h.im t (hp.mem_iff.2 ht) hn
  exact⟨u,hp.mem_iff.1 hu,he⟩
theorem allF_perm {l m:List T5} (h:PreL m) (hp:l.Perm m):allF l=allF m:=by
 refine srt_is ?_ h.all
 refine(hp.map _).trans ?_
 exact(perm_srt _).symm
theorem ahead_perm {l m:List T5} (h:PreL m) (hp:l.Perm m) (x:Int):aheadT l x=aheadT m x:=by
 cases ha:aheadT m x with
 |none=>
  by_cases hx:x= -1
  ·subst hx;unfold aheadT;simp
  ·unfold aheadT
   rw[if_neg hx,List.find?_eq_none]
   intro t ht hd
   exact aheadT_none hx ha t (hp.mem_iff.1 ht) (by simpa using hd)
 |some t=>
  obtain⟨h1,h2,h3⟩:=aheadT_of ha
  cases hb:aheadT l x with
  |none=>exact absurd h2 (aheadT_none h3 hb t (hp.mem_iff.2 h1))
  |some u=>
   obtain⟨h4,h5,_⟩:=aheadT_of hb
   rw[uniq_nx h.nx (hp.mem_iff.1 h4) h1 (by omega) (by omega)]
theorem ranks_perm {l m:List T5} (hl:l.length<1000000) (hok:∀t∈l,okT 3 t) (hp:l.Perm m):errR l=errR m∧(errR l=none→ranksF l=ranksF m):=by
 have hokm:∀t∈m,okT 3 t:=fun t ht=>hok t (hp.mem_iff.2 ht)
 have hlm:m.length<1000000:=by rw[←hp.length_eq];exact hl
 have key:∀{l m:List T5},l.Perm m→OkL l∧Ends l→OkL m∧Ends m:=by
  rintro l m hp ⟨h1,h2⟩
  have h3:=h1.perm hp
  refine⟨h3,fun t ht=> ?_⟩
  obtain⟨k,hk⟩:=h2 t (hp.mem_iff.2 ht)
  have hpa:paT l=paT m:=by funext x;unfold paT;rw[ahead_perm h3.toPreL hp]
  exact⟨k,by rw[←hpa];exact hk⟩
 constructor
 ·rcases errR_3 l with h|h<;>rcases errR_3 m with h2|h2
  ·rw[h,h2]
  ·have h3:=(errR_iff hlm hokm).2 (key hp ((errR_iff hl hok).1 h))
   rw[h2] at h3;cases h3
  ·have h3:=(errR_iff hl hok).2 (key hp.symm ((errR_iff hlm hokm).1 h2))
   rw[h] at h3;cases h3
  ·rw[h,h2]
 ·intro h
  obtain⟨h1,_⟩:=(errR_iff hl hok).1 h
  have h3:=h1.perm hp
  rw[ranksF_is h1 hok,ranksF_is h3 hokm,allF_perm h3.toPreL hp]
  have hpa:paT l=paT m:=by funext x;unfold paT;rw[ahead_perm h3.toPreL hp]
  have hwa:waT l=waT m:=by funext x;unfold waT;rw[ahead_perm h3.toPreL hp]
  unfold rkV
  rw[hpa,hwa,hp.length_eq]
end Go.Proofs.YtammjnjpheobaaaGreat
namespace Go.Proofs.YtammjnjpheobaaaGreat
open Go.SL Go.Tup Go.Srt Go.Gr
theorem fmCongr {α β:Type} {f g:α→List β}:∀{l:List α},(∀a∈l,f a=g a)→l.flatMap f=l.flatMap g
 |[],_=>rfl
 |a::l,h=>by rw[List.flatMap_cons,List.flatMap_cons,h a List.mem_cons_self,fmCongr fun b hb=>h b (List.mem_cons_of_mem _ hb)]
def lkE (r:List T5) (k:Nat):T5:=⟨(at5 r k).c0,if rootB r (sigF r k) then-1 else(at5 r (sigF r k)).c0,1,0,0⟩
def lksL (r:List T5):List T5:=(List.range r.length).map (lkE r)
theorem lksL_len (r:List T5):(lksL r).length=r.length:=by simp[lksL]
theorem lksL_mem {r:List T5} {t:T5}:t∈lksL r↔∃k,k<r.length∧t=lkE r k:=by
 unfold lksL
 rw[List.mem_map]
 exact⟨fun ⟨k,a,b⟩=>⟨k,List.mem_range.1 a,b.symm⟩,fun ⟨k,a,b⟩=>⟨k,List.mem_range.2 a,b.symm⟩⟩
namespace PartsOk
variable {N:Nat} {es:List IE} {lab:List Int} {fl:List Bool} {r b:List T5}
theorem lkOkL (h:PartsOk N es lab fl r b):OkL (lksL r) where
 el t ht:=by
  obtain⟨k,hk,rfl⟩:=lksL_mem.1 ht
  have h1:=h.arcs.pos0 hk
  have h2:=h.arcs.pos0 (sigF_lt k hk)
  refine⟨h1,?_⟩
  show-1≤if rootB r (sigF r k) then-1 else(at5 r (sigF r k)).c0
  split<;>omega
 nd:=by
  unfold lksL
  rw[List.pairwise_map,List.pairwise_iff_getElem]
  intro i j hi hj hij
  rw[List.length_range] at hi hj
  simp only[List.getElem_range]
  intro he
  have:=h.arcs.num hi hj he
  omega
 nx:=by
  unfold lksL
  rw[List.pairwise_map,List.pairwise_iff_getElem]
  intro i j hi hj hij
  rw[List.length_range] at hi hj
  simp only[List.getElem_range]
  intro hn he
  have hn:(if rootB r (sigF r i) then-1 else(at5 r (sigF r i)).c0)≠-1:=hn
  have he:(if rootB r (sigF r i) then-1 else(at5 r (sigF r i)).c0)=(if rootB r (sigF r j) then-1 else(at5 r (sigF r j)).c0):=he
  have h2:=h.arcs.pos0 (sigF_lt i hi)
  by_cases hr:rootB r (sigF r i)=true
  ·rw[if_pos hr] at hn;exact hn rfl
  ·rw[if_neg hr] at he
   by_cases hr2:rootB r (sigF r j)=true
   ·rw[if_pos hr2] at he;omega
   ·rw[if_neg hr2] at he
    have:=h.arcs.sig_inj i j hi hj (h.arcs.num (sigF_lt i hi) (sigF_lt j hj) he)
    omega
 im t ht hn:=by
  obtain⟨k,hk,rfl⟩:=lksL_mem.1 ht
  refine⟨lkE r (sigF r k),lksL_mem.2 ⟨_,sigF_lt k hk,rfl⟩,?_⟩
  have hn:(if rootB r (sigF r k) then-1 else(at5 r (sigF r k)).c0)≠-1:=hn
  show(at5 r (sigF r k)).c0=if rootB r (sigF r k) then-1 else(at5 r (sigF r k)).c0
  split
  next hr=>rw[if_pos hr] at hn;exact absurd rfl hn
  next=>rfl
theorem root_at (h:PartsOk N es lab fl r b) (hf:∀e∈es,inE N e) {i n:Nat} (hi:i<r.length) (hr:rootB r i=true) (hn:n<perA r i):rootB r (itF (sigF r) n i)=true↔n=0:=by
 constructor
 ·intro hrn
  have hk:=itF_lt (f:=sigF r) sigF_lt hi n
  have hl:=h.arcs.it_lab (h.hl hf) hi n
  have he:itF (sigF r) n i=i:=by
   rcases Nat.lt_trichotomy (itF (sigF r) n i) i with h1|h1|h1
   ·exact absurd hl (h.arcs.root_uniq h1 hi hrn hr)
   ·exact h1
   ·exact absurd hl.symm (h.arcs.root_uniq h1 hk hr hrn)
  by_cases h0:n=0
  ·exact h0
  ·exact absurd he ((h.arcs.per hi).2.2.2 n (by omega) hn)
 ·rintro rfl;exact hr
theorem ahead0 (h:PartsOk N es lab fl r b) {i:Nat} (hi:i<r.length) (hr:rootB r i=true):aheadT (lksL r) (at5 r i).c0=none:=by
 cases ha:aheadT (lksL r) (at5 r i).c0 with
 |none=>rfl
 |some t=>
  exfalso
  obtain⟨ht,hc,hx⟩:=aheadT_of ha
  obtain⟨k,hk,rfl⟩:=lksL_mem.1 ht
  have hc:(if rootB r (sigF r k) then-1 else(at5 r (sigF r k)).c0)=(at5 r i).c0:=hc
  by_cases hr2:rootB r (sigF r k)=true
  ·rw[if_pos hr2] at hc;exact hx hc.symm
  ·rw[if_neg hr2] at hc
   have:=h.arcs.num (sigF_lt k hk) hi hc
   rw[this] at hr2
   exact hr2 hr
theorem lk_next (h:PartsOk N es lab fl r b) (hf:∀e∈es,inE N e) {i n:Nat} (hi:i<r.length) (hr:rootB r i=true) (hn:n+1<perA r i):(lkE r (itF (sigF r) n i)).c1=(at5 r (itF (sigF r) (n+1) i)).c0:=by
 show(if rootB r (itF (sigF r) (n+1) i) then-1 else(at5 r (itF (sigF r) (n+1) i)).c0)=_
 rw[if_neg]
 intro hc
 have:=(h.root_at hf hi hr hn).1 hc
 omega
theorem lk_in (_h:PartsOk N es lab fl r b) {i:Nat} (hi:i<r.length) (n:Nat):lkE r (itF (sigF r) n i)∈lksL r:=lksL_mem.2 ⟨_,itF_lt sigF_lt hi n,rfl⟩
theorem lkEnds (h:PartsOk N es lab fl r b) (hf:∀e∈es,inE N e):Ends (lksL r):=by
 have key:∀{i:Nat},i<r.length→rootB r i=true→∀n,n<perA r i→∃k,itA (paT (lksL r)) k (at5 r (itF (sigF r) n i)).c0= -1:=by
  intro i hi hr n
  induction n with
  |zero=>
   intro _
   exact⟨1,(paT_pos h.lkOkL.toPreL).2 (h.ahead0 hi hr)⟩
  |succ n ih=>
   intro hn
   obtain⟨k,hk⟩:=ih (by omega)
   have h1:=h.lk_next hf hi hr hn
   have hp:paT (lksL r) (at5 r (itF (sigF r) (n+1) i)).c0=(at5 r (itF (sigF r) n i)).c0:=by
    rw[←h1]
    unfold paT
    rw[aheadT_some h.lkOkL.toPreL (h.lk_in hi n) (by rw[h1];have:=h.arcs.pos0 (itF_lt (f:=sigF r) sigF_lt hi (n+1));omega)]
    rfl
   refine⟨k+1,?_⟩
   show itA (paT (lksL r)) k (paT (lksL r) _)= -1
   rw[hp];exact hk
 intro t ht
 obtain⟨k,hk,rfl⟩:=lksL_mem.1 ht
 obtain⟨i,hi,hr,_,hR⟩:=h.root_of hf hk
 obtain⟨n,hn,he⟩:=h.arcs.pos_of hi hR
 rw[←he]
 exact key hi hr n hn
theorem lk_ok (h:PartsOk N es lab fl r b) (hc:∀k,k<r.length→(at5 r k).c0≤1000000000):∀t∈lksL r,okT 3 t:=by
 intro t ht
 obtain⟨k,hk,rfl⟩:=lksL_mem.1 ht
 have h1:=h.arcs.pos0 hk
 have h2:=h.arcs.pos0 (sigF_lt k hk)
 have h3:=hc k hk
 have h4:=hc _ (sigF_lt k hk)
 refine okT3 ⟨by omega,by omega⟩ ?_ in_1
 show inI64 (if rootB r (sigF r k) then-1 else(at5 r (sigF r k)).c0)
 split
 ·exact in_m1
 ·exact⟨by omega,by omega⟩
theorem lk_rank (h:PartsOk N es lab fl r b) (hf:∀e∈es,inE N e) (hc:∀k,k<r.length→(at5 r k).c0≤1000000000) (hM:r.length≤1000000) {i:Nat} (hi:i<r.length) (hr:rootB r i=true):∀n,n<perA r i→rkV (lksL r) (at5 r (itF (sigF r) n i)).c0=(n:Int)
 |0,_=>rk_first (h.ahead0 hi hr)
 |n+1,hn=>by
  have ih:=h.lk_rank hf hc hM hi hr n (by omega)
  have h1:=h.lk_next hf hi hr hn
  have h2:=rk_next h.lkOkL (h.lkEnds hf) (h.lk_ok hc) (h.lk_in hi n) (by rw[h1];have:=h.arcs.pos0 (itF_lt (f:=sigF r) sigF_lt hi (n+1));omega)
  rw[h1] at h2
  rw[h2]
  show IntKind.wrap .i64 (rkV (lksL r) (at5 r (itF (sigF r) n i)).c0+1)=_
  have hp:=(h.arcs.per hi).2.1
  rw[ih,wrap_i64 ⟨by omega,by omega⟩]
  omega
end PartsOk
abbrev oDE:T5:=⟨4,5,0,0,0⟩
abbrev oBCA:T5:=⟨2,3,1,0,0⟩
theorem ltO_oDE (a b:T5):ltO oDE a b=true↔a.c3<b.c3∨a.c3=b.c3∧a.c4<b.c4:=by
 have hf:formed oDE=true:=by decide
 unfold ltO cmpT
 rw[decide_eq_true_iff,if_pos hf]
 exact cmp33lt a.c3 b.c3 a.c4 b.c4
theorem cmp333lt (x y z w u v:Int):(if cmp3 x y≠0 then cmp3 x y else if cmp3 z w≠0 then cmp3 z w else if cmp3 u v≠0 then cmp3 u v else 0)<0↔x<y∨x=y∧(z<w∨z=w∧u<v):=by unfold cmp3;(repeat' split)<;>omega
theorem ltO_oBCA (a b:T5):ltO oBCA a b=lessB a b:=by
 have hf:formed oBCA=true:=by decide
 unfold ltO cmpT lessB
 rw[if_pos hf]
 exact decide_eq_decide.2 (cmp333lt a.c1 b.c1 a.c2 b.c2 a.c0 b.c0)
def arc0 (f:List T5):List T5:=f.flatMap fun t=>[⟨IntKind.wrap .i64 (2*t.c0),t.c1,t.c2,0,0⟩,⟨IntKind.wrap .i64 (IntKind.wrap .i64 (2*t.c0)+1),t.c2,t.c1,0,0⟩]
def namL (a f:List T5):List T5:=(srt (ltO oBCA) false (arc0 f)).map (lookF a 1 1 3)
def toursO (a f ls:List T5):List T5:=srt (ltO oDE) false ((srt (ltO o1) false (namL a f)).map (lookF (ranksF ls) 0 1 4))
theorem labT_strict (lab:List Int):(labT lab).Pairwise fun x y=>x.c0<y.c0:=by
 unfold labT
 rw[List.pairwise_map]
 exact List.pairwise_lt_range.imp fun hh=>by dsimp only;omega
theorem labT_lk {lab:List Int} {v:Nat} {x:Int} (h:lab[v]? =some x):lkV (labT lab) (v:Int) 1=x:=by
 have hv:=(List.getElem?_eq_some_iff.1 h).1
 have hm:(⟨(v:Int),x,0,0,0⟩:T5)∈labT lab:=by
  unfold labT
  refine List.mem_map.2 ⟨v,List.mem_range.2 hv,?_⟩
  rw[List.getD_eq_getElem?_getD,h];rfl
 exact lkV_some (v:=1) (labT_strict lab) hm rfl
namespace PartsOk
variable {N:Nat} {es:List IE} {lab:List Int} {fl:List Bool} {r b:List T5}
theorem nam_is (h:PartsOk N es lab fl r b) (hf:∀e∈es,inE N e) (hes:es.length≤1000000):namL (labT lab) (forT (edT es) fl)=r:=by
 have hlk:∀{v:Int},0≤v→v<N→lkV (labT lab) v 1=(at5 (labT lab) v.toNat).c1:=by
  intro v h0 h1
  obtain⟨x,hx,_⟩:=h.labs.root (v:=v.toNat) (by omega)
  rw[labT_at hx]
  have:=labT_lk hx
  rwa[Int.toNat_of_nonneg h0] at this
 have hperm:((arc0 (forT (edT es) fl)).map (lookF (labT lab) 1 1 3)).Perm r:=by
  refine List.Perm.trans (List.Perm.of_eq ?_) h.arcs.perm.symm
  unfold arc0 arcsL
  rw[List.map_flatMap]
  refine fmCongr fun t ht=> ?_
  obtain⟨i,d,hd,hfl,rfl⟩:=h.edge ht
  obtain⟨q1,q2,q3,q4⟩:=hf d (List.mem_of_getElem? hd)
  have hi:=(List.getElem?_eq_some_iff.1 hd).1
  have e1:IntKind.wrap .i64 (2*(i:Int))=2*(i:Int):=wrap_i64 ⟨by omega,by omega⟩
  have e2:IntKind.wrap .i64 (2*(i:Int)+1)=2*(i:Int)+1:=wrap_i64 ⟨by omega,by omega⟩
  have hl:=h.hl hf _ ht
  dsimp only at hl
  simp only[List.map_cons,List.map_nil]
  rw[e1,e2]
  unfold arcs2
  show[setc _ 3 (lkV (labT lab) d.1 1),setc _ 3 (lkV (labT lab) d.2 1)]=_
  rw[hlk (by omega) (by omega),hlk (by omega) (by omega),←hl]
  rfl
 have hkeep:∀x y:T5,lessB (lookF (labT lab) 1 1 3 x) (lookF (labT lab) 1 1 3 y)=lessB x y:=fun x y=>rfl
 have hsorted:(namL (labT lab) (forT (edT es) fl)).Pairwise fun x y=>lessB y x=false:=by
  unfold namL
  rw[List.pairwise_map]
  refine(sd_srt (ltO_swo oBCA) false _).imp fun {x y} hh=> ?_
  simp only[Bool.false_eq_true,if_false] at hh
  rw[hkeep,←ltO_oBCA];exact hh
 have hp2:(namL (labT lab) (forT (edT es) fl)).Perm r:=by
  unfold namL
  exact((perm_srt _).map _).trans hperm
 have hnd:(r.map (·.c0)).Nodup:=(h.arcs.perm.map _).nodup_iff.2 (nodup_two h.arcs.nd _)
 refine hp2.eq_of_pairwise (le:=fun x y=>lessB y x=false) (fun x y hx hy h1 h2=> ?_) hsorted h.arcs.sa
 obtain⟨i,hi,rfl⟩:=mem_at5 (hp2.mem_iff.1 hx)
 obtain⟨j,hj,rfl⟩:=mem_at5 hy
 have n1:¬(lessB (at5 r j) (at5 r i)=true):=by rw[h1];decide
 have n2:¬(lessB (at5 r i) (at5 r j)=true):=by rw[h2];decide
 rw[lessB_iff] at n1 n2
 rw[h.arcs.num hi hj (by omega)]
theorem tours_is (h:PartsOk N es lab fl r b) (hf:∀e∈es,inE N e) (hes:es.length≤100000) {ls:List T5} (hp:ls.Perm (lksL r)):errR ls=none∧toursO (labT lab) (forT (edT es) fl) ls=b:=by
 have hrl:=h.len
 have hfl:=forT_len (edT es) fl
 rw[edT_len] at hfl
 have hc:∀k,k<r.length→(at5 r k).c0≤1000000000:=by
  intro k hk
  obtain⟨i,d,x,hd,_,_,_,hx⟩:=h.arc_of hf hk
  have:=(List.getElem?_eq_some_iff.1 hd).1
  rcases hx with hx|hx<;>rw[hx]<;>dsimp only<;>omega
 have hM:r.length≤1000000:=by omega
 have hok:=h.lk_ok hc
 have hok2:∀t∈ls,okT 3 t:=fun t ht=>hok t (hp.mem_iff.1 ht)
 have hll:ls.length<1000000:=by rw[hp.length_eq,lksL_len];omega
 have herr:errR (lksL r)=none:=(errR_iff (by rw[lksL_len];omega) hok).2 ⟨h.lkOkL,h.lkEnds hf⟩
 obtain⟨p1,p2⟩:=ranks_perm hll hok2 hp
 have he2:errR ls=none:=p1.trans herr
 refine⟨he2,?_⟩
 have hrk:=p2 he2
 unfold toursO
 rw[hrk,h.nam_is hf (by omega),ranksF_is h.lkOkL hok,h.tours]
 have hE:=h.lkOkL.toPreL.all
 have hlk:∀k,k<r.length→lkV ((allF (lksL r)).map fun e=>(⟨e.c0,rkV (lksL r) e.c0,0,0,0⟩:T5)) (at5 r k).c0 1=rkV (lksL r) (at5 r k).c0:=by
  intro k hk
  have hm:(⟨(at5 r k).c0,rkV (lksL r) (at5 r k).c0,0,0,0⟩:T5)∈(allF (lksL r)).map fun e=>(⟨e.c0,rkV (lksL r) e.c0,0,0,0⟩:T5):=
   List.mem_map.2 ⟨⟨(at5 r k).c0,0,0,0,0⟩,allF_mem.2 ⟨lkE r k,lksL_mem.2 ⟨k,hk,rfl⟩,rfl⟩,rfl⟩
  have hst:((allF (lksL r)).map fun e=>(⟨e.c0,rkV (lksL r) e.c0,0,0,0⟩:T5)).Pairwise fun a c=>a.c0<c.c0:=List.pairwise_map.2 (hE.imp fun hh=>hh)
  exact lkV_some (v:=1) hst hm rfl
 generalize hrs:((allF (lksL r)).map fun e=>(⟨e.c0,rkV (lksL r) e.c0,0,0,0⟩:T5))=rs at*
 have hperm:((srt (ltO o1) false r).map (lookF rs 0 1 4)).Perm (toursF r):=by
  refine((perm_srt _).map _).trans ?_
  have h1:(r.map (lookF rs 0 1 4)).Perm ((idxTo r r.length).map fun k=>lookF rs 0 1 4 (at5 r k)):=by
   have h2:r.map (lookF rs 0 1 4)=(List.range r.length).map fun k=>lookF rs 0 1 4 (at5 r k):=by
    conv=>lhs;rw[←range_at5 r,List.map_map]
    rfl
   rw[h2]
   exact((h.idx_perm hf).map _).symm
  refine h1.trans (List.Perm.of_eq ?_)
  unfold idxTo toursF toursTo
  rw[List.map_flatMap]
  refine fmCongr fun i hi=> ?_
  have hi:=List.mem_range.1 hi
  by_cases hr:rootB r i=true
  ·rw[if_pos hr,if_pos hr,List.map_map]
   unfold tourL
   refine List.map_congr_left fun n hn=> ?_
   have hn:=List.mem_range.1 hn
   have hk:=itF_lt (f:=sigF r) sigF_lt hi n
   show setc (at5 r (itF (sigF r) n i)) 4 (lkV rs (at5 r (itF (sigF r) n i)).c0 1)=arcAt r i n
   rw[hlk _ hk,h.lk_rank hf hc hM hi hr n hn]
   rfl
  ·rw[if_neg hr,if_neg hr];rfl
 refine srtOf hperm.symm ?_
 unfold toursF toursTo
 rw[List.pairwise_flatMap]
 constructor
 ·intro i hi
  have hi:=List.mem_range.1 hi
  split
  ·unfold tourL
   rw[List.pairwise_map]
   refine List.pairwise_lt_range.imp fun {n m} hnm=> ?_
   rw[ltO_oDE]
   have h1:=h.arcs.it_lab (h.hl hf) hi n
   have h2:=h.arcs.it_lab (h.hl hf) hi m
   right
   unfold arcAt
   dsimp only
   exact⟨h1.trans h2.symm,by omega⟩
  ·exact List.Pairwise.nil
 ·rw[List.pairwise_iff_getElem]
  intro i j hi hj hij x hx y hy
  rw[List.length_range] at hi hj
  simp only[List.getElem_range] at hx hy
  split at hx
  next hri=>
   split at hy
   next hrj=>
    unfold tourL at hx hy
    obtain⟨n,_,rfl⟩:=List.mem_map.1 hx
    obtain⟨m,_,rfl⟩:=List.mem_map.1 hy
    rw[ltO_oDE]
    left
    have h1:=h.arcs.it_lab (h.hl hf) hi n
    have h2:=h.arcs.it_lab (h.hl hf) hj m
    have h3:=h.arcs.root_uniq hij hj hri hrj
    have h4:=at5le h.arcs.sa (show i≤j by omega) hj
    have h5:=hri
    have h6:=hrj
    unfold rootB at h5 h6
    have h5:=(of_decide_eq_true h5).1
    have h6:=(of_decide_eq_true h6).1
    unfold arcAt
    dsimp only
    omega
   next=>simp at hy
  next=>simp at hx
end PartsOk
def xr1 (x:Int):Int:=bits2 .xor .i64 x 1
theorem xor_one (n:Nat):n^^^1=if n%2=0 then n+1 else n-1:=by
 have h1:(n^^^1)/2=n/2:=by rw[Nat.xor_div_two];simp
 have h2:(n^^^1)%2=(n+1)%2:=by
  have h3:(n^^^1).testBit 0=(n.testBit 0^^Nat.testBit 1 0):=Nat.testBit_xor n 1 0
  rw[Nat.testBit_zero,Nat.testBit_zero,Nat.testBit_zero] at h3
  by_cases h4:n%2=1
  ·by_cases h5:(n^^^1)%2=1
   ·simp[h4,h5] at h3
   ·omega
  ·by_cases h5:(n^^^1)%2=1
   ·omega
   ·simp[h4,h5] at h3
 split<;>omega
theorem xr1flip {x:Int} (h0:0≤x) (h:x≤4398046511104):xr1 x=flipF x:=by
 obtain⟨n,rfl⟩:∃n:Nat,x=(n:Int):=⟨x.toNat,by omega⟩
 have e:(BitVec.ofInt 64 (n:Int)^^^BitVec.ofInt 64 1).toNat=n^^^1:=by
  rw[BitVec.toNat_xor]
  have e1:(BitVec.ofInt 64 (n:Int)).toNat=n:=by
   rw[BitVec.toNat_ofInt]
   omega
  have e2:(BitVec.ofInt 64 1).toNat=1:=by decide
  rw[e1,e2]
 show IntKind.wrap .i64 (((BitVec.ofInt 64 (n:Int)^^^BitVec.ofInt 64 1).toNat:Nat):Int)=_
 rw[e,xor_one]
 unfold flipF
 rw[wrap_i64 (by split<;>omega)]
 split<;>split<;>omega
def lnk (fi la be:T5):T5:=⟨xr1 la.c0,if be=fi∧la.c1=la.c3 then-1 else be.c0,1,0,0⟩
abbrev TnS:=T5×T5×Bool
def tnO (k:TnS) (t:T5):List T5:=if k.2.2=true then(if k.2.1.c1=t.c1 then[lnk k.1 k.2.1 t] else[lnk k.1 k.2.1 k.1]) else[]
def tnN (k:TnS) (t:T5):TnS:=(if k.2.2=true∧k.2.1.c1=t.c1 then k.1 else t,t,true)
def tnF (k:TnS):List T5:=if k.2.2=true then[lnk k.1 k.2.1 k.1] else[]
def tnM (Cx:TnS→Hp):Maker TnS:=⟨Cx,tnO,tnN,fun _ _=>none⟩
abbrev tn0:TnS:=(⟨0,0,0,0,0⟩,⟨0,0,0,0,0⟩,false)
def lnkL (r:List T5):List T5:=(tnM fun _=>[]).all tn0 r++tnF ((tnM fun _=>[]).st tn0 r)
def entE (r:List T5) (j:Nat):T5:=lnk (at5 r (headF r j)) (at5 r j) (at5 r (behindF r j))
theorem tn_take {r:List T5}:∀{k:Nat},k<r.length→(tnM fun _=>[]).st tn0 (r.take (k+1))=(at5 r (headF r k),at5 r k,true)∧(tnM fun _=>[]).all tn0 (r.take (k+1))=(List.range k).map (entE r)
 |0,h=>by
  have h0:=at5get h
  rw[Maker.take_succ h0,List.take_zero]
  exact⟨rfl,rfl⟩
 |k+1,h=>by
  have h0:=at5get h
  obtain⟨i1,i2⟩:=tn_take (r:=r) (k:=k) (by omega)
  rw[Maker.take_succ h0,Maker.st_app,Maker.all_app,i1,i2]
  by_cases hc:(at5 r k).c1=(at5 r (k+1)).c1
  ·have hh:headF r (k+1)=headF r k:=by rw[headF];exact if_pos hc
   have hb:behindF r k=k+1:=by unfold behindF;rw[if_pos ⟨h,hc.symm⟩]
   constructor
   ·show tnN (at5 r (headF r k),at5 r k,true) (at5 r (k+1))=_
    unfold tnN
    rw[if_pos ⟨rfl,hc⟩,hh]
   ·rw[List.range_succ,List.map_append]
    congr 1
    show tnO (at5 r (headF r k),at5 r k,true) (at5 r (k+1))++[]=[entE r k]
    unfold tnO entE
    rw[if_pos rfl,if_pos hc,hb];rfl
  ·have hh:headF r (k+1)=k+1:=by rw[headF];exact if_neg hc
   have hb:behindF r k=headF r k:=by unfold behindF;rw[if_neg fun h2=>hc h2.2.symm]
   constructor
   ·show tnN (at5 r (headF r k),at5 r k,true) (at5 r (k+1))=_
    unfold tnN
    rw[if_neg fun h2=>hc h2.2,hh]
   ·rw[List.range_succ,List.map_append]
    congr 1
    show tnO (at5 r (headF r k),at5 r k,true) (at5 r (k+1))++[]=[entE r k]
    unfold tnO entE
    rw[if_pos rfl,if_neg hc,hb];rfl
theorem lnkL_is (r:List T5):lnkL r=(List.range r.length).map (entE r):=by
 unfold lnkL
 by_cases h:r.length=0
 ·have:r=[]:=List.eq_nil_of_length_eq_zero h
  subst this;rfl
 ·obtain⟨k,hk⟩:∃k,r.length=k+1:=⟨r.length-1,by omega⟩
  obtain⟨i1,i2⟩:=tn_take (r:=r) (k:=k) (by omega)
  rw[←hk,List.take_length] at i1 i2
  rw[i1,i2,hk,List.range_succ,List.map_append]
  congr 1
  have hb:behindF r k=headF r k:=by unfold behindF;rw[if_neg fun h2=>by omega]
  show tnF (at5 r (headF r k),at5 r k,true)=[entE r k]
  unfold tnF entE
  rw[if_pos rfl,hb]
namespace PartsOk
variable {N:Nat} {es:List IE} {lab:List Int} {fl:List Bool} {r b:List T5}
theorem ent_is (h:PartsOk N es lab fl r b) (hf:∀e∈es,inE N e) (hc:∀k,k<r.length→(at5 r k).c0≤4398046511104) {j:Nat} (hj:j<r.length):entE r j=lkE r (brotherF r j):=by
 have hbj:=h.arcs.bro hj
 have hsig:sigF r (brotherF r j)=behindF r j:=by unfold sigF;rw[h.arcs.bro_bro hj]
 have hhl:headF r j<r.length:=Nat.lt_of_le_of_lt (headF_le r j) hj
 have hbl:=behindF_lt hj
 unfold entE lnk lkE
 rw[hsig,hbj,xr1flip (h.arcs.pos0 hj) (hc j hj)]
 have hiff:(at5 r (behindF r j)=at5 r (headF r j)∧(at5 r j).c1=(at5 r j).c3)↔rootB r (behindF r j)=true:=by
  have hlab:=fun {k:Nat} (hk:k<r.length)=>h.arcs.lab (h.hl hf) hk
  constructor
  ·rintro⟨h1,h2⟩
   have h3:=h.arcs.num hbl hhl (by rw[h1])
   rw[h3]
   unfold rootB
   refine decide_eq_true ⟨?_,fun h0=> ?_⟩
   ·rw[hlab hhl,headF_same r j,←hlab hj];exact h2
   ·obtain⟨m,hm⟩:∃m,headF r j=m+1:=⟨headF r j-1,by omega⟩
    have:=headF_head r hm
    rw[hm];exact this
  ·intro h1
   unfold rootB at h1
   obtain⟨h2,h3⟩:=of_decide_eq_true h1
   have h5:behindF r j=headF r j:=by
    unfold behindF
    split
    next hc2=>
     exfalso
     have h4:behindF r j=j+1:=by unfold behindF;rw[if_pos hc2]
     rw[h4] at h3
     exact h3 (by omega) (by rw[show j+1-1=j by omega];exact hc2.2.symm)
    next=>rfl
   refine⟨by rw[h5],?_⟩
   rw[hlab hbl,behindF_from] at h2
   rw[hlab hj];exact h2
 by_cases hr:rootB r (behindF r j)=true
 ·rw[if_pos (hiff.2 hr),if_pos hr]
 ·rw[if_neg fun h2=>hr (hiff.1 h2),if_neg hr]
theorem lnk_perm (h:PartsOk N es lab fl r b) (hf:∀e∈es,inE N e) (hc:∀k,k<r.length→(at5 r k).c0≤4398046511104):(lnkL r).Perm (lksL r):=by
 rw[lnkL_is]
 have h1:(List.range r.length).map (entE r)=((List.range r.length).map (brotherF r)).map (lkE r):=by
  rw[List.map_map]
  exact List.map_congr_left fun j hj=>h.ent_is hf hc (List.mem_range.1 hj)
 rw[h1]
 unfold lksL
 refine List.Perm.map _ ?_
 have hnd:((List.range r.length).map (brotherF r)).Nodup:=by
  refine List.pairwise_map.2 ?_
  rw[List.pairwise_iff_getElem]
  intro i j hi hj hij
  rw[List.length_range] at hi hj
  simp only[List.getElem_range]
  intro he
  have:=h.arcs.bro_inj hi hj he
  omega
 rw[List.perm_ext_iff_of_nodup hnd List.nodup_range]
 intro k
 rw[List.mem_map,List.mem_range]
 constructor
 ·rintro⟨j,hj,rfl⟩
  exact brotherF_lt (List.mem_range.1 hj)
 ·intro hk
  exact⟨brotherF r k,List.mem_range.2 (brotherF_lt hk),h.arcs.bro_bro hk⟩
end PartsOk
end Go.Proofs.YtammjnjpheobaaaGreat
namespace Go.Proofs.YtammjnjpheobaaaGreat
open Go.SL Go.Spc Go.Tup Go.Srt
def trAF (t:T5):List T5:=[⟨IntKind.wrap .i64 (2*t.c0),t.c1,t.c2,0,0⟩,⟨IntKind.wrap .i64 (IntKind.wrap .i64 (2*t.c0)+1),t.c2,t.c1,0,0⟩]
theorem trA:MakeU (mFl [] (trAF)) 3 (fun _ t=>okT 3 t) 43 [] []:=by
 rintro bx Pst Br bnd hP ps X ⟨⟩ t hX hk hb
 have htv:tv t= .agg #[.int .i64 t.c0,.int .i64 t.c1,.int .i64 t.c2,.int .i64 t.c3,.int .i64 t.c4]:=rfl
 rw[htv]
 unfold putV
 simp only[List.nil_append,List.cons_append]
 show Ct _ _ _ [X] _
 have ti:=okT_cols hk
 have ho:(mFl [] (trAF)).outs () t=[⟨IntKind.wrap .i64 (2*t.c0),t.c1,t.c2,0,0⟩,⟨IntKind.wrap .i64 (IntKind.wrap .i64 (2*t.c0)+1),t.c2,t.c1,0,0⟩]:=by show trAF t=_;unfold trAF;rfl
 have hb':ps.length+2≤bnd:=by rw[ho] at hb;exact hb
 have hP1:=hP ps X ⟨IntKind.wrap .i64 (2*t.c0),t.c1,t.c2,0,0⟩ hX (by first|exact hk|exact okT3 (wrap_in _) (by first|exact ti.1|exact ti.2.1|exact ti.2.2.1|exact ti.2.2.2.1|exact ti.2.2.2.2) (by first|exact ti.1|exact ti.2.1|exact ti.2.2.1|exact ti.2.2.2.1|exact ti.2.2.2.2)|exact okT3 (by first|exact ti.1|exact ti.2.1|exact ti.2.2.1|exact ti.2.2.2.1|exact ti.2.2.2.2|exact in_0|exact in_1|exact in_m1|exact wrap_in _|assumption|(unfold inI64 at*;omega)) (by first|exact ti.1|exact ti.2.1|exact ti.2.2.1|exact ti.2.2.2.1|exact ti.2.2.2.2|exact in_0|exact in_1|exact in_m1|exact wrap_in _|assumption|(unfold inI64 at*;omega)) (by first|exact ti.1|exact ti.2.1|exact ti.2.2.1|exact ti.2.2.2.1|exact ti.2.2.2.2|exact in_0|exact in_1|exact in_m1|exact wrap_in _|assumption|(unfold inI64 at*;omega))) (by omega)
 rw[show tv ⟨IntKind.wrap .i64 (2*t.c0),t.c1,t.c2,0,0⟩= .agg #[.int .i64 (IntKind.wrap .i64 (2*t.c0)),.int .i64 t.c1,.int .i64 t.c2,.int .i64 0,.int .i64 0] from rfl] at hP1
 have hP2:=fun X' h=>hP (ps++[⟨IntKind.wrap .i64 (2*t.c0),t.c1,t.c2,0,0⟩]) X' ⟨IntKind.wrap .i64 (IntKind.wrap .i64 (2*t.c0)+1),t.c2,t.c1,0,0⟩ h (by first|exact hk|exact okT3 (wrap_in _) (by first|exact ti.1|exact ti.2.1|exact ti.2.2.1|exact ti.2.2.2.1|exact ti.2.2.2.2) (by first|exact ti.1|exact ti.2.1|exact ti.2.2.1|exact ti.2.2.2.1|exact ti.2.2.2.2)|exact okT3 (by first|exact ti.1|exact ti.2.1|exact ti.2.2.1|exact ti.2.2.2.1|exact ti.2.2.2.2|exact in_0|exact in_1|exact in_m1|exact wrap_in _|assumption|(unfold inI64 at*;omega)) (by first|exact ti.1|exact ti.2.1|exact ti.2.2.1|exact ti.2.2.2.1|exact ti.2.2.2.2|exact in_0|exact in_1|exact in_m1|exact wrap_in _|assumption|(unfold inI64 at*;omega)) (by first|exact ti.1|exact ti.2.1|exact ti.2.2.1|exact ti.2.2.2.1|exact ti.2.2.2.2|exact in_0|exact in_1|exact in_m1|exact wrap_in _|assumption|(unfold inI64 at*;omega))) (by rw[List.length_append,List.length_singleton];omega)
 rw[show tv ⟨IntKind.wrap .i64 (IntKind.wrap .i64 (2*t.c0)+1),t.c2,t.c1,0,0⟩= .agg #[.int .i64 (IntKind.wrap .i64 (IntKind.wrap .i64 (2*t.c0)+1)),.int .i64 t.c2,.int .i64 t.c1,.int .i64 0,.int .i64 0] from rfl] at hP2
 refine Ct.intro Tryz.func43 rfl Tryz.ntmps43 (nle rfl) fun w0=> ?_;dsimp only[argSlots,Nat.reduceAdd]
 repeat(refine st ?_;intros)
 refine R.callV (hct:=by exact hP1) (h:= ?_)
 rintro _ _ ⟨X',rfl,⟨rfl,hX'⟩|⟨rfl,hB⟩⟩
 try dsimp only[List.cons_append,List.nil_append]
 ·repeat(refine st ?_;intros)
  refine R.callV (hct:=by exact hP2 _ hX') (h:= ?_)
  rintro _ _ ⟨X2,rfl,⟨rfl,hX2⟩|⟨rfl,hB⟩⟩
  try dsimp only[List.cons_append,List.nil_append]
  ·repeat(refine st ?_;intros)
   (refine Dn.post (Hr:=[X2]) Tryz.results43 (hR:= ?_);exact⟨X2,(),rfl,.inl ⟨rfl,rfl,(by trivial),by rw[ho];simpa using hX2⟩⟩)
  ·repeat(refine st ?_;intros)
   (refine Dn.post (Hr:=[X2]) Tryz.results43 (hR:= ?_);exact⟨X2,(),rfl,.inr (.inl ⟨rfl,hB⟩)⟩)
 ·repeat(refine st ?_;intros)
  (refine Dn.post (Hr:=[X']) Tryz.results43 (hR:= ?_);exact⟨X',(),rfl,.inr (.inl ⟨rfl,hB⟩)⟩)
def tnC (bt:Nat) (k:TnS):Chunk:=[(bt,row [.int .i64 k.1.c0,.int .i64 k.1.c1,.int .i64 k.1.c2,.int .i64 k.1.c3,.int .i64 k.1.c4,.int .i64 k.2.1.c0,.int .i64 k.2.1.c1,.int .i64 k.2.1.c2,.int .i64 k.2.1.c3,.int .i64 k.2.1.c4,.bool k.2.2] 143)]
theorem xr1in (x:Int):inI64 (xr1 x):=wrap_in _
theorem lnk_ok {fi la be:T5} (h:inI64 be.c0):okT 3 (lnk fi la be):=by
 unfold lnk
 refine okT3 (xr1in _) ?_ ⟨by decide,by decide⟩
 split
 ·exact⟨by decide,by decide⟩
 ·exact h
theorem link_ct (bt bx:Nat) (k:TnS) (be:T5) (X:Chunk) (Q:Value→Chunk→Prop) (hP:PutC bx (lnk k.1 k.2.1 be) X Q):
  Ct Tryz.prog 91 [pv bt,tv be,putV bx] [X,tnC bt k] fun v H'=>∃X',H'=[X',tnC bt k]∧Q v X':=by
 have htv:tv be= .agg #[.int .i64 be.c0,.int .i64 be.c1,.int .i64 be.c2,.int .i64 be.c3,.int .i64 be.c4]:=rfl
 obtain⟨⟨f0,f1,f2,f3,f4⟩,⟨l0,l1,l2,l3,l4⟩,so⟩:=k
 obtain⟨b0,b1,b2,b3,b4⟩:=be
 rw[htv]
 unfold PutC at hP
 unfold tnC putV
 dsimp only at hP⊢
 have hx:∀x:Int,bits2 .xor .i64 x 1=xr1 x:=fun _=>rfl
 by_cases h5:b0=f0∧b1=f1∧b2=f2∧b3=f3∧b4=f4
 ·obtain⟨rfl,rfl,rfl,rfl,rfl⟩:=h5
  by_cases hl:l1=l3
  ·have hl':lnk ⟨b0,b1,b2,b3,b4⟩ ⟨l0,l1,l2,l3,l4⟩ ⟨b0,b1,b2,b3,b4⟩=⟨xr1 l0,-1,1,0,0⟩:=by unfold lnk;rw[if_pos ⟨rfl,hl⟩]
   rw[hl'] at hP
   have hP1:Ct Tryz.prog 74 [pv bx,.agg #[.int .i64 (bits2 .xor .i64 l0 1),.int .i64 (-1),.int .i64 1,.int .i64 0,.int .i64 0]] [X] (TailR Q):=hP
   refine Ct.intro Tryz.func91 rfl Tryz.ntmps91 (nle rfl) fun w0=> ?_;dsimp only[argSlots,Nat.reduceAdd]
   repeat(first|(refine st ?_;intros)|refine G.draw [] (h:= ?_))
   refine R.callV (hct:=by exact hP1) (h:= ?_)
   rintro _ _ ⟨X',rfl,hX'⟩
   try dsimp only[List.cons_append,List.nil_append]
   repeat(first|(refine st ?_;intros)|refine G.draw [] (h:= ?_))
   (refine Dn.post (Hr:=[X',[(bt,row [.int .i64 b0,.int .i64 b1,.int .i64 b2,.int .i64 b3,.int .i64 b4,.int .i64 l0,.int .i64 l1,.int .i64 l2,.int .i64 l3,.int .i64 l4,.bool so] 143)]]) Tryz.results91 (hR:= ?_);exact⟨X',rfl,hX'⟩)
  ·have hl':lnk ⟨b0,b1,b2,b3,b4⟩ ⟨l0,l1,l2,l3,l4⟩ ⟨b0,b1,b2,b3,b4⟩=⟨xr1 l0,b0,1,0,0⟩:=by unfold lnk;rw[if_neg fun h=>hl h.2]
   rw[hl'] at hP
   have hP1:Ct Tryz.prog 74 [pv bx,.agg #[.int .i64 (bits2 .xor .i64 l0 1),.int .i64 b0,.int .i64 1,.int .i64 0,.int .i64 0]] [X] (TailR Q):=hP
   refine Ct.intro Tryz.func91 rfl Tryz.ntmps91 (nle rfl) fun w0=> ?_;dsimp only[argSlots,Nat.reduceAdd]
   repeat(first|(refine st ?_;intros)|refine G.draw [] (h:= ?_))
   refine R.callV (hct:=by exact hP1) (h:= ?_)
   rintro _ _ ⟨X',rfl,hX'⟩
   try dsimp only[List.cons_append,List.nil_append]
   repeat(first|(refine st ?_;intros)|refine G.draw [] (h:= ?_))
   (refine Dn.post (Hr:=[X',[(bt,row [.int .i64 b0,.int .i64 b1,.int .i64 b2,.int .i64 b3,.int .i64 b4,.int .i64 l0,.int .i64 l1,.int .i64 l2,.int .i64 l3,.int .i64 l4,.bool so] 143)]]) Tryz.results91 (hR:= ?_);exact⟨X',rfl,hX'⟩)
 ·have hl':lnk ⟨f0,f1,f2,f3,f4⟩ ⟨l0,l1,l2,l3,l4⟩ ⟨b0,b1,b2,b3,b4⟩=⟨xr1 l0,b0,1,0,0⟩:=by
   unfold lnk
   rw[if_neg]
   rintro⟨h,_⟩
   cases h;exact h5 ⟨rfl,rfl,rfl,rfl,rfl⟩
  rw[hl'] at hP
  have hP1:Ct Tryz.prog 74 [pv bx,.agg #[.int .i64 (bits2 .xor .i64 l0 1),.int .i64 b0,.int .i64 1,.int .i64 0,.int .i64 0]] [X] (TailR Q):=hP
  refine Ct.intro Tryz.func91 rfl Tryz.ntmps91 (nle rfl) fun w0=> ?_;dsimp only[argSlots,Nat.reduceAdd]
  repeat(first|(refine st ?_;intros)|refine G.draw [] (h:= ?_))
  refine R.callV (hct:=by exact hP1) (h:= ?_)
  rintro _ _ ⟨X',rfl,hX'⟩
  try dsimp only[List.cons_append,List.nil_append]
  repeat(first|(refine st ?_;intros)|refine G.draw [] (h:= ?_))
  (refine Dn.post (Hr:=[X',[(bt,row [.int .i64 f0,.int .i64 f1,.int .i64 f2,.int .i64 f3,.int .i64 f4,.int .i64 l0,.int .i64 l1,.int .i64 l2,.int .i64 l3,.int .i64 l4,.bool so] 143)]]) Tryz.results91 (hR:= ?_);exact⟨X',rfl,hX'⟩)
def tnOk (k:TnS) (t:T5):Prop:=okT 4 t∧okT 4 k.1∧okT 4 k.2.1
theorem see_mk (bt:Nat):MakeU (tnM fun k=>[tnC bt k]) 3 tnOk 88 [pv bt] []:=by
 rintro bx Pst Br bnd hP ps X k t hX ⟨hkt,hk1,hk2⟩ hb
 have htv:∀t:T5,tv t= .agg #[.int .i64 t.c0,.int .i64 t.c1,.int .i64 t.c2,.int .i64 t.c3,.int .i64 t.c4]:=fun _=>rfl
 obtain⟨⟨f0,f1,f2,f3,f4⟩,⟨l0,l1,l2,l3,l4⟩,so⟩:=k
 obtain⟨b0,b1,b2,b3,b4⟩:=t
 have hL:∀be:T5,inI64 be.c0→ps.length<bnd→PutC bx (lnk ⟨f0,f1,f2,f3,f4⟩ ⟨l0,l1,l2,l3,l4⟩ be) X fun v X'=>(v= .int .i64 0∧Pst (ps++[lnk ⟨f0,f1,f2,f3,f4⟩ ⟨l0,l1,l2,l3,l4⟩ be]) X')∨(v= .int .i64 6∧Br X'):=fun be h1 h2=>hP ps X _ hX (lnk_ok h1) h2
 have hLk:=fun be h1 h2=>link_ct bt bx (⟨f0,f1,f2,f3,f4⟩,⟨l0,l1,l2,l3,l4⟩,so) be X _ (hL be h1 h2)
 simp only[tnM] at hb⊢
 unfold tnO at hb
 unfold tnC at hLk⊢
 unfold putV at hLk⊢
 rw[htv]
 simp only[htv] at hLk
 dsimp only at hLk hb⊢
 simp only[List.nil_append,List.cons_append]
 cases so with
 |false=>
  refine Ct.intro Tryz.func88 rfl Tryz.ntmps88 (nle rfl) fun w0=> ?_;dsimp only[argSlots,Nat.reduceAdd]
  repeat(first|(refine st ?_;intros)|refine G.draw [] (h:= ?_))
  (refine Dn.post (Hr:=[X,[(bt,row [.int .i64 b0,.int .i64 b1,.int .i64 b2,.int .i64 b3,.int .i64 b4,.int .i64 b0,.int .i64 b1,.int .i64 b2,.int .i64 b3,.int .i64 b4,.bool true] 143)]]) Tryz.results88 (hR:= ?_);exact⟨X,(⟨b0,b1,b2,b3,b4⟩,⟨b0,b1,b2,b3,b4⟩,true),rfl,.inl ⟨rfl,trivial,rfl,by simpa[tnO] using hX⟩⟩)
 |true=>
 rw[if_pos rfl] at hb
 by_cases hc:l1=b1
 ·rw[if_pos hc] at hb
  have hL1:=hLk ⟨b0,b1,b2,b3,b4⟩ (okT_cols hkt).1 hb
  dsimp only at hL1
  have ho:tnO (⟨f0,f1,f2,f3,f4⟩,⟨l0,l1,l2,l3,l4⟩,true) ⟨b0,b1,b2,b3,b4⟩=[lnk ⟨f0,f1,f2,f3,f4⟩ ⟨l0,l1,l2,l3,l4⟩ ⟨b0,b1,b2,b3,b4⟩]:=by unfold tnO;rw[if_pos rfl,if_pos hc]
  have hn:tnN (⟨f0,f1,f2,f3,f4⟩,⟨l0,l1,l2,l3,l4⟩,true) ⟨b0,b1,b2,b3,b4⟩=(⟨f0,f1,f2,f3,f4⟩,⟨b0,b1,b2,b3,b4⟩,true):=by unfold tnN;rw[if_pos ⟨rfl,hc⟩]
  refine Ct.intro Tryz.func88 rfl Tryz.ntmps88 (nle rfl) fun w0=> ?_;dsimp only[argSlots,Nat.reduceAdd]
  repeat(first|(refine st ?_;intros)|refine G.draw [] (h:= ?_))
  refine R.call (hct:=hL1) (h:= ?_)
  rintro _ _ ⟨X',rfl,⟨rfl,hX'⟩|⟨rfl,hB⟩⟩
  try dsimp only[List.cons_append,List.nil_append]
  ·repeat(first|(refine st ?_;intros)|refine G.draw [] (h:= ?_))
   (refine Dn.post (Hr:=[X',[(bt,row [.int .i64 f0,.int .i64 f1,.int .i64 f2,.int .i64 f3,.int .i64 f4,.int .i64 b0,.int .i64 b1,.int .i64 b2,.int .i64 b3,.int .i64 b4,.bool true] 143)]]) Tryz.results88 (hR:= ?_);exact⟨X',(⟨f0,f1,f2,f3,f4⟩,⟨b0,b1,b2,b3,b4⟩,true),rfl,.inl ⟨rfl,trivial,hn.symm,by rw[ho];exact hX'⟩⟩)
  ·repeat(first|(refine st ?_;intros)|refine G.draw [] (h:= ?_))
   (refine Dn.post (Hr:=[X',[(bt,row [.int .i64 f0,.int .i64 f1,.int .i64 f2,.int .i64 f3,.int .i64 f4,.int .i64 b0,.int .i64 b1,.int .i64 b2,.int .i64 b3,.int .i64 b4,.bool true] 143)]]) Tryz.results88 (hR:= ?_);exact⟨X',(⟨f0,f1,f2,f3,f4⟩,⟨b0,b1,b2,b3,b4⟩,true),rfl,.inr (.inl ⟨rfl,hB⟩)⟩)
 ·rw[if_neg hc] at hb
  have hL1:=hLk ⟨f0,f1,f2,f3,f4⟩ (okT_cols hk1).1 hb
  dsimp only at hL1
  have ho:tnO (⟨f0,f1,f2,f3,f4⟩,⟨l0,l1,l2,l3,l4⟩,true) ⟨b0,b1,b2,b3,b4⟩=[lnk ⟨f0,f1,f2,f3,f4⟩ ⟨l0,l1,l2,l3,l4⟩ ⟨f0,f1,f2,f3,f4⟩]:=by unfold tnO;rw[if_pos rfl,if_neg hc]
  have hn:tnN (⟨f0,f1,f2,f3,f4⟩,⟨l0,l1,l2,l3,l4⟩,true) ⟨b0,b1,b2,b3,b4⟩=(⟨b0,b1,b2,b3,b4⟩,⟨b0,b1,b2,b3,b4⟩,true):=by unfold tnN;rw[if_neg fun h=>hc h.2]
  refine Ct.intro Tryz.func88 rfl Tryz.ntmps88 (nle rfl) fun w0=> ?_;dsimp only[argSlots,Nat.reduceAdd]
  repeat(first|(refine st ?_;intros)|refine G.draw [] (h:= ?_))
  refine R.call (hct:=hL1) (h:= ?_)
  rintro _ _ ⟨X',rfl,⟨rfl,hX'⟩|⟨rfl,hB⟩⟩
  try dsimp only[List.cons_append,List.nil_append]
  ·repeat(first|(refine st ?_;intros)|refine G.draw [] (h:= ?_))
   (refine Dn.post (Hr:=[X',[(bt,row [.int .i64 b0,.int .i64 b1,.int .i64 b2,.int .i64 b3,.int .i64 b4,.int .i64 b0,.int .i64 b1,.int .i64 b2,.int .i64 b3,.int .i64 b4,.bool true] 143)]]) Tryz.results88 (hR:= ?_);exact⟨X',(⟨b0,b1,b2,b3,b4⟩,⟨b0,b1,b2,b3,b4⟩,true),rfl,.inl ⟨rfl,trivial,hn.symm,by rw[ho];exact hX'⟩⟩)
  ·repeat(first|(refine st ?_;intros)|refine G.draw [] (h:= ?_))
   (refine Dn.post (Hr:=[X',[(bt,row [.int .i64 b0,.int .i64 b1,.int .i64 b2,.int .i64 b3,.int .i64 b4,.int .i64 b0,.int .i64 b1,.int .i64 b2,.int .i64 b3,.int .i64 b4,.bool true] 143)]]) Tryz.results88 (hR:= ?_);exact⟨X',(⟨b0,b1,b2,b3,b4⟩,⟨b0,b1,b2,b3,b4⟩,true),rfl,.inr (.inl ⟨rfl,hB⟩)⟩)
def linkH (bj b2 b3 b6 b5 bt:Nat) (f lf:Fl) (k:TnS):Hp:=[[(b2,row [pv bj] 82)],[(b3,row (fl4 f) 27)],[(b6,row (fl4 lf) 27)],[(b5,row [pv bt] 141)],tnC bt k]
theorem lastLink (bw bd ba bs:Nat) (W2:Wk) (cd2 ca2 cs2:Chunk) (hW2:Wc bd ba bs W2 cd2 ca2 cs2) (bx first nb n:Nat) (g:Gr) (ps:List T5) (cx2 cb2:Chunk) (hw2:IsWr bw bx W2 first nb 3 n g ps cx2 cb2) (Gs:List Gr) (hg:W2.α.gs.Perm (g::Gs)) (Lv:List Ext) (hl:LvOf first nb Lv W2.live) (hlt:ps.length<n) (bt:Nat) (k:TnS) (be:T5) (hbe:inI64 be.c0) (hac:W2.δ.acts≤1000000000000) (hh:1≤holds W2.δ.size 3):
  Ct Tryz.prog 91 [pv bt,tv be,putV bx] [wrow bw bd ba bs,cd2,ca2,cs2,cx2,cb2,tnC bt k] fun v H'=>
   ∃cd' ca' cs' W' cx' cb' e,v= .int .i64 e∧H'=[wrow bw bd ba bs,cd',ca',cs',cx',cb',tnC bt k]∧Wc bd ba bs W' cd' ca' cs'∧Ev W2 W' 1 0∧Keep Lv W2 W'∧
    ((e=0∧W'.α.gs.Perm (g::Gs)∧LvOf first nb Lv W'.live∧IsWr bw bx W' first nb 3 n g (ps++[lnk k.1 k.2.1 be]) cx' cb')∨(e=6∧W2.δ.fault≠-1∧WSt bw bx first nb 3 n g Gs Lv W' cx' cb')):=by
 have hPt:=Put_w bw bd ba bs W2 cd2 ca2 cs2 hW2 bx first nb 3 n g ps cx2 cb2 hw2 Gs hg Lv hl hlt (lnk k.1 k.2.1 be) (lnk_ok hbe) hac hh
 have hPC:PutC bx (lnk k.1 k.2.1 be) [wrow bw bd ba bs,cd2,ca2,cs2,cx2,cb2].flatten fun v X'=>∃cd' ca' cs' W' cx' cb' e,v= .int .i64 e∧X'=[wrow bw bd ba bs,cd',ca',cs',cx',cb'].flatten∧Wc bd ba bs W' cd' ca' cs'∧Ev W2 W' 1 0∧Keep Lv W2 W'∧
    ((e=0∧W'.α.gs.Perm (g::Gs)∧LvOf first nb Lv W'.live∧IsWr bw bx W' first nb 3 n g (ps++[lnk k.1 k.2.1 be]) cx' cb')∨(e=6∧W2.δ.fault≠-1∧WSt bw bx first nb 3 n g Gs Lv W' cx' cb')):=by
  refine Ct.convP hPt (by simp) ?_
  rintro v H' ⟨cd',ca',cs',W',cx',cb',e,rfl,rfl,h⟩
  exact⟨_,⟨_,rfl,cd',ca',cs',W',cx',cb',e,rfl,rfl,h⟩,by simp⟩
 refine Ct.convP (link_ct bt bx k be _ _ hPC) (by simp) ?_
 rintro v H' ⟨X',rfl,cd',ca',cs',W',cx',cb',e,rfl,rfl,h⟩
 exact⟨_,⟨cd',ca',cs',W',cx',cb',e,rfl,rfl,h⟩,by simp⟩
theorem linked_step (p:Jp) (hp:p.Ok) (J:Jb) (he:J.e=0) (f lf:Fl) (ls:List T5) (hs:(lf,ls)∈J.G∨In0 p (lf,ls)) (hcn:lf.count≤100000) (hfn:f.count≤100000) (b2 b3 b6 b5 bt:Nat) (k:TnS) (hk:okT 4 k.1) (hok:∀t∈ls,okT 3 t) (hlen:(ls++tnF k).length≤f.count)
  (A T:Nat) (hT:nblocks p.size 3 f.count≤T) (hroom:Fits p J T) (hA:lf.blocks+lf.count+2≤A) (hac:J.acts+A≤1000000000):
  StepCt p J 89 [pv b2,pv b3,pv b6,pv b5] (linkH p.bj b2 b3 b6 b5 bt f lf k) A T none (ls++tnF k) fun g e Hx'=>Hx'=linkH p.bj b2 b3 b6 b5 bt f lf k∧FB f.count (nblocks p.size 3 f.count) 3 (ls++tnF k).length e g:=by
 intro W cd ca cs held ph capj hW hJW
 obtain⟨Lv,hfo,hsub⟩:=hJW.file (hs.imp (fun h=>(hJW.ok he).1.mem_iff.2 h) id)
 obtain⟨⟨hs1,hs2⟩,_⟩:=hW.dev.num
 have hus:=hJW.used hp hW
 have hbig:=hJW.big hW he hroom
 have hjac:=hJW.acts
 have hlen0:=hfo.len
 dsimp only at hfo hlen0
 have hWr:=Write_u p.bw p.bd p.ba p.bs W cd ca cs hW 3 f.count (by omega) (by omega) (by omega) (by omega)
 have hnb:nblocks W.δ.size 3 f.count≤T:=by rw[hJW.size];exact hT
 have hz:flv ⟨0,0,0,0⟩= .agg #[.int .i64 0,.int .i64 0,.int .i64 0,.int .i64 0]:=rfl
 have hus1:∀{W1:Wk} {cd1 ca1 cs1:Chunk} {g:Gr},Wc p.bd p.ba p.bs W1 cd1 ca1 cs1→W1.α.gs.Perm (g::W.α.gs)→g.n=W.δ.size→W1.α.used=W.α.used+W.δ.size:=by
  intro W1 cd1 ca1 cs1 g h1 h2 h3
  rw[h1.ar.num.2.2.2,(h2.map (·.n)).sum_nat,hW.ar.num.2.2.2];simp[h3];omega
 have hfin:∀(W':Wk) (cd' ca' cs':Chunk) (g:Fl) (e:Int),Wc p.bd p.ba p.bs W' cd' ca' cs'→W'.α.gs.Perm W.α.gs→Ev W W' (lf.blocks+lf.count+2) (nblocks W.δ.size 3 f.count)→Keep W.live W W'→
   ((e=0∧W'.live.Perm (addF g W.live)∧g.width=3∧g.count=(ls++tnF k).length∧FileOk W'.δ.disk W.δ.size [g.ext] g (ls++tnF k))∨(e=6∧g=⟨0,0,0,0⟩∧W.δ.fault≠-1∧W'.live.Perm W.live))→
   StepPost p W A T none (ls++tnF k) (fun g e Hx'=>Hx'=linkH p.bj b2 b3 b6 b5 bt f lf k∧FB f.count (nblocks p.size 3 f.count) 3 (ls++tnF k).length e g)
    (jrow p.bj p.bw 0 ph held.length capj) (.tuple #[flv g,.int .i64 e]) (jrow p.bj p.bw 0 ph held.length capj::wrow p.bw p.bd p.ba p.bs::cd'::ca'::cs'::linkH p.bj b2 b3 b6 b5 bt f lf k):=by
  intro W' cd' ca' cs' g e h0 h1 h2 h3 h4
  refine⟨g,e,cd',ca',cs',W',_,rfl,rfl,h0,⟨h1,h2.room,h2.size,h2.n,by have:=h2.acts.2;omega,by have:=h2.big;omega,h2.fault,h3,?_⟩,rfl,?_⟩
  ·rcases h4 with⟨a,b,_,_,c⟩|⟨a,b,c,d⟩
   ·exact .inl ⟨a,rfl,b,c⟩
   ·exact .inr ⟨by omega,b,d,.inl ⟨a,c⟩⟩
  ·rcases h4 with⟨a,b,c1,c2,c⟩|⟨a,rfl,c,d⟩
   ·refine⟨by omega,?_,fun _=>⟨c1,c2⟩⟩
    rw[c.blk,c1,hJW.size];exact nblocks_mono (by omega)
   ·exact⟨Nat.zero_le _,Nat.zero_le _,fun h=>by omega⟩
 have hC:∀x:Chunk,linkH p.bj b2 b3 b6 b5 bt f lf k=[[(b2,row [pv p.bj] 82)],[(b3,row (fl4 f) 27)],[(b6,row (fl4 lf) 27)],[(b5,row [pv bt] 141)],tnC bt k]:=fun _=>rfl
 have hLL:=fun W2 cd2 ca2 cs2 hW2 bx first nb g ps cx2 cb2 hw2 Gs hg Lv hl hlt be hbe hac hh=>lastLink p.bw p.bd p.ba p.bs W2 cd2 ca2 cs2 hW2 bx first nb f.count g ps cx2 cb2 hw2 Gs hg Lv hl hlt bt k be hbe hac hh
 obtain⟨⟨f0,f1,f2,f3,f4⟩,⟨l0,l1,l2,l3,l4⟩,so⟩:=k
 dsimp only at hk
 unfold jrow linkH fl4 tnC at hfin⊢
 unfold tnC putV at hLL
 dsimp only at hfin hLL⊢
 refine Ct.introD Tryz.func89 rfl Tryz.ntmps89 (nle rfl) fun w0=> ?_;dsimp only[argSlots,Nat.reduceAdd]
 repeat(first|(refine st ?_;intros)|refine G.draw [] (h:= ?_))
 refine R.callX (hct:=hWr) (h:= ?_)
 rintro _ _ (⟨hfit,bx,first,g,cd1,ca1,cs1,W1,cx,cb,rfl,rfl,hW1,hE1,e1,e2,e3,e4,e5⟩|⟨hfull,_⟩)
 rotate_left
 ·exact absurd hbig (by omega)
 dsimp only[List.cons_append,List.nil_append]
 constructor
 ·(·(first|(intro _ _ h;cases h;done)|(repeat(first|exact qok_nil|(apply qok_cons;(·first|(intro hc;exact absurd hc (nmem rfl))|(intro _;apply CellPr.mk;(·repeat(first|exact Has.here|apply Has.there));(first|exact rfl|assumption))|(intro _;apply CellsPr.mk;(·repeat(first|exact Has.here|apply Has.there));(first|exact rfl|assumption))))))))
 have hu1:=hus1 hW1 e2 e3
 have hll:ls.length≤f.count:=by rw[List.length_append] at hlen;omega
 have hOp:=OverPut_ct p.bw p.bd p.ba p.bs [] W1 cd1 ca1 cs1 hW1 bx first 3 f.count g W.α.gs W.live cx cb e2 (by rw[hE1.size];exact e5) (by rw[hE1.size];exact e4) lf ls Lv (by rw[e1];exact hfo) hsub hok (by simp;omega) (by omega) (by omega) (by rw[hE1.room,hE1.size];omega) (by rw[e1];omega) (by omega)
 have hK1:Keep W.live W W1:=fun x _=>by rw[e1]
 rw[hE1.size] at hOp
 have hflv:∀f:Fl,flv f= .agg #[.int .i64 (f.first:Int),.int .i64 (f.blocks:Int),.int .i64 (f.width:Int),.int .i64 (f.count:Int)]:=fun _=>rfl
 rw[hflv] at hOp
 repeat(first|(refine st ?_;intros)|refine G.draw [] (h:= ?_))
 refine R.callX (hct:=hOp) (h:= ?_)
 rintro _ _ ⟨cd2,ca2,cs2,W2,cx2,cb2,e,rfl,rfl,hW2,hE2,hK2,hc⟩
 dsimp only[List.cons_append,List.nil_append]
 constructor
 ·(·(first|(intro _ _ h;cases h;done)|(repeat(first|exact qok_nil|(apply qok_cons;(·first|(intro hc;exact absurd hc (nmem rfl))|(intro _;apply CellPr.mk;(·repeat(first|exact Has.here|apply Has.there));(first|exact rfl|assumption))|(intro _;apply CellsPr.mk;(·repeat(first|exact Has.here|apply Has.there));(first|exact rfl|assumption))))))))
 have hE12:=hE1.trans hE2
 rcases hc with⟨rfl,hg2,hl2,hw2⟩|⟨rfl,hf2,hS2⟩
 ·have ha2:=hE12.acts.2
  have hs2:W2.δ.size=W.δ.size:=hE12.size
  have hho:1≤holds W2.δ.size 3:=by rw[hs2];exact holds_pos hs1 (by omega) (by omega)
  have hCl:=fun ps W3 cd3 ca3 cs3 cx3 cb3 (hW3:Wc p.bd p.ba p.bs W3 cd3 ca3 cs3) hw hg hl hac hh=>Close_w p.bw p.bd p.ba p.bs W3 cd3 ca3 cs3 hW3 bx first (nblocks W.δ.size 3 f.count) 3 f.count g ps cx3 cb3 hw W.α.gs hg W.live hl hac hh
  cases so with
  |false=>
   have hCl2:=hCl _ W2 cd2 ca2 cs2 cx2 cb2 hW2 hw2 hg2 hl2 (by omega) hho
   have ho:ls++tnF (⟨f0,f1,f2,f3,f4⟩,⟨l0,l1,l2,l3,l4⟩,false)=ls:=by simp[tnF]
   rw[ho] at hfin
   rw[ho]
   repeat(first|(refine st ?_;intros)|refine G.draw [] (h:= ?_))
   refine R.call (hct:=hCl2) (h:= ?_)
   rintro _ _ ⟨cd4,ca4,cs4,W4,cx4,cb4,h,e,rfl,rfl,hW4,hE4,hK4,hg4,hx4,hr⟩
   try dsimp only[List.cons_append,List.nil_append]
   rw[hflv]
   have hD:=DropAny p.bw p.bd p.ba p.bs W4 cd4 ca4 cs4 hW4 bx first (nblocks W.δ.size 3 f.count) 3 f.count g W.α.gs W4.live cx4 cb4 (.inr ⟨hg4,.refl _,hx4⟩)
   repeat(first|(refine st ?_;intros)|refine G.draw [] (h:= ?_))
   refine Go.SL.Lv.call (hc:=hD) (h:= ?_)
   rintro _ _ ⟨cd5,ca5,cs5,W5,cx5,cb5,rfl,hW5,hE5,hd5,hg5,hl5⟩
   try dsimp only[List.cons_append,List.nil_append]
   have hE:=((hE12.trans hE4).trans hE5).weak (k':=lf.blocks+lf.count+2) (m':=nblocks W.δ.size 3 f.count) (by omega) (by omega)
   have hK:=(hK1.trans hK2).trans hK4
   have hK5:Keep W.live W W5:=fun x hx=>by rw[hd5];exact hK x hx
   (refine Go.SL.Lv.nil (Hr:=[[(p.bj,row [pv p.bw,.int .i64 0,.slice ph held.length capj] 95)],wrow p.bw p.bd p.ba p.bs,cd5,ca5,cs5,[(b2,row [pv p.bj] 82)],[(b3,row [.int .i64 (f.first:Int),.int .i64 (f.blocks:Int),.int .i64 (f.width:Int),.int .i64 (f.count:Int)] 27)],[(b6,row [.int .i64 (lf.first:Int),.int .i64 (lf.blocks:Int),.int .i64 (lf.width:Int),.int .i64 (lf.count:Int)] 27)],[(b5,row [pv bt] 141)],[(bt,row [.int .i64 f0,.int .i64 f1,.int .i64 f2,.int .i64 f3,.int .i64 f4,.int .i64 l0,.int .i64 l1,.int .i64 l2,.int .i64 l3,.int .i64 l4,.bool false] 143)]]) Tryz.results89 (hR:= ?_);refine hfin W5 cd5 ca5 cs5 h e hW5 hg5 hE hK5 ?_)
   rw[hs2] at hr
   rcases hr with⟨rfl,hl4,hfw,hfc,hfo4⟩|⟨rfl,rfl,hf4,hl4⟩
   ·exact .inl ⟨rfl,hl5.trans hl4,hfw,hfc,by rw[hd5];exact hfo4⟩
   ·exact .inr ⟨rfl,rfl,fault_keep hE12 hf4,hl5.trans hl4⟩
  |true=>
   have ho:ls++tnF (⟨f0,f1,f2,f3,f4⟩,⟨l0,l1,l2,l3,l4⟩,true)=ls++[lnk ⟨f0,f1,f2,f3,f4⟩ ⟨l0,l1,l2,l3,l4⟩ ⟨f0,f1,f2,f3,f4⟩]:=by simp[tnF]
   have hPt:=hLL W2 cd2 ca2 cs2 hW2 bx first _ g _ cx2 cb2 hw2 W.α.gs hg2 W.live hl2 (by rw[ho,List.length_append] at hlen;simp at hlen⊢;omega) ⟨f0,f1,f2,f3,f4⟩ (okT_cols hk).1 (by omega) hho
   rw[ho] at hfin
   rw[ho]
   have htv:tv ⟨f0,f1,f2,f3,f4⟩= .agg #[.int .i64 f0,.int .i64 f1,.int .i64 f2,.int .i64 f3,.int .i64 f4]:=rfl
   rw[htv] at hPt
   repeat(first|(refine st ?_;intros)|refine G.draw [] (h:= ?_))
   refine R.callX (hct:=hPt) (h:= ?_)
   rintro _ _ ⟨cd3,ca3,cs3,W3,cx3,cb3,e,rfl,rfl,hW3,hE3,hK3,hc3⟩
   dsimp only[List.cons_append,List.nil_append]
   constructor
   ·(·(first|(intro _ _ h;cases h;done)|(repeat(first|exact qok_nil|(apply qok_cons;(·first|(intro hc;exact absurd hc (nmem rfl))|(intro _;apply CellPr.mk;(·repeat(first|exact Has.here|apply Has.there));(first|exact rfl|assumption))|(intro _;apply CellsPr.mk;(·repeat(first|exact Has.here|apply Has.there));(first|exact rfl|assumption))))))))
   have hE13:=hE12.trans hE3
   rcases hc3 with⟨rfl,hg3,hl3,hw3⟩|⟨rfl,hf3,hS3⟩
   ·have ha3:=hE13.acts.2
    have hs3:W3.δ.size=W.δ.size:=hE13.size
    have hCl2:=hCl _ W3 cd3 ca3 cs3 cx3 cb3 hW3 hw3 hg3 hl3 (by omega) (by rw[hs3];exact holds_pos hs1 (by omega) (by omega))
    repeat(first|(refine st ?_;intros)|refine G.draw [] (h:= ?_))
    refine R.call (hct:=hCl2) (h:= ?_)
    rintro _ _ ⟨cd4,ca4,cs4,W4,cx4,cb4,h,e,rfl,rfl,hW4,hE4,hK4,hg4,hx4,hr⟩
    try dsimp only[List.cons_append,List.nil_append]
    rw[hflv]
    have hD:=DropAny p.bw p.bd p.ba p.bs W4 cd4 ca4 cs4 hW4 bx first (nblocks W.δ.size 3 f.count) 3 f.count g W.α.gs W4.live cx4 cb4 (.inr ⟨hg4,.refl _,hx4⟩)
    repeat(first|(refine st ?_;intros)|refine G.draw [] (h:= ?_))
    refine Go.SL.Lv.call (hc:=hD) (h:= ?_)
    rintro _ _ ⟨cd5,ca5,cs5,W5,cx5,cb5,rfl,hW5,hE5,hd5,hg5,hl5⟩
    try dsimp only[List.cons_append,List.nil_append]
    have hE:=((hE13.trans hE4).trans hE5).weak (k':=lf.blocks+lf.count+2) (m':=nblocks W.δ.size 3 f.count) (by omega) (by omega)
    have hK:=((hK1.trans hK2).trans hK3).trans hK4
    have hK5:Keep W.live W W5:=fun x hx=>by rw[hd5];exact hK x hx
    (refine Go.SL.Lv.nil (Hr:=[[(p.bj,row [pv p.bw,.int .i64 0,.slice ph held.length capj] 95)],wrow p.bw p.bd p.ba p.bs,cd5,ca5,cs5,[(b2,row [pv p.bj] 82)],[(b3,row [.int .i64 (f.first:Int),.int .i64 (f.blocks:Int),.int .i64 (f.width:Int),.int .i64 (f.count:Int)] 27)],[(b6,row [.int .i64 (lf.first:Int),.int .i64 (lf.blocks:Int),.int .i64 (lf.width:Int),.int .i64 (lf.count:Int)] 27)],[(b5,row [pv bt] 141)],[(bt,row [.int .i64 f0,.int .i64 f1,.int .i64 f2,.int .i64 f3,.int .i64 f4,.int .i64 l0,.int .i64 l1,.int .i64 l2,.int .i64 l3,.int .i64 l4,.bool true] 143)]]) Tryz.results89 (hR:= ?_);refine hfin W5 cd5 ca5 cs5 h e hW5 hg5 hE hK5 ?_)
    rw[hs3] at hr
    rcases hr with⟨rfl,hl4,hfw,hfc,hfo4⟩|⟨rfl,rfl,hf4,hl4⟩
    ·exact .inl ⟨rfl,hl5.trans hl4,hfw,hfc,by rw[hd5];exact hfo4⟩
    ·exact .inr ⟨rfl,rfl,fault_keep hE13 hf4,hl5.trans hl4⟩
   ·have hD:=DropAny p.bw p.bd p.ba p.bs W3 cd3 ca3 cs3 hW3 bx first (nblocks W.δ.size 3 f.count) 3 f.count g W.α.gs W.live cx3 cb3 hS3
    repeat(first|(refine st ?_;intros)|refine G.draw [] (h:= ?_))
    refine Go.SL.Lv.call (hc:=hD) (h:= ?_)
    rintro _ _ ⟨cd5,ca5,cs5,W5,cx5,cb5,rfl,hW5,hE5,hd5,hg5,hl5⟩
    try dsimp only[List.cons_append,List.nil_append]
    have hE:=(hE13.trans hE5).weak (k':=lf.blocks+lf.count+2) (m':=nblocks W.δ.size 3 f.count) (by omega) (by omega)
    have hK:=(hK1.trans hK2).trans hK3
    have hK5:Keep W.live W W5:=fun x hx=>by rw[hd5];exact hK x hx
    (refine Go.SL.Lv.nil (Hr:=[[(p.bj,row [pv p.bw,.int .i64 0,.slice ph held.length capj] 95)],wrow p.bw p.bd p.ba p.bs,cd5,ca5,cs5,[(b2,row [pv p.bj] 82)],[(b3,row [.int .i64 (f.first:Int),.int .i64 (f.blocks:Int),.int .i64 (f.width:Int),.int .i64 (f.count:Int)] 27)],[(b6,row [.int .i64 (lf.first:Int),.int .i64 (lf.blocks:Int),.int .i64 (lf.width:Int),.int .i64 (lf.count:Int)] 27)],[(b5,row [pv bt] 141)],[(bt,row [.int .i64 f0,.int .i64 f1,.int .i64 f2,.int .i64 f3,.int .i64 f4,.int .i64 l0,.int .i64 l1,.int .i64 l2,.int .i64 l3,.int .i64 l4,.bool true] 143)]]) Tryz.results89 (hR:= ?_);exact hfin W5 cd5 ca5 cs5 ⟨0,0,0,0⟩ 6 hW5 hg5 hE hK5 (.inr ⟨rfl,rfl,fault_keep hE12 hf3,hl5⟩))
 ·have hD:=DropAny p.bw p.bd p.ba p.bs W2 cd2 ca2 cs2 hW2 bx first (nblocks W.δ.size 3 f.count) 3 f.count g W.α.gs W.live cx2 cb2 hS2
  repeat(first|(refine st ?_;intros)|refine G.draw [] (h:= ?_))
  refine Go.SL.Lv.call (hc:=hD) (h:= ?_)
  rintro _ _ ⟨cd5,ca5,cs5,W5,cx5,cb5,rfl,hW5,hE5,hd5,hg5,hl5⟩
  try dsimp only[List.cons_append,List.nil_append]
  have hE:=(hE12.trans hE5).weak (k':=lf.blocks+lf.count+2) (m':=nblocks W.δ.size 3 f.count) (by omega) (by omega)
  have hK:=hK1.trans hK2
  have hK5:Keep W.live W W5:=fun x hx=>by rw[hd5];exact hK x hx
  (refine Go.SL.Lv.nil (Hr:=[[(p.bj,row [pv p.bw,.int .i64 0,.slice ph held.length capj] 95)],wrow p.bw p.bd p.ba p.bs,cd5,ca5,cs5,[(b2,row [pv p.bj] 82)],[(b3,row [.int .i64 (f.first:Int),.int .i64 (f.blocks:Int),.int .i64 (f.width:Int),.int .i64 (f.count:Int)] 27)],[(b6,row [.int .i64 (lf.first:Int),.int .i64 (lf.blocks:Int),.int .i64 (lf.width:Int),.int .i64 (lf.count:Int)] 27)],[(b5,row [pv bt] 141)],[(bt,row [.int .i64 f0,.int .i64 f1,.int .i64 f2,.int .i64 f3,.int .i64 f4,.int .i64 l0,.int .i64 l1,.int .i64 l2,.int .i64 l3,.int .i64 l4,.bool so] 143)]]) Tryz.results89 (hR:= ?_);exact hfin W5 cd5 ca5 cs5 ⟨0,0,0,0⟩ 6 hW5 hg5 hE hK5 (.inr ⟨rfl,rfl,fault_keep hE1 hf2,hl5⟩))
end Go.Proofs.YtammjnjpheobaaaGreat
