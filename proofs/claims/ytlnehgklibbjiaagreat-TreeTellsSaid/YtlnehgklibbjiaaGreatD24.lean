/-
  Parts of the proof, put together: Graph15, Forest15, Comps15, Arcs16, Tour16. No condition.
-/
import Derived.Test.YtlnehgklibbjiaaGreatD23
set_option linter.unusedVariables false
set_option linter.unusedSimpArgs false
set_option linter.unnecessarySimpa false
set_option maxHeartbeats 4000000
namespace Go.Proofs.YtlnehgklibbjiaaGreat
open Go.SL Go.Tup Go.Gr
def eOf (t:T5):IE:=(t.c1,t.c2)
def ecells5 (l:List T5):List Value:=(l.map eOf).flatMap ecl
def ncells (l:List T5):List Value:=rcells (l.map (·.c0))
theorem ecells5app (a b:List T5):ecells5 (a++b)=ecells5 a++ecells5 b:=by simp[ecells5]
theorem ncells_app (a b:List T5):ncells (a++b)=ncells a++ncells b:=by simp[ncells,rcells]
theorem ecells5len (a:List T5):(ecells5 a).length=a.length*2:=by unfold ecells5;rw[fm_len ecl_len,List.length_map]
theorem ncells_len (a:List T5):(ncells a).length=a.length:=by simp[ncells,rcells]
theorem e_cut (A B:List T5) (t:T5) (r:List Value) {k:Nat} (hk:A.length=k):((ecells5 (A++t::B)++r).drop (k*2)).take 2=[.int .i64 t.c1,.int .i64 t.c2]:=by
 have h:=fm_cutR (k:=2) ecl_len (l:=(A++t::B).map eOf) (i:=k) (a:=eOf t) (by subst hk;simp) r
 exact h
theorem e_set (A B:List T5) (t u:T5) (r:List Value) {k:Nat} (hk:A.length=k):setL (ecells5 (A++t::B)++r) (k*2) [.int .i64 u.c1,.int .i64 u.c2]=ecells5 (A++u::B)++r:=by
 have h:=fm_set (k:=2) ecl_len ((A++t::B).map eOf) k (eOf u) r (by subst hk;simp)
 rw[←List.map_set] at h
 have h2:(A++t::B).set k u=A++u::B:=by subst hk;simp
 rw[h2] at h
 exact h
theorem n_get (A B:List T5) (t:T5) (r:List Value) {k:Nat} (hk:A.length=k):(ncells (A++t::B)++r)[k]? =some (.int .i64 t.c0):=by
 subst hk;simp[ncells,rcells,List.getElem?_append]
theorem n_set (A B:List T5) (t u:T5) (r:List Value) {k:Nat} (hk:A.length=k):(ncells (A++t::B)++r).set k (.int .i64 u.c0)=ncells (A++u::B)++r:=by
 subst hk;simp[ncells,rcells,List.set_append]
theorem vpos1 {E sz:Nat} {p:Option Addr} {m cap:Nat} {xs:List Value} {c:Chunk} (h:Vec E sz p m cap xs c) (hm:0<m):∃b rest,p=some ⟨b,0,none⟩∧c=[(b,row (xs++rest) E)]∧cap*sz≤xs.length+rest.length∧m≤cap∧cap≤maxLen:=by
 rcases h.2 with⟨_,e,_⟩|hh
 ·omega
 ·exact hh
def Sn (l:List T5):Prop:=l.Pairwise fun a b=>a.c0≤b.c0
structure GrX where
 i:Nat
 sl:List T5
 pe:Option Addr
 ce:Nat
 he:Chunk
 pn:Option Addr
 cn:Nat
 hn:Chunk
structure GrY where
 kz:Int
 A:List T5
 B:List T5
theorem Graph15ct (n:Nat) (p:Option Addr) (m cap:Nat) (ts:List T5) (c:Chunk) (hv:RV p m ts c) (hm:m≤1000000):
  Ct Tryz.prog 97 [.int .i64 (n:Int),.slice p m cap] [c] fun v H'=>∃sl pe ce he pn cn hn,v= .tuple #[gv n pe m ce,.slice pn m cn]∧H'=[c,he,hn]∧
   Vec 62 2 pe m ce (ecells5 sl) he∧Vec 2 1 pn m cn (ncells sl) hn∧sl.Perm ts∧Sn sl:=by
 have hl:=hv.1
 unfold gv
 refine Ct.intro Tryz.func97 rfl Tryz.ntmps97 (nle rfl) fun w0=> ?_;dsimp only[argSlots,Nat.reduceAdd]
 repeat(first|(refine st ?_;intros)|refine G.draw [] (h:= ?_)|refine G.draw (id:=11) [(10,.eff [8])] (h:= ?_))
 rename_i b4 b6
 refine G.loop (X:=GrX) (fun x=>x.i≤m∧x.sl.Perm (ts.take x.i)∧Sn x.sl∧Vec 62 2 x.pe x.i x.ce (ecells5 x.sl) x.he∧Vec 2 1 x.pn x.i x.cn (ncells x.sl) x.hn)
  (fun x=>[(8,.int .i64 (x.i:Int)),(7,.slice x.pn x.i x.cn),(6,pv b6),(4,pv b4),(1,.slice p m cap)])
  (fun x=>[[(b6,row [.int .i64 (n:Int),.slice x.pe x.i x.ce] 37)],[(b4,row [.int .i64 0,.slice none 0 0] 37)],c,x.he,x.hn]) (fun x=>m-x.i) ⟨0,[],none,0,[],none,0,[]⟩
  ⟨Nat.zero_le _,by simp,List.Pairwise.nil,Vec.nil _ _,Vec.nil _ _⟩ (by repeat(first|exact trivial|refine⟨rfl,?_⟩)) (by repeat(first|exact Split.nil|(apply Split.cons;·(first|exact Take.nil|(repeat(first|exact Take.here|apply Take.there)))))) ?_
 rintro⟨i,sl,pe,ce,he,pn,cn,hn⟩ ⟨hi,hp,hs,hVe,hVn⟩
 dsimp only at hi hp hs hVe hVn⊢
 by_cases hlt:i<m
 ·obtain⟨b,off,cs,T,fz,rfl,rfl,_,hget⟩:=(RV.rw hv).pos tcells_len (by omega)
  have hit:ts[i]? =some ts[i]:=List.getElem?_eq_getElem (by omega)
  have q0:=hget i 0 _ _ hit rfl
  have q1:=hget i 1 _ _ hit rfl
  have q2:=hget i 2 _ _ hit rfl
  rw[Nat.add_zero] at q0
  generalize ht:ts[i]=t at*
  have hmx:i+1≤maxLen:=by simp only[maxLen];omega
  have hsl:sl.length=i:=by have:=hp.length_eq;rw[List.length_take] at this;omega
  repeat(first|(refine st ?_;intros)|refine G.draw [] (h:= ?_)|refine G.draw (id:=11) [(10,.eff [8])] (h:= ?_))
  rename_i b33 pe' ce' he' hVe' b42 pn' cn' hn' hVn'
  have hVe2:Vec 62 2 pe' (i+1) ce' (ecells5 (sl++[t])) he':=by rw[ecells5app];exact hVe'
  have hVn2:Vec 2 1 pn' (i+1) cn' (ncells (sl++[t])) hn':=by rw[ncells_app];exact hVn'
  obtain⟨eb,re,rfl,rfl,hre,hce,hcm⟩:=vpos1 hVe2 (Nat.succ_pos _)
  obtain⟨nb,rn,rfl,rfl,hrn,hcn,hcm2⟩:=vpos1 hVn2 (Nat.succ_pos _)
  clear hVe hVn hVe' hVn'
  rw[ecells5len,List.length_append,List.length_singleton,hsl] at hre
  rw[ncells_len,List.length_append,List.length_singleton,hsl] at hrn
  refine G.loop (X:=GrY) (fun x=>x.A++x.B=sl∧x.kz=(x.A.length:Int)∧∀u∈x.B,t.c0<u.c0)
   (fun x=>[(9,.int .i64 x.kz),(8,.int .i64 (i:Int)),(7,.slice (some ⟨nb,0,none⟩) (i+1) cn'),(6,pv b6),(4,pv b4),(1,.slice (some ⟨b,off,none⟩) m cap)])
   (fun x=>[[(b6,row [.int .i64 (n:Int),.slice (some ⟨eb,0,none⟩) (i+1) ce'] 37)],[(b4,row [.int .i64 0,.slice none 0 0] 37)],[(b,rowf cs T fz)],[(eb,row (ecells5 (x.A++t::x.B)++re) 62)],[(nb,row (ncells (x.A++t::x.B)++rn) 2)]]) (fun x=>x.A.length) ⟨(i:Int),sl,[]⟩ ⟨by simp,by dsimp only;omega,by simp⟩ (body:= ?_)
  rintro⟨kz,A,B⟩ ⟨hAB,hkz,hB⟩
  dsimp only at hAB hkz hB⊢
  have hABl:A.length+B.length=i:=by rw[←hsl,←hAB,List.length_append]
  have hend:(∀u∈A,u.c0≤t.c0)→(A++t::B).Perm (ts.take (i+1))∧Sn (A++t::B)∧Vec 62 2 (some ⟨eb,0,none⟩) (i+1) ce' (ecells5 (A++t::B)) [(eb,row (ecells5 (A++t::B)++re) 62)]∧
    Vec 2 1 (some ⟨nb,0,none⟩) (i+1) cn' (ncells (A++t::B)) [(nb,row (ncells (A++t::B)++rn) 2)]:=by
   intro hA
   refine⟨?_,?_,Vec.mk' rfl (by rw[ecells5len];simp;omega) (by rw[List.length_append,ecells5len];simp;omega) hce hcm,Vec.mk' rfl (by rw[ncells_len];simp;omega) (by rw[List.length_append,ncells_len];simp;omega) hcn hcm2⟩
   ·rw[List.take_add_one,hit]
    refine(List.perm_middle.trans ?_)
    rw[hAB]
    exact(hp.cons t).trans (List.perm_append_comm (l₁:=[t]))
   ·unfold Sn at hs⊢
    rw[←hAB,List.pairwise_append] at hs
    rw[List.pairwise_append,List.pairwise_cons]
    exact⟨hs.1,⟨fun u hu=>Int.le_of_lt (hB u hu),hs.2.1⟩,fun x hx y hy=>by
     rcases List.mem_cons.1 hy with rfl|hy
     ·exact hA x hx
     ·exact hs.2.2 x hx y hy⟩
  rcases List.eq_nil_or_concat A with rfl|⟨A',x,rfl⟩
  ·obtain⟨e1,e2,e3,e4⟩:=hend (by simp)
   have hk0:kz=0:=by simpa using hkz
   repeat(first|(refine st ?_;intros)|refine G.draw [] (h:= ?_)|refine G.draw (id:=11) [(10,.eff [8])] (h:= ?_))
   refine Dn.round ⟨i+1,[]++t::B,_,ce',_,_,cn',_⟩ ⟨hlt,e1,e2,e3,e4⟩ (by dsimp only;omega)
  ·have hkA:kz=((A'.length+1:Nat):Int):=by simpa using hkz
   have ek:kz.toNat=A'.length+1:=by omega
   have ek1:(kz-1).toNat=A'.length:=by omega
   have hA1:A'.length+1+B.length=i:=by simpa using hABl
   have hform:∀u v:T5,(A'++[u])++v::B=A'++u::v::B:=fun u v=>by simp
   rw[List.concat_eq_append] at*
   rw[hform]
   have c1:=e_cut (A'++[x]) B t re (k:=A'.length+1) (by simp)
   have c2:=e_cut A' (t::B) x re rfl
   have s1:=e_set (A'++[x]) B t x re (k:=A'.length+1) (by simp)
   have s2:=e_set A' (x::B) x t re rfl
   have d1:=n_get (A'++[x]) B t rn (k:=A'.length+1) (by simp)
   have d2:=n_get A' (t::B) x rn rfl
   have u1:=n_set (A'++[x]) B t x rn (k:=A'.length+1) (by simp)
   have u2:=n_set A' (x::B) x t rn rfl
   simp only[hform] at c1 s1 d1 u1
   have l1:(A'.length+1)*2+2≤(ecells5 (A'++x::t::B)++re).length:=by rw[List.length_append,ecells5len];simp;omega
   have l2:(A'.length+1)*2+2≤(ecells5 (A'++x::x::B)++re).length:=by rw[List.length_append,ecells5len];simp;omega
   have l3:A'.length+1<(ncells (A'++x::t::B)++rn).length:=by rw[List.length_append,ncells_len];simp;omega
   have l4:A'.length+1<(ncells (A'++x::x::B)++rn).length:=by rw[List.length_append,ncells_len];simp;omega
   by_cases hxt:t.c0<x.c0
   ·have hrow:∀r:List Value,ecells5 (A'++t::x::B)++re=r→True:=fun _ _=>trivial
    generalize hr0:ecells5 (A'++x::t::B)++re=r0 at*
    generalize hr1:ecells5 (A'++x::x::B)++re=r1 at*
    generalize hm0:ncells (A'++x::t::B)++rn=m0 at*
    generalize hm1:ncells (A'++x::x::B)++rn=m1 at*
    repeat(first|(refine st ?_;intros)|refine G.draw [] (h:= ?_)|refine G.draw (id:=11) [(10,.eff [8])] (h:= ?_))
    refine Dn.round ⟨kz-1,A',x::B⟩ ⟨by rw[←hAB];simp,by dsimp only;omega,fun u hu=> ?_⟩ (by simp)
    rcases List.mem_cons.1 hu with rfl|hu
    ·exact hxt
    ·exact hB u hu
   ·obtain⟨e1,e2,e3,e4⟩:=hend (fun u hu=>by
     unfold Sn at hs
     rw[←hAB,List.pairwise_append,List.pairwise_append] at hs
     rcases List.mem_append.1 hu with hu|hu
     ·have:=hs.1.2.2 u hu x (by simp);omega
     ·simp only[List.mem_singleton] at hu;subst hu;omega)
    simp only[hform] at e1 e2 e3 e4
    repeat(first|(refine st ?_;intros)|refine G.draw [] (h:= ?_)|refine G.draw (id:=11) [(10,.eff [8])] (h:= ?_))
    refine Dn.round ⟨i+1,A'++x::t::B,_,ce',_,_,cn',_⟩ ⟨hlt,e1,e2,e3,e4⟩ (by dsimp only;omega)
 ·obtain rfl:i=m:=by omega
  rw[List.take_of_length_le (by omega)] at hp
  repeat(first|(refine st ?_;intros)|refine G.draw [] (h:= ?_)|refine G.draw (id:=11) [(10,.eff [8])] (h:= ?_))
  (refine Dn.post (Hr:=[c,he,hn]) Tryz.results97 (hR:= ?_);exact⟨sl,pe,ce,he,pn,cn,hn,rfl,rfl,hVe,hVn,hp,hs⟩)
def bcells (l:List Bool):List Value:=l.map Value.bool
theorem bcells_set (l:List Bool) (i:Nat) (x:Bool):(bcells l).set i (.bool x)=bcells (l.set i x):=by unfold bcells;rw[List.map_set]
theorem zrep_b:∀N,zrep N [Value.bool false]=bcells (List.replicate N false)
 |0=>rfl
 |N+1=>by
  have:=zrep_b N
  unfold bcells at this⊢
  rw[List.replicate_succ,List.map_cons,←this];rfl
structure LabEq (g:Nat→Ed) (i N:Nat) (l:List Int):Prop where
 len:l.length=N
 nat:∀v,v<N→∃x:Nat,l[v]? =some (x:Int)
 eq:∀a b,a<N→b<N→(l[a]? =l[b]?↔Cn g (fun j=>j<i) a b)
def relab (la lb:Int) (l:List Int):List Int:=l.map fun y=>if y=lb then la else y
theorem LabEq.step {g:Nat→Ed} {i N:Nat} {l:List Int} (h:LabEq g i N l) {la lb:Int} (hu:(g i).1<N) (hv:(g i).2<N) (ha:l[(g i).1]? =some la) (hb:l[(g i).2]? =some lb):LabEq g (i+1) N (relab la lb l):=by
 refine⟨by unfold relab;rw[List.length_map];exact h.len,fun v hv'=> ?_,fun a b ha' hb'=> ?_⟩
 ·obtain⟨x,hx⟩:=h.nat v hv'
  obtain⟨y,hy⟩:=h.nat _ hu
  rw[ha] at hy;simp only[Option.some.injEq] at hy
  unfold relab
  rw[List.getElem?_map,hx]
  by_cases hxb:(x:Int)=lb
  ·exact⟨y,by simp[hxb,hy]⟩
  ·exact⟨x,by simp[hxb]⟩
 ·have hc:Cn g (fun j=>j<i+1) a b↔Cn g (fun j=>j<i) a b∨(Cn g (fun j=>j<i) a (g i).1∧Cn g (fun j=>j<i) (g i).2 b)∨(Cn g (fun j=>j<i) a (g i).2∧Cn g (fun j=>j<i) (g i).1 b):=by
   constructor
   ·intro hc
    exact Cn.add (hc.mono fun j hj=>by omega)
   ·have hm:∀{x y},Cn g (fun j=>j<i) x y→Cn g (fun j=>j<i+1) x y:=fun hc=>hc.mono fun j hj=>Nat.lt_succ_of_lt hj
    have he:Cn g (fun j=>j<i+1) (g i).1 (g i).2:=Cn.edge (Nat.lt_succ_self i)
    rintro(h1|⟨h1,h2⟩|⟨h1,h2⟩)
    ·exact hm h1
    ·exact((hm h1).trans he).trans (hm h2)
    ·exact((hm h1).trans he.symm).trans (hm h2)
  rw[hc,←h.eq a b ha' hb',←h.eq a _ ha' hu,←h.eq _ b hv hb',←h.eq a _ ha' hv,←h.eq _ b hu hb',ha,hb]
  obtain⟨x,hx⟩:=h.nat a ha'
  obtain⟨y,hy⟩:=h.nat b hb'
  unfold relab
  rw[List.getElem?_map,List.getElem?_map,hx,hy]
  simp only[Option.map_some,Option.some.injEq]
  by_cases h1:(x:Int)=lb<;>by_cases h2:(y:Int)=lb<;>simp only[h1,h2,if_true,if_false]<;>constructor<;>intro h3<;>first|omega|(simp[h1,h2] at h3⊢;omega)|(simp_all)
theorem relab_take (la lb:Int) (l:List Int) (k:Nat) {y:Int} (h:l[k]? =some y):((relab la lb l).take k++l.drop k).set k (if y=lb then la else y)=(relab la lb l).take (k+1)++l.drop (k+1):=by
 obtain⟨hk,rfl⟩:=List.getElem?_eq_some_iff.1 h
 have hl:((relab la lb l).take k).length=k:=by unfold relab;simp;omega
 rw[List.set_append_right _ _ (by omega),hl,Nat.sub_self,List.drop_eq_getElem_cons hk,List.set_cons_zero,List.take_add_one]
 unfold relab
 rw[List.getElem?_map,List.getElem?_eq_getElem hk]
 simp
def forestOk (es:List IE) (fl:List Bool):Prop:=fl.length=es.length∧∀i b,fl[i]? =some b→(b=true↔Kr (gE es) (fun j=>j<es.length) i)
structure FoX where
 i:Nat
 l:List Int
 f:List Bool
theorem Forest15ct (N:Nat) (hN:N≤1000000) (p:Option Addr) (m cap:Nat) (es:List IE) (c:Chunk) (hv:Rw ecl 2 p m es c) (hm:m≤1000000) (hf:∀e∈es,inE N e):
  Ct Tryz.prog 98 [gv N p m cap] [c] fun v H'=>∃bi fl,v= .slice (some ⟨bi,0,none⟩) m m∧H'=[c,[(bi,row (bcells fl) 4)]]∧forestOk es fl:=by
 have hl:=hv.1
 unfold gv
 refine Ct.intro Tryz.func98 rfl Tryz.ntmps98 (nle rfl) fun w0=> ?_;dsimp only[argSlots,Nat.reduceAdd]
 repeat(first|(refine st ?_;intros)|refine G.draw [] (h:= ?_))
 rename_i b1 bi bl
 rw[zrep_nf,zrep_b]
 refine G.loop (X:=Nat) (fun i=>i≤N) (fun i=>[(5,.int .i64 (i:Int)),(4,.slice (some ⟨bl,0,none⟩) N N),(3,.slice (some ⟨bi,0,none⟩) m m),(1,pv b1)])
  (fun i=>[[(bl,row (rcells (nf N i)) 3)],[(bi,row (bcells (List.replicate m false)) 4)],[(b1,row [.int .i64 (N:Int),.slice p m cap] 37)],c]) (fun i=>N-i) 0 (Nat.zero_le _) (body:= ?_)
 intro i hi
 by_cases hlt:i<N
 ·have hset:(rcells (nf N i)).set i (.int .i64 (i:Int))=rcells (nf N (i+1)):=by rw[rcells_set,nf_set N i hlt]
  have hlen:i<(rcells (nf N i)).length:=by simp only[rcells,List.length_map,nf_len N i hi];exact hlt
  repeat(first|(refine st ?_;intros)|refine G.draw [] (h:= ?_))
  refine Dn.round (i+1) (by omega) (by omega)
 obtain rfl:i=N:=by omega
 rw[nf_all]
 clear hi hlt
 repeat(first|(refine st ?_;intros)|refine G.draw [] (h:= ?_))
 refine G.loop (X:=FoX) (fun x=>x.i≤m∧LabEq (gE es) x.i i x.l∧x.f.length=m∧∀j b,j<x.i→x.f[j]? =some b→(b=true↔Kr (gE es) (fun j=>j<es.length) j))
  (fun x=>[(6,.int .i64 (x.i:Int)),(4,.slice (some ⟨bl,0,none⟩) i i),(3,.slice (some ⟨bi,0,none⟩) m m),(1,pv b1)]) (fun x=>[[(bl,row (rcells (x.l)) 3)],[(bi,row (bcells (x.f)) 4)],[(b1,row [.int .i64 (i:Int),.slice p m cap] 37)],c]) (fun x=>m-x.i) ⟨0,n0 i,List.replicate m false⟩
  ⟨Nat.zero_le _,⟨n0len i,fun v hv=>⟨v,n0get hv⟩,fun a b ha hb=>by
   rw[n0get ha,n0get hb]
   constructor
   ·intro h;obtain rfl:a=b:=by simp only[Option.some.injEq] at h;omega
    exact .refl _
   ·intro h
    have:a=b:=h.stay (X:=fun y=>a=y) rfl (fun j hj=>absurd hj (Nat.not_lt_zero j))
    rw[this]⟩,by simp,fun j b h=>absurd h (Nat.not_lt_zero j)⟩ (body:= ?_)
 rintro⟨k,l,f⟩ ⟨hk,hL,hfl,hfo⟩
 dsimp only at hk hL hfl hfo⊢
 by_cases hlt:k<m
 rotate_left
 ·obtain rfl:k=m:=by omega
  repeat(first|(refine st ?_;intros)|refine G.draw [] (h:= ?_))
  (refine Dn.post (Hr:=[c,[(bi,row (bcells f) 4)]]) Tryz.results98 (hR:= ?_);exact⟨bi,f,rfl,rfl,by omega,fun j b hj=>hfo j b (by rw[←hfl];exact(List.getElem?_eq_some_iff.1 hj).1) hj⟩)
 obtain⟨b,off,cs,T,fz,rfl,rfl,hcut,hget⟩:=hv.pos ecl_len (by omega)
 have hie:es[k]? =some es[k]:=List.getElem?_eq_getElem (by omega)
 have q0:=hget k 0 _ _ hie rfl
 have q1:=hget k 1 _ _ hie rfl
 rw[Nat.add_zero] at q0
 have hfe:=hf _ (List.mem_of_getElem? hie)
 generalize he:es[k]=e at*
 obtain⟨u,v⟩:=e
 obtain⟨f1,f2,f3,f4⟩:=hfe
 dsimp only at f1 f2 f3 f4 q0 q1
 obtain⟨u,rfl⟩:∃u':Nat,u=(u':Int):=⟨u.toNat,by omega⟩
 obtain⟨v,rfl⟩:∃v':Nat,v=(v':Int):=⟨v.toNat,by omega⟩
 have hgE:gE es k=(u,v):=by unfold gE;rw[hie];simp
 obtain⟨la,x1⟩:=hL.nat u (by omega)
 obtain⟨lb,y1⟩:=hL.nat v (by omega)
 have hcu:=rcells_get x1
 have hcv:=rcells_get y1
 have hstep:=hL.step (la:=la) (lb:=lb) (by rw[hgE];dsimp only;omega) (by rw[hgE];dsimp only;omega) (by rw[hgE];exact x1) (by rw[hgE];exact y1)
 have hkr:dec ((la:Int)≠(lb:Int))=true↔Kr (gE es) (fun j=>j<es.length) k:=by
  have h1:=hL.eq u v (by omega) (by omega)
  rw[x1,y1,Option.some.injEq] at h1
  rw[dec_iff]
  unfold Kr
  rw[hgE]
  have h2:Cn (gE es) (fun j=>j<es.length∧j<k) u v↔Cn (gE es) (fun j=>j<k) u v:=Cn.congr fun j=>⟨fun h=>h.2,fun h=>⟨by omega,h⟩⟩
  rw[h2,←h1]
  exact⟨fun h=>⟨by omega,h⟩,fun h=>h.2⟩
 have hsetf:(bcells f).set k (.bool (dec ((la:Int)≠(lb:Int))))=bcells (f.set k (dec ((la:Int)≠(lb:Int)))):=bcells_set _ _ _
 have hlenf:k<(bcells f).length:=by simp only[bcells,List.length_map];omega
 repeat(first|(refine st ?_;intros)|refine G.draw [] (h:= ?_))
 refine G.loop (X:=Nat) (fun j=>j≤i) (fun j=>[(9,.int .i64 (j:Int)),(8,.int .i64 (lb:Int)),(7,.int .i64 (la:Int)),(6,.int .i64 (k:Int)),(4,.slice (some ⟨bl,0,none⟩) i i),(3,.slice (some ⟨bi,0,none⟩) m m),(1,pv b1)])
  (fun j=>[[(bl,row (rcells ((relab la lb l).take j++l.drop j)) 3)],[(bi,row (bcells (f.set k (dec ((la:Int)≠(lb:Int))))) 4)],[(b1,row [.int .i64 (i:Int),.slice (some ⟨b,off,none⟩) m cap] 37)],[(b,rowf cs T fz)]]) (fun j=>i-j) 0 (Nat.zero_le _) (body:= ?_)
 intro j hj
 by_cases hlt3:j<i
 ·obtain⟨y,hy⟩:=hL.nat j hlt3
  have hcy:(rcells ((relab la lb l).take j++l.drop j))[j]? =some (.int .i64 (y:Int)):=by
   refine rcells_get ?_
   have hl2:((relab la lb l).take j).length=j:=by unfold relab;simp[hL.len];omega
   rw[List.getElem?_append_right (by omega),hl2,Nat.sub_self,List.getElem?_drop]
   exact hy
  have hrt:=relab_take la lb l j hy
  by_cases hyb:(y:Int)=lb
  ·have hset:(rcells ((relab la lb l).take j++l.drop j)).set j (.int .i64 (la:Int))=rcells ((relab la lb l).take (j+1)++l.drop (j+1)):=by
    rw[rcells_set];rw[if_pos hyb] at hrt;rw[hrt]
   have hlen:j<(rcells ((relab la lb l).take j++l.drop j)).length:=(List.getElem?_eq_some_iff.1 hcy).1
   repeat(first|(refine st ?_;intros)|refine G.draw [] (h:= ?_))
   refine Dn.round (j+1) (by omega) (by omega)
  ·have hsame:(relab la lb l).take j++l.drop j=(relab la lb l).take (j+1)++l.drop (j+1):=by
    rw[if_neg hyb] at hrt;rw[←hrt]
    refine(set_self' ?_).symm
    have hl2:((relab la lb l).take j).length=j:=by unfold relab;simp[hL.len];omega
    rw[List.getElem?_append_right (by omega),hl2,Nat.sub_self,List.getElem?_drop]
    exact hy
   repeat(first|(refine st ?_;intros)|refine G.draw [] (h:= ?_))
   rw[hsame]
   refine Dn.round (j+1) (by omega) (by omega)
 ·obtain rfl:j=i:=by omega
  have hdone:(relab la lb l).take j++l.drop j=relab la lb l:=by
   rw[List.drop_eq_nil_of_le (by rw[hL.len];exact Nat.le_refl _),List.append_nil,List.take_of_length_le (by unfold relab;rw[List.length_map,hL.len];exact Nat.le_refl _)]
  rw[hdone]
  repeat(first|(refine st ?_;intros)|refine G.draw [] (h:= ?_))
  refine Dn.round ⟨k+1,relab la lb l,f.set k (dec ((la:Int)≠(lb:Int)))⟩ ⟨hlt,hstep,by rw[List.length_set];exact hfl,fun q bq hq hfq=> ?_⟩ (by dsimp only;omega)
  dsimp only at hq hfq
  by_cases hqk:q=k
  ·subst hqk
   rw[List.getElem?_set_self (by omega)] at hfq
   simp only[Option.some.injEq] at hfq
   subst hfq;exact hkr
  ·rw[List.getElem?_set_ne (by omega)] at hfq
   exact hfo q bq (by omega) hfq
def labT (l:List Int):List T5:=(List.range l.length).map fun (v:Nat)=>⟨(v:Int),l.getD v 0,0,0,0⟩
def forT (sl:List T5) (fl:List Bool):List T5:=(sl.zip fl).filterMap fun x=>if x.2 then some ⟨x.1.c0,x.1.c1,x.1.c2,0,0⟩ else none
def compSpec (N:Nat) (ts a b:List T5):Prop:=∃sl fl lab,sl.Perm ts∧Sn sl∧LabOk (gE (sl.map eOf)) (fun i=>i<sl.length) N (-1) lab∧forestOk (sl.map eOf) fl∧a=labT lab∧b=forT sl fl
theorem labT_take {l:List Int} {v:Nat} {x:Int} (h:l[v]? =some x):(labT l).take (v+1)=(labT l).take v++[⟨(v:Int),x,0,0,0⟩]:=by
 obtain⟨hv,rfl⟩:=List.getElem?_eq_some_iff.1 h
 unfold labT
 rw[List.take_add_one,List.getElem?_map,List.getElem?_range hv]
 simp[hv]
theorem forT_take {sl:List T5} {fl:List Bool} {i:Nat} {t:T5} {b:Bool} (h1:sl[i]? =some t) (h2:fl[i]? =some b):
  forT (sl.take (i+1)) (fl.take (i+1))=forT (sl.take i) (fl.take i)++(if b then[⟨t.c0,t.c1,t.c2,0,0⟩] else[]):=by
 obtain⟨ha,rfl⟩:=List.getElem?_eq_some_iff.1 h1
 obtain⟨hb,rfl⟩:=List.getElem?_eq_some_iff.1 h2
 unfold forT
 rw[List.take_add_one,List.take_add_one,List.getElem?_eq_getElem ha,List.getElem?_eq_getElem hb,List.zip_append (by simp;omega),List.filterMap_append]
 congr 1
 simp only[Option.toList_some,List.zip_cons_cons,List.zip_nil_left,List.filterMap_cons,List.filterMap_nil]
 cases fl[i]<;>rfl
theorem flat_append (a b:List T5):flat (a++b)=flat a++flat b:=by rw[flat_fm,flat_fm,flat_fm,List.flatMap_append]
structure CoX where
 i:Nat
 p:Option Addr
 k:Nat
 cap:Nat
 ch:Chunk
theorem Comp15ct (N:Nat) (hN:N≤1000000) (p:Option Addr) (m cap:Nat) (ts:List T5) (c:Chunk) (hv:RV p m ts c) (hm:m≤1000000) (ho:edgesOk N ts):
  Ct Tryz.prog 64 [.int .i64 (N:Int),.slice p m cap] [c] fun v H'=>∃pa na ka ca pb nb kb cb a b,v= .tuple #[.slice pa na ka,.slice pb nb kb,.bool true]∧H'=[c,ca,cb]∧RV pa na a ca∧RV pb nb b cb∧nb≤m∧compSpec N ts a b:=by
 have hE:=Edges15ct N (by omega) p m cap ts c hv hm
 rw[dec_true ho] at hE
 have hG:=Graph15ct N p m cap ts c hv hm
 refine Ct.intro Tryz.func64 rfl Tryz.ntmps64 (nle rfl) fun w0=> ?_;dsimp only[argSlots,Nat.reduceAdd]
 repeat(first|(refine st ?_;intros)|refine G.draw [] (h:= ?_)|(refine cq hE ?_))
 refine R.call (hct:=hG) (h:= ?_)
 rintro _ _ ⟨sl,pe,ce,he,pn,cn,hn,rfl,rfl,hVe,hVn,hp,hs⟩
 try dsimp only[List.cons_append,List.nil_append]
 have hsl:sl.length=m:=hp.length_eq.trans hv.1
 have hR:Rw ecl 2 pe m (sl.map eOf) he:=Rw.ofVec ecl_len hVe (by omega)
 have hin:∀e∈sl.map eOf,inE N e:=by
  intro e he
  obtain⟨t,ht,rfl⟩:=List.mem_map.1 he
  obtain⟨_,h1,h2,h3,h4⟩:=ho.1 t (hp.mem_iff.1 ht)
  exact⟨h1,h3,h2,h4⟩
 have hLb:=Labels_ct N hN pe m ce (sl.map eOf) he hR hm hin none 0 0 [] [] ⟨rfl,.inl ⟨rfl,rfl⟩⟩ (by omega) (-1)
 have hFo:=Forest15ct N hN pe m ce (sl.map eOf) he hR hm hin
 unfold gv at hLb hFo⊢
 repeat(first|(refine st ?_;intros)|refine G.draw [] (h:= ?_)|(refine cq hE ?_))
 refine R.call (hct:=hLb) (h:= ?_)
 rintro _ _ ⟨bl,lab,rfl,rfl,hL⟩
 try dsimp only[List.cons_append,List.nil_append]
 repeat(first|(refine st ?_;intros)|refine G.draw [] (h:= ?_)|(refine cq hE ?_))
 rename_i b7
 have hLl:=hL.len
 have hL2:LabOk (gE (sl.map eOf)) (fun i=>i<sl.length) N (-1) lab:=by
  have hact:∀i,actE (sl.map eOf) [] (-1) i↔i<sl.length:=fun i=>by
   constructor
   ·rintro⟨e,h1,_⟩
    have:=(List.getElem?_eq_some_iff.1 h1).1
    rwa[List.length_map] at this
   ·intro hi
    have h1:(sl.map eOf)[i]? =some (eOf sl[i]):=by simp[hi]
    have h2:=hin _ (List.mem_of_getElem? h1)
    unfold inE at h2
    exact⟨_,h1,by omega,by omega,by simp⟩
  refine⟨hL.len,fun v hv hvw=> ?_,hL.out⟩
  obtain⟨x,a1,a2,a3,a4⟩:=hL.at_ v hv hvw
  exact⟨x,a1,(Cn.congr hact).1 a2,a3,fun u hu=>a4 u ((Cn.congr hact).2 hu)⟩
 have hmx:∀x:Nat,x≤1000000→x+1≤maxLen:=fun x hx=>by simp only[maxLen];omega
 refine G.loop (X:=CoX) (fun x=>x.i≤N∧Vec 47 5 x.p x.i x.cap (flat ((labT lab).take x.i)) x.ch)
  (fun x=>[(12,.int .i64 (x.i:Int)),(11,.slice (some ⟨bl,0,none⟩) N N),(10,.slice none 0 0),(9,.slice x.p x.i x.cap),(8,.slice pn m cn),(7,pv b7),(0,.int .i64 (N:Int))])
  (fun x=>[[(b7,row [.int .i64 (N:Int),.slice pe m ce] 37)],[(bl,row (rcells lab) 3)],c,he,hn,x.ch]) (fun x=>N-x.i) ⟨0,none,0,0,[]⟩ ⟨Nat.zero_le _,Vec.nil _ _⟩ (by repeat(first|exact trivial|refine⟨rfl,?_⟩)) (by repeat(first|exact Split.nil|(apply Split.cons;·(first|exact Take.nil|(repeat(first|exact Take.here|apply Take.there)))))) ?_
 rintro⟨i,p1,_,c1,ch⟩ ⟨hi,hV⟩
 dsimp only at hi hV⊢
 by_cases hlt:i<N
 ·obtain⟨x,hx⟩:∃x,lab[i]? =some x:=⟨lab[i]'(by omega),List.getElem?_eq_getElem (by omega)⟩
  have hcx:=rcells_get hx
  have hm1:=hmx i (by omega)
  repeat(first|(refine st ?_;intros)|refine G.draw [] (h:= ?_)|(refine cq hE ?_))
  rename_i p' cap' ch' hV'
  refine Dn.round ⟨i+1,p',0,cap',ch'⟩ ⟨hlt,by rw[labT_take hx,flat_append];exact hV'⟩ (by dsimp only;omega)
 obtain rfl:i=N:=by omega
 have hla:(labT lab).length=i:=by simp[labT,hLl]
 rw[List.take_of_length_le (by omega)] at hV
 clear hlt
 repeat(first|(refine st ?_;intros)|refine G.draw [] (h:= ?_)|(refine cq hE ?_))
 refine R.call (hct:=hFo) (h:= ?_)
 rintro _ _ ⟨bi,fl,rfl,rfl,hF⟩
 try dsimp only[List.cons_append,List.nil_append]
 have hfl:=hF.1
 rw[List.length_map] at hfl
 repeat(first|(refine st ?_;intros)|refine G.draw [] (h:= ?_)|(refine cq hE ?_))
 refine G.loop (X:=CoX) (fun x=>x.i≤m∧x.k=(forT (sl.take x.i) (fl.take x.i)).length∧x.k≤x.i∧Vec 47 5 x.p x.k x.cap (flat (forT (sl.take x.i) (fl.take x.i))) x.ch)
  (fun x=>[(14,.int .i64 (x.i:Int)),(13,.slice (some ⟨bi,0,none⟩) m m),(10,.slice x.p x.k x.cap),(9,.slice p1 i c1),(8,.slice pn m cn),(7,pv b7)])
  (fun x=>[[(b7,row [.int .i64 (i:Int),.slice pe m ce] 37)],[(bi,row (bcells fl) 4)],c,he,hn,ch,x.ch]) (fun x=>m-x.i) ⟨0,none,0,0,[]⟩ ⟨Nat.zero_le _,by simp[forT],Nat.le_refl _,by simpa[forT,flat] using Vec.nil 47 5⟩ (by repeat(first|exact trivial|refine⟨rfl,?_⟩)) (by repeat(first|exact Split.nil|(apply Split.cons;·(first|exact Take.nil|(repeat(first|exact Take.here|apply Take.there)))))) ?_
 rintro⟨j,p2,k,c2,ch2⟩ ⟨hj,hk,hkj,hV2⟩
 dsimp only at hj hk hkj hV2⊢
 by_cases hlt:j<m
 ·have hjt:sl[j]? =some sl[j]:=List.getElem?_eq_getElem (by omega)
  have hjf:fl[j]? =some fl[j]:=List.getElem?_eq_getElem (by omega)
  have htk:=forT_take hjt hjf
  have hcb:(bcells fl)[j]? =some (.bool fl[j]):=by unfold bcells;rw[List.getElem?_map,hjf];rfl
  obtain⟨eb,re,rfl,rfl,hre,hce,hcm⟩:=vpos1 hVe (by omega)
  obtain⟨nb,rn,rfl,rfl,hrn,hcn,hcm2⟩:=vpos1 hVn (by omega)
  obtain⟨l1,l2,hspl,hl1⟩:∃l1 l2,sl=l1++sl[j]::l2∧l1.length=j:=⟨sl.take j,sl.drop (j+1),by rw[←List.drop_eq_getElem_cons (by omega),List.take_append_drop],by simp;omega⟩
  have g0:=n_get l1 l2 sl[j] rn hl1
  have g1:=e_cut l1 l2 sl[j] re hl1
  rw[←hspl] at g0 g1
  generalize sl[j]'(by omega)=t at*
  generalize fl[j]'(by omega)=o at*
  have ga:(ecells5 sl++re)[j*2]? =some (.int .i64 t.c1):=by have:=congrArg (fun l=>l[0]?) g1;simpa[List.getElem?_take,List.getElem?_drop] using this
  have gb:(ecells5 sl++re)[j*2+1]? =some (.int .i64 t.c2):=by have:=congrArg (fun l=>l[1]?) g1;simpa[List.getElem?_take,List.getElem?_drop] using this
  have hm1:=hmx k (by omega)
  cases o with
  |true=>
   simp only[if_true] at htk
   repeat(first|(refine st ?_;intros)|refine G.draw [] (h:= ?_)|(refine cq hE ?_))
   rename_i p' cap' ch' hV'
   refine Dn.round ⟨j+1,p',k+1,cap',ch'⟩ ⟨hlt,by rw[htk,List.length_append,←hk];rfl,by dsimp only;omega,by rw[htk,flat_append];exact hV'⟩ (by dsimp only;omega)
  |false=>
   simp only[Bool.false_eq_true,if_false,List.append_nil] at htk
   repeat(first|(refine st ?_;intros)|refine G.draw [] (h:= ?_)|(refine cq hE ?_))
   refine Dn.round ⟨j+1,p2,k,c2,ch2⟩ ⟨hlt,by rw[htk];exact hk,by dsimp only;omega,by rw[htk];exact hV2⟩ (by dsimp only;omega)
 ·obtain rfl:j=m:=by omega
  rw[List.take_of_length_le (by omega),List.take_of_length_le (by omega)] at hV2
  repeat(first|(refine st ?_;intros)|refine G.draw [] (h:= ?_)|(refine cq hE ?_))
  (refine Dn.post (Hr:=[c,ch,ch2]) Tryz.results64 (hR:= ?_);exact⟨p1,i,c1,ch,p2,k,c2,ch2,_,_,rfl,rfl,RV.vec hV,RV.vec hV2,hkj,sl,fl,lab,hp,hs,hL2,hF,rfl,rfl⟩)
def lessB (a b:T5):Bool:=decide (a.c1<b.c1∨a.c1=b.c1∧(a.c2<b.c2∨a.c2=b.c2∧a.c0<b.c0))
theorem lessB_iff {a b:T5}:lessB a b=true↔a.c1<b.c1∨a.c1=b.c1∧(a.c2<b.c2∨a.c2=b.c2∧a.c0<b.c0):=decide_eq_true_iff
theorem lessB_swo:Go.Srt.Swo lessB where
 asym a b h:=by
  rw[lessB_iff] at h
  cases hb:lessB b a with
  |false=>rfl
  |true=>rw[lessB_iff] at hb;omega
 ntrans a b c h1 h2:=by
  cases hc:lessB a c with
  |false=>rfl
  |true=>
   have n1:¬(lessB a b=true):=by rw[h1];decide
   have n2:¬(lessB b c=true):=by rw[h2];decide
   rw[lessB_iff] at n1 n2 hc
   omega
theorem less16ct (a b:T5):CtQ Tryz.prog 141 [tv a,tv b] [] (.bool (lessB a b)):=by
 have htv:∀t:T5,tv t= .agg #[.int .i64 t.c0,.int .i64 t.c1,.int .i64 t.c2,.int .i64 t.c3,.int .i64 t.c4]:=fun _=>rfl
 rw[htv,htv]
 by_cases h1:a.c1=b.c1
 ·by_cases h2:a.c2=b.c2
  ·have e:dec (a.c0<b.c0)=lessB a b:=by rw[dec_eq];unfold lessB;exact decide_eq_decide.2 (by omega)
   refine Ct.intro Tryz.func141 rfl Tryz.ntmps141 (nle rfl) fun w0=> ?_;dsimp only[argSlots,Nat.reduceAdd]
   repeat(refine st ?_;intros)
   (refine Dn.post (Hr:=[]) Tryz.results141 (hR:= ?_);exact⟨congrArg Value.bool e,rfl⟩)
  ·have e:dec (a.c2<b.c2)=lessB a b:=by rw[dec_eq];unfold lessB;exact decide_eq_decide.2 (by omega)
   refine Ct.intro Tryz.func141 rfl Tryz.ntmps141 (nle rfl) fun w0=> ?_;dsimp only[argSlots,Nat.reduceAdd]
   repeat(refine st ?_;intros)
   (refine Dn.post (Hr:=[]) Tryz.results141 (hR:= ?_);exact⟨congrArg Value.bool e,rfl⟩)
 ·have e:dec (a.c1<b.c1)=lessB a b:=by rw[dec_eq];unfold lessB;exact decide_eq_decide.2 (by omega)
  refine Ct.intro Tryz.func141 rfl Tryz.ntmps141 (nle rfl) fun w0=> ?_;dsimp only[argSlots,Nat.reduceAdd]
  repeat(refine st ?_;intros)
  (refine Dn.post (Hr:=[]) Tryz.results141 (hR:= ?_);exact⟨congrArg Value.bool e,rfl⟩)
theorem t_cut (A B:List T5) (t:T5) (r:List Value) {k:Nat} (hk:A.length=k):((flat (A++t::B)++r).drop (k*5)).take 5=[.int .i64 t.c0,.int .i64 t.c1,.int .i64 t.c2,.int .i64 t.c3,.int .i64 t.c4]:=by
 rw[flat_fm]
 exact fm_cutR (k:=5) tcells_len (l:=A++t::B) (i:=k) (a:=t) (by subst hk;simp) r
theorem t_set (A B:List T5) (t u:T5) (r:List Value) {k:Nat} (hk:A.length=k):setL (flat (A++t::B)++r) (k*5) [.int .i64 u.c0,.int .i64 u.c1,.int .i64 u.c2,.int .i64 u.c3,.int .i64 u.c4]=flat (A++u::B)++r:=by
 rw[flat_fm,flat_fm]
 have h:=fm_set (k:=5) tcells_len (A++t::B) k u r (by subst hk;simp)
 have h2:(A++t::B).set k u=A++u::B:=by subst hk;simp
 rw[h2] at h
 exact h
theorem flat_len5 (a:List T5):(flat a).length=a.length*5:=by rw[flat_fm,fm_len tcells_len]
def PutR (l:List T5) (t:T5) (r:List T5):Prop:=∃A B,l=A++B∧r=A++t::B∧(∀b∈B,lessB t b=true)∧∀x,A.getLast? =some x→lessB t x=false
def Sa (l:List T5):Prop:=l.Pairwise fun a b=>lessB b a=false
theorem PutR.perm {l r:List T5} {t:T5} (h:PutR l t r):r.Perm (t::l):=by
 obtain⟨A,B,rfl,rfl,_⟩:=h
 exact List.perm_middle
theorem PutR.sa {l r:List T5} {t:T5} (h:PutR l t r) (hs:Sa l):Sa r:=by
 obtain⟨A,B,rfl,rfl,hB,hA⟩:=h
 unfold Sa at hs⊢
 rw[List.pairwise_append] at hs⊢
 have hAt:∀a∈A,lessB t a=false:=by
  intro a ha
  rcases List.eq_nil_or_concat A with rfl|⟨A',x,rfl⟩
  ·simp at ha
  ·rw[List.concat_eq_append] at*
   have hx:=hA x (by simp)
   rcases List.mem_append.1 ha with h|h
   ·have h1:=(List.pairwise_append.1 hs.1).2.2 a h x (by simp)
    exact lessB_swo.ntrans _ _ _ hx h1
   ·simp only[List.mem_singleton] at h;subst h;exact hx
 rw[List.pairwise_cons]
 exact⟨hs.1,⟨fun b hb=>lessB_swo.asym _ _ (hB b hb),hs.2.1⟩,fun a ha b hb=>by
  rcases List.mem_cons.1 hb with rfl|hb
  ·exact hAt a ha
  ·exact hs.2.2 a ha b hb⟩
structure PutX where
 kz:Int
 A:List T5
 B:List T5
theorem put16ct (p:Option Addr) (m cap:Nat) (l:List T5) (c:Chunk) (hV:Vec 47 5 p m cap (flat l) c) (hm:m≤1000000) (t:T5):
  Ct Tryz.prog 121 [.slice p m cap,tv t] [c] fun v H'=>∃p' cap' c' r,v= .slice p' (m+1) cap'∧H'=[c']∧Vec 47 5 p' (m+1) cap' (flat r) c'∧PutR l t r:=by
 have htv:∀t:T5,tv t= .agg #[.int .i64 t.c0,.int .i64 t.c1,.int .i64 t.c2,.int .i64 t.c3,.int .i64 t.c4]:=fun _=>rfl
 have hLs:=fun a b=>less16ct a b
 have hl:l.length=m:=by have:=hV.1;rw[flat_len5] at this;omega
 have hmx:m+1≤maxLen:=by simp only[maxLen];omega
 simp only[htv] at hLs
 rw[htv]
 refine Ct.intro Tryz.func121 rfl Tryz.ntmps121 (nle rfl) fun w0=> ?_;dsimp only[argSlots,Nat.reduceAdd]
 repeat(first|(refine st ?_;intros)|refine G.draw (id:=3) [(12,.quiet)] (h:= ?_)|(refine cq hL ?_))
 rename_i b3 b9 p' cap' c' hV'
 have hV2:Vec 47 5 p' (m+1) cap' (flat (l++[t])) c':=by rw[flat_append];exact hV'
 obtain⟨rb,re,rfl,rfl,hre,hce,hcm⟩:=vpos1 hV2 (Nat.succ_pos _)
 clear hV hV'
 rw[flat_len5,List.length_append,List.length_singleton,hl] at hre
 have hw:((m+1:Nat):Int)-1=(m:Int):=by omega
 refine G.loop (X:=PutX) (fun x=>x.A++x.B=l∧x.kz=(x.A.length:Int)∧∀u∈x.B,lessB t u=true)
  (fun x=>[(5,.int .i64 x.kz),(0,.slice (some ⟨rb,0,none⟩) (m+1) cap')])
  (fun x=>[[(rb,row (flat (x.A++t::x.B)++re) 47)]]) (fun x=>x.A.length) ⟨((m+1:Nat):Int)-1,l,[]⟩ ⟨by simp,by dsimp only;omega,by simp⟩ (body:= ?_)
 rintro⟨kz,A,B⟩ ⟨hAB,hkz,hB⟩
 dsimp only at hAB hkz hB⊢
 have hABl:A.length+B.length=m:=by rw[←hl,←hAB,List.length_append]
 have hend:Vec 47 5 (some ⟨rb,0,none⟩) (m+1) cap' (flat (A++t::B)) [(rb,row (flat (A++t::B)++re) 47)]:=
  Vec.mk' rfl (by rw[flat_len5];simp;omega) (by rw[List.length_append,flat_len5];simp;omega) hce hcm
 rcases List.eq_nil_or_concat A with rfl|⟨A',x,rfl⟩
 ·have hk0:kz=0:=by simpa using hkz
  repeat(first|(refine st ?_;intros)|refine G.draw (id:=3) [(12,.quiet)] (h:= ?_)|(refine cq hL ?_))
  (refine Dn.post (Hr:=[[(rb,row (flat ([]++t::B)++re) 47)]]) Tryz.results121 (hR:= ?_);exact⟨_,cap',_,_,rfl,rfl,hend,[],B,hAB.symm,rfl,hB,by simp⟩)
 ·have hkA:kz=((A'.length+1:Nat):Int):=by simpa using hkz
  have ek:kz.toNat=A'.length+1:=by omega
  have ek1:(kz-1).toNat=A'.length:=by omega
  have hA1:A'.length+1+B.length=m:=by simpa using hABl
  have hform:∀u v:T5,(A'++[u])++v::B=A'++u::v::B:=fun u v=>by simp
  rw[List.concat_eq_append] at*
  rw[hform] at hend⊢
  have c1:=t_cut (A'++[x]) B t re (k:=A'.length+1) (by simp)
  have c2:=t_cut A' (t::B) x re rfl
  have s1:=t_set (A'++[x]) B t x re (k:=A'.length+1) (by simp)
  have s2:=t_set A' (x::B) x t re rfl
  simp only[hform] at c1 s1
  have l1:(A'.length+1)*5+5≤(flat (A'++x::t::B)++re).length:=by rw[List.length_append,flat_len5];simp;omega
  have l2:(A'.length+1)*5+5≤(flat (A'++x::x::B)++re).length:=by rw[List.length_append,flat_len5];simp;omega
  have hL:=hLs t x
  cases hxt:lessB t x with
  |true=>
   rw[hxt] at hL
   generalize hr0:flat (A'++x::t::B)++re=r0 at*
   generalize hr1:flat (A'++x::x::B)++re=r1 at*
   repeat(first|(refine st ?_;intros)|refine G.draw (id:=3) [(12,.quiet)] (h:= ?_)|(refine cq hL ?_))
   refine Dn.round ⟨kz-1,A',x::B⟩ ⟨by rw[←hAB];simp,by dsimp only;omega,fun u hu=> ?_⟩ (by simp)
   rcases List.mem_cons.1 hu with rfl|hu
   ·exact hxt
   ·exact hB u hu
  |false=>
   rw[hxt] at hL
   generalize hr0:flat (A'++x::t::B)++re=r0 at*
   repeat(first|(refine st ?_;intros)|refine G.draw (id:=3) [(12,.quiet)] (h:= ?_)|(refine cq hL ?_))
   (refine Dn.post (Hr:=[[(rb,row r0 47)]]) Tryz.results121 (hR:= ?_);exact⟨_,cap',_,A'++x::t::B,rfl,rfl,hend,A'++[x],B,hAB.symm,by simp,hB,fun y hy=>by simp at hy;subst hy;exact hxt⟩)
def arcs2 (a:List T5) (t:T5):List T5:=[⟨2*t.c0,t.c1,t.c2,(at5 a t.c1.toNat).c1,0⟩,⟨2*t.c0+1,t.c2,t.c1,(at5 a t.c1.toNat).c1,0⟩]
def arcsL (a f:List T5):List T5:=f.flatMap (arcs2 a)
theorem arcsL_take {a f:List T5} {i:Nat} {t:T5} (h:f[i]? =some t):arcsL a (f.take (i+1))=arcsL a (f.take i)++arcs2 a t:=by
 unfold arcsL;rw[List.take_add_one,h];simp
structure ArX where
 i:Nat
 n:Nat
 p:Option Addr
 cap:Nat
 ch:Chunk
 r:List T5
theorem Arcs16ct (pa:Option Addr) (na ka:Nat) (a:List T5) (ca:Chunk) (hva:RV pa na a ca) (pf:Option Addr) (nf kf:Nat) (f:List T5) (cf:Chunk) (hvf:RV pf nf f cf) (hn:nf≤100000) (hna:na≤1000000)
  (hf:∀t∈f,0≤t.c0∧t.c0≤1099511627776∧0≤t.c1∧t.c1<na):
  Ct Tryz.prog 99 [.slice pa na ka,.slice pf nf kf] [ca,cf] fun v H'=>∃p cap c r,v= .slice p (2*nf) cap∧H'=[ca,cf,c]∧Vec 47 5 p (2*nf) cap (flat r) c∧r.Perm (arcsL a f)∧Sa r:=by
 have hfl:=hvf.1
 have hal:=hva.1
 have htv:∀t:T5,tv t= .agg #[.int .i64 t.c0,.int .i64 t.c1,.int .i64 t.c2,.int .i64 t.c3,.int .i64 t.c4]:=fun _=>rfl
 refine Ct.intro Tryz.func99 rfl Tryz.ntmps99 (nle rfl) fun w0=> ?_;dsimp only[argSlots,Nat.reduceAdd]
 repeat(first|(refine st ?_;intros)|refine G.draw [] (h:= ?_))
 refine G.loop (X:=ArX) (fun x=>x.i≤nf∧x.n=2*x.i∧Vec 47 5 x.p x.n x.cap (flat x.r) x.ch∧x.r.Perm (arcsL a (f.take x.i))∧Sa x.r)
  (fun x=>[(6,.int .i64 (x.i:Int)),(5,.slice x.p x.n x.cap),(1,.slice pf nf kf),(0,.slice pa na ka)])
  (fun x=>[ca,cf,x.ch]) (fun x=>nf-x.i) ⟨0,0,none,0,[],[]⟩ ⟨Nat.zero_le _,rfl,Vec.nil _ _,by simp[arcsL],List.Pairwise.nil⟩ (by repeat(first|exact trivial|refine⟨rfl,?_⟩)) (by repeat(first|exact Split.nil|(apply Split.cons;·(first|exact Take.nil|(repeat(first|exact Take.here|apply Take.there)))))) ?_
 rintro⟨i,n,p,cap,ch,r⟩ ⟨hi,hni,hV,hp,hs⟩
 dsimp only at hi hni hV hp hs⊢
 by_cases hlt:i<nf
 ·obtain⟨b,off,cs,T,fz,rfl,rfl,_,hget⟩:=(RV.rw hvf).pos tcells_len (by omega)
  have hit:f[i]? =some f[i]:=List.getElem?_eq_getElem (by omega)
  have q0:=hget i 0 _ _ hit rfl
  have q1:=hget i 1 _ _ hit rfl
  have q2:=hget i 2 _ _ hit rfl
  rw[Nat.add_zero] at q0
  obtain⟨f1,f2,f3,f4⟩:=hf _ (List.mem_of_getElem? hit)
  have htk:=arcsL_take (a:=a) hit
  generalize ht:f[i]=t at*
  obtain⟨u,hu⟩:∃u:Nat,t.c1=(u:Int):=⟨t.c1.toNat,by omega⟩
  have hut:t.c1.toNat=u:=by omega
  obtain⟨b2,off2,cs2,T2,fz2,rfl,rfl,_,hget2⟩:=(RV.rw hva).pos tcells_len (by omega)
  have hat:a[u]? =some a[u]:=List.getElem?_eq_getElem (by omega)
  have r1:=hget2 u 1 _ _ hat rfl
  have hat5:at5 a t.c1.toNat=a[u]:=by rw[hut];unfold at5;rw[List.getD_eq_getElem?_getD,hat];rfl
  generalize ha:a[u]=w at*
  have e1:IntKind.wrap .i64 (2*t.c0)=2*t.c0:=wrap_i64 (by omega)
  have e2:IntKind.wrap .i64 (2*t.c0+1)=2*t.c0+1:=wrap_i64 (by omega)
  have hP:=put16ct p n cap r ch hV (by omega) ⟨2*t.c0,t.c1,t.c2,w.c1,0⟩
  rw[htv] at hP
  repeat(first|(refine st ?_;intros)|refine G.draw [] (h:= ?_))
  refine R.call (hct:=hP) (h:= ?_)
  rintro _ _ ⟨p1,cap1,ch1,r1',rfl,rfl,hV1,hR1⟩
  try dsimp only[List.cons_append,List.nil_append]
  have hP2:=put16ct p1 (n+1) cap1 r1' ch1 hV1 (by omega) ⟨2*t.c0+1,t.c2,t.c1,w.c1,0⟩
  rw[htv] at hP2
  repeat(first|(refine st ?_;intros)|refine G.draw [] (h:= ?_))
  refine R.call (hct:=hP2) (h:= ?_)
  rintro _ _ ⟨p2,cap2,ch2,r2,rfl,rfl,hV2,hR2⟩
  try dsimp only[List.cons_append,List.nil_append]
  repeat(first|(refine st ?_;intros)|refine G.draw [] (h:= ?_))
  refine Dn.round ⟨i+1,n+1+1,p2,cap2,ch2,r2⟩ ⟨hlt,by dsimp only;omega,hV2,?_,hR2.sa (hR1.sa hs)⟩ (by dsimp only;omega)
  dsimp only
  rw[htk]
  unfold arcs2
  rw[hat5]
  refine hR2.perm.trans (((hR1.perm.trans (hp.cons _)).cons _).trans ?_)
  refine(List.Perm.swap _ _ _).trans ?_
  exact List.perm_append_comm (l₁:=[_,_])
 ·obtain rfl:i=nf:=by omega
  rw[List.take_of_length_le (by omega)] at hp
  obtain rfl:=hni
  repeat(first|(refine st ?_;intros)|refine G.draw [] (h:= ?_))
  (refine Dn.post (Hr:=[ca,cf,ch]) Tryz.results99 (hR:= ?_);exact⟨p,cap,ch,r,rfl,rfl,hV,hp,hs⟩)
def headF (r:List T5):Nat→Nat
 |0=>0
 |k+1=>if(at5 r k).c1=(at5 r (k+1)).c1 then headF r k else k+1
def behindF (r:List T5) (k:Nat):Nat:=if k+1<r.length∧(at5 r (k+1)).c1=(at5 r k).c1 then k+1 else headF r k
theorem at5get {r:List T5} {k:Nat} (h:k<r.length):r[k]? =some (at5 r k):=by unfold at5;rw[List.getD_eq_getElem?_getD,List.getElem?_eq_getElem h];rfl
theorem headF_le (r:List T5):∀k,headF r k≤k
 |0=>Nat.le_refl _
 |k+1=>by unfold headF;split;exact Nat.le_succ_of_le (headF_le r k);exact Nat.le_refl _
theorem behindF_lt {r:List T5} {k:Nat} (h:k<r.length):behindF r k<r.length:=by
 unfold behindF;split
 ·omega
 ·have:=headF_le r k;omega
theorem behind16ct (p:Option Addr) (m cap:Nat) (r:List T5) (c:Chunk) (hv:RV p m r c) (hm:m≤1000000) (k:Nat) (hk:k<m):
  CtQ Tryz.prog 100 [.slice p m cap,.int .i64 (k:Int)] [c] (.int .i64 (behindF r k:Int)):=by
 have hl:=hv.1
 obtain⟨b,off,cs,T,fz,rfl,rfl,_,hget⟩:=(RV.rw hv).pos tcells_len (by omega)
 have hg:∀j,j<m→cs[off+j*5+1]? =some (.int .i64 (at5 r j).c1):=fun j hj=>hget j 1 _ _ (at5get (by omega)) rfl
 have q0:=hg k hk
 have ek:((k:Int)+1).toNat=k+1:=by omega
 by_cases h1:k+1<m
 ·have q1:=hg (k+1) h1
  by_cases h2:(at5 r (k+1)).c1=(at5 r k).c1
  ·have hb:behindF r k=k+1:=by unfold behindF;rw[if_pos ⟨by omega,h2⟩]
   have hb2:((behindF r k:Nat):Int)=(k:Int)+1:=by omega
   rw[hb2]
   refine Ct.intro Tryz.func100 rfl Tryz.ntmps100 (nle rfl) fun w0=> ?_;dsimp only[argSlots,Nat.reduceAdd]
   repeat(first|(refine st ?_;intros)|refine G.draw [] (h:= ?_))
   (refine Dn.post (Hr:=[[(b,rowf cs T fz)]]) Tryz.results100 (hR:= ?_);exact⟨rfl,rfl⟩)
  ·have hb:behindF r k=headF r k:=by unfold behindF;rw[if_neg (fun h=>h2 h.2)]
   rw[hb]
   refine Ct.intro Tryz.func100 rfl Tryz.ntmps100 (nle rfl) fun w0=> ?_;dsimp only[argSlots,Nat.reduceAdd]
   repeat(first|(refine st ?_;intros)|refine G.draw [] (h:= ?_))
   refine G.loop (X:=Int) (fun z=>0≤z∧z<(m:Int)∧headF r z.toNat=headF r k) (fun z=>[(1,.int .i64 z),(0,.slice (some ⟨b,off,none⟩) m cap)])
    (fun _=>[[(b,rowf cs T fz)]]) (fun z=>z.toNat) (k:Int) ⟨by omega,by omega,by rw[Int.toNat_natCast]⟩ (body:= ?_)
   rintro z ⟨z0,zm,hz⟩
   obtain⟨j,rfl⟩:∃j:Nat,z=(j:Int):=⟨z.toNat,by omega⟩
   have ej:((j:Int)).toNat=j:=Int.toNat_natCast j
   rw[ej] at hz
   cases j with
   |zero=>
    have hh:headF r k=0:=by rw[←hz];rfl
    repeat(first|(refine st ?_;intros)|refine G.draw [] (h:= ?_))
    (refine Dn.post (Hr:=[[(b,rowf cs T fz)]]) Tryz.results100 (hR:= ?_);exact⟨congrArg (Value.int .i64) (by omega),rfl⟩)
   |succ j=>
    have w0:=hg (j+1) (by omega)
    have w1:=hg j (by omega)
    have ej1:(((j+1:Nat):Int)-1).toNat=j:=by omega
    have ej2:((j+1:Nat):Int)-1=(j:Int):=by omega
    by_cases h3:(at5 r j).c1=(at5 r (j+1)).c1
    ·have hs:headF r (j+1)=headF r j:=by rw[headF,if_pos h3]
     repeat(first|(refine st ?_;intros)|refine G.draw [] (h:= ?_))
     refine Dn.round (((j+1:Nat):Int)-1) ⟨by omega,by omega,by rw[ej1,←hz,hs]⟩ (by omega)
    ·have hs:headF r (j+1)=j+1:=by rw[headF,if_neg h3]
     repeat(first|(refine st ?_;intros)|refine G.draw [] (h:= ?_))
     (refine Dn.post (Hr:=[[(b,rowf cs T fz)]]) Tryz.results100 (hR:= ?_);exact⟨congrArg (Value.int .i64) (by omega),rfl⟩)
 ·have hb:behindF r k=headF r k:=by unfold behindF;rw[if_neg (fun h=>h1 (by omega))]
  rw[hb]
  refine Ct.intro Tryz.func100 rfl Tryz.ntmps100 (nle rfl) fun w0=> ?_;dsimp only[argSlots,Nat.reduceAdd]
  repeat(first|(refine st ?_;intros)|refine G.draw [] (h:= ?_))
  refine G.loop (X:=Int) (fun z=>0≤z∧z<(m:Int)∧headF r z.toNat=headF r k) (fun z=>[(1,.int .i64 z),(0,.slice (some ⟨b,off,none⟩) m cap)])
   (fun _=>[[(b,rowf cs T fz)]]) (fun z=>z.toNat) (k:Int) ⟨by omega,by omega,by rw[Int.toNat_natCast]⟩ (body:= ?_)
  rintro z ⟨z0,zm,hz⟩
  obtain⟨j,rfl⟩:∃j:Nat,z=(j:Int):=⟨z.toNat,by omega⟩
  have ej:((j:Int)).toNat=j:=Int.toNat_natCast j
  rw[ej] at hz
  cases j with
  |zero=>
   have hh:headF r k=0:=by rw[←hz];rfl
   repeat(first|(refine st ?_;intros)|refine G.draw [] (h:= ?_))
   (refine Dn.post (Hr:=[[(b,rowf cs T fz)]]) Tryz.results100 (hR:= ?_);exact⟨congrArg (Value.int .i64) (by omega),rfl⟩)
  |succ j=>
   have w0:=hg (j+1) (by omega)
   have w1:=hg j (by omega)
   have ej1:(((j+1:Nat):Int)-1).toNat=j:=by omega
   have ej2:((j+1:Nat):Int)-1=(j:Int):=by omega
   by_cases h3:(at5 r j).c1=(at5 r (j+1)).c1
   ·have hs:headF r (j+1)=headF r j:=by rw[headF,if_pos h3]
    repeat(first|(refine st ?_;intros)|refine G.draw [] (h:= ?_))
    refine Dn.round (((j+1:Nat):Int)-1) ⟨by omega,by omega,by rw[ej1,←hz,hs]⟩ (by omega)
   ·have hs:headF r (j+1)=j+1:=by rw[headF,if_neg h3]
    repeat(first|(refine st ?_;intros)|refine G.draw [] (h:= ?_))
    (refine Dn.post (Hr:=[[(b,rowf cs T fz)]]) Tryz.results100 (hR:= ?_);exact⟨congrArg (Value.int .i64) (by omega),rfl⟩)
end Go.Proofs.YtlnehgklibbjiaaGreat
