/-
  Parts of the proof, put together: Names20, Blocks20, EdT, LawP, Work21, Law21, CutP, Cuts21, Sg. No condition.
-/
import Derived.Test.YtlnehgklibbjiaaGreatE23
set_option linter.unusedVariables false
set_option linter.unusedSimpArgs false
set_option linter.unnecessarySimpa false
set_option maxHeartbeats 4000000
namespace Go.Proofs.YtlnehgklibbjiaaGreat
open Go.SL Go.Tup Go.Gr
def eAt (es:List IE) (i:Nat):IE:=es.getD i (0,0)
theorem eAt_get {es:List IE} {i:Nat} (h:i<es.length):es[i]? =some (eAt es i):=by
 unfold eAt;rw[List.getD_eq_getElem?_getD,List.getElem?_eq_getElem h];rfl
theorem eAt_in {N:Int} {es:List IE} (hf:∀e∈es,inE N e) {i:Nat} (h:i<es.length):inE N (eAt es i):=hf _ (List.mem_of_getElem? (eAt_get h))
def lAt (ls:List (List Int)) (v:Nat):List Int:=ls.getD v []
theorem lAt_get {ls:List (List Int)} {v:Nat} (h:v<ls.length):ls[v]? =some (lAt ls v):=by
 unfold lAt;rw[List.getD_eq_getElem?_getD,List.getElem?_eq_getElem h];rfl
def sdE (es:List IE) (ls:List (List Int)) (v i:Nat):Int:=sideF (lAt ls v) (eAt es i) (v:Int)
def sgB (N:Nat) (es:List IE) (ls:List (List Int)) (a b:Nat):Bool:=(List.range N).all fun v=>decide (sdE es ls v a=sdE es ls v b)
theorem sgB_iff {N:Nat} {es:List IE} {ls:List (List Int)} {a b:Nat}:sgB N es ls a b=true↔∀v,v<N→sdE es ls v a=sdE es ls v b:=by
 unfold sgB;simp[List.all_eq_true]
theorem sgB_self (N:Nat) (es:List IE) (ls:List (List Int)) (a:Nat):sgB N es ls a a=true:=sgB_iff.2 fun _ _=>rfl
theorem together_ct (N:Nat) (hN:N≤1000000) (p:Option Addr) (m cap:Nat) (es:List IE) (c:Chunk) (hv:Rw ecl 2 p m es c) (hm:m≤1000000) (hf:∀e∈es,inE N e) (pa:Option Addr) (ka:Nat) (cv cr:Chunk) (ls:List (List Int)) (hA:ApIn N pa ka ls cv cr) (hO:ApOk N es ls)
  (a b:Nat) (ha:a<m) (hb:b<m):CtQ Tryz.prog 103 [gv N p m cap,.slice pa N ka,.int .i64 (a:Int),.int .i64 (b:Int)] [c,cv,cr] (.bool (sgB N es ls a b)):=by
 have hl:=hv.1
 obtain⟨bl,hbl,hV,rfl⟩:=hA
 unfold gv
 by_cases hab:a=b
 ·subst hab
  rw[sgB_self]
  refine Ct.intro Tryz.func103 rfl Tryz.ntmps103 (nle rfl) fun w0=> ?_;dsimp only[argSlots,Nat.reduceAdd]
  repeat(first|(refine st ?_;intros)|refine G.draw (id:=6) [(10,.quiet),(21,.quiet)] (h:= ?_)|(refine cq hS1 ?_)|(refine cq hS2 ?_))
  (refine Dn.post (Hr:=[c,cv,rowsC bl ls]) Tryz.results103 (hR:= ?_);exact⟨rfl,rfl⟩)
 have hab2:(a:Int)≠(b:Int):=by omega
 obtain⟨b0,off,cs,T,fz,rfl,rfl,hcut,_⟩:=hv.pos ecl_len (by omega)
 have ha1:=eAt_get (es:=es) (i:=a) (by omega)
 have hb1:=eAt_get (es:=es) (i:=b) (by omega)
 have hai:=eAt_in hf (i:=a) (by omega)
 have hbi:=eAt_in hf (i:=b) (by omega)
 have hca:=hcut a _ ha1
 have hcb:=hcut b _ hb1
 have hsd:∀v i,sdE es ls v i=sideF (lAt ls v) (eAt es i) (v:Int):=fun _ _=>rfl
 have hsa:=fun v=>hsd v a
 have hsb:=fun v=>hsd v b
 have hsg:=sgB_iff (N:=N) (es:=es) (ls:=ls) (a:=a) (b:=b)
 generalize eAt es a=ea at*
 generalize eAt es b=eb at*
 obtain⟨ax,ay⟩:=ea
 obtain⟨bx,by_⟩:=eb
 have hca':(cs.drop (off+a*2)).take 2=[.int .i64 ax,.int .i64 ay]:=hca
 have hcb':(cs.drop (off+b*2)).take 2=[.int .i64 bx,.int .i64 by_]:=hcb
 refine Ct.intro Tryz.func103 rfl Tryz.ntmps103 (nle rfl) fun w0=> ?_;dsimp only[argSlots,Nat.reduceAdd]
 repeat(first|(refine st ?_;intros)|refine G.draw (id:=6) [(10,.quiet),(21,.quiet)] (h:= ?_)|(refine cq hS1 ?_)|(refine cq hS2 ?_))
 rename_i b4
 refine G.loop (X:=Nat) (fun v=>v≤N∧∀u,u<v→sdE es ls u a=sdE es ls u b) (fun v=>[(9,.int .i64 (v:Int)),(4,pv b4),(1,.slice pa N ka),(2,.int .i64 (a:Int)),(3,.int .i64 (b:Int))])
  (fun _=>[[(b4,row [.int .i64 (N:Int),.slice (some ⟨b0,off,none⟩) m cap] 37)],[(b0,rowf cs T fz)],cv,rowsC bl ls]) (fun v=>N-v) 0 ⟨Nat.zero_le _,by omega⟩ (body:= ?_)
 rintro v ⟨hvN,hal⟩
 by_cases hlt:v<N
 ·obtain⟨vb,rest,rfl,rfl,_,_,_⟩:∃b rest,pa=some ⟨b,0,none⟩∧cv=[(b,row (bl.map (sv N)++rest) 59)]∧ka*1≤(bl.map (sv N)).length+rest.length∧N≤ka∧ka≤maxLen:=by
   rcases hV.2 with⟨_,e,_⟩|hh
   ·omega
   ·exact hh
  have hvb:bl[v]? =some bl[v]:=List.getElem?_eq_getElem (by omega)
  have hlv:=lAt_get (ls:=ls) (v:=v) (by rw[hO.len];exact hlt)
  have hll:=(hO.lab v _ hlv).len
  have hcell:(bl.map (sv N)++rest)[v]? =some (.slice (some ⟨bl[v],0,none⟩) N N):=by
   rw[List.getElem?_append_left (by simp;omega),List.getElem?_map,hvb];rfl
  have hS1:=side_cr N bl ls v _ _ hvb hlv hll (ax,ay) hai
  have hS2:=side_cr N bl ls v _ _ hvb hlv hll (bx,by_) hbi
  rw[←hsa v] at hS1
  rw[←hsb v] at hS2
  dsimp only at hS1 hS2
  generalize bl.map (sv N)++rest=vs at*
  generalize bl[v]=bv at*
  have hnx:sdE es ls v a=sdE es ls v b→∀u,u<v+1→sdE es ls u a=sdE es ls u b:=fun h u hu=>by
   rcases Nat.eq_or_lt_of_le (Nat.lt_succ_iff.1 hu) with rfl|h1
   ·exact h
   ·exact hal u h1
  have hno:sdE es ls v a≠sdE es ls v b→sgB N es ls a b=false:=fun h=>by
   cases hq:sgB N es ls a b with
   |false=>rfl
   |true=>exact(h (hsg.1 hq v hlt)).elim
  generalize sdE es ls v a=x at*
  generalize sdE es ls v b=y at*
  by_cases hxy:x=y
  ·repeat(first|(refine st ?_;intros)|refine G.draw (id:=6) [(10,.quiet),(21,.quiet)] (h:= ?_)|(refine cq hS1 ?_)|(refine cq hS2 ?_))
   refine Dn.round (v+1) ⟨hlt,hnx hxy⟩ (by omega)
  ·rw[hno hxy]
   repeat(first|(refine st ?_;intros)|refine G.draw (id:=6) [(10,.quiet),(21,.quiet)] (h:= ?_)|(refine cq hS1 ?_)|(refine cq hS2 ?_))
   (refine Dn.post (Hr:=[[(b0,rowf cs T fz)],[(vb,row vs 59)],rowsC bl ls]) Tryz.results103 (hR:= ?_);exact⟨rfl,rfl⟩)
 obtain rfl:v=N:=by omega
 rw[hsg.2 hal]
 repeat(first|(refine st ?_;intros)|refine G.draw (id:=6) [(10,.quiet),(21,.quiet)] (h:= ?_)|(refine cq hS1 ?_)|(refine cq hS2 ?_))
 (refine Dn.post (Hr:=[[(b0,rowf cs T fz)],cv,rowsC bl ls]) Tryz.results103 (hR:= ?_);exact⟨rfl,rfl⟩)
def nonL (es:List IE) (i:Nat):Prop:=(eAt es i).1≠(eAt es i).2
structure NameAt (N:Nat) (es:List IE) (ls:List (List Int)) (i:Nat) (x:Int):Prop where
 lp:¬nonL es i→x= -1
 nl:nonL es i→∃k:Nat,x=(k:Int)∧k≤i∧nonL es k∧sgB N es ls i k=true∧∀j,j<k→nonL es j→sgB N es ls i j=false
def iAt (l:List Int) (i:Nat):Int:=l.getD i 0
theorem iAt_get {l:List Int} {i:Nat} (h:i<l.length):l[i]? =some (iAt l i):=getD_some h
theorem iAt_set {l:List Int} {i:Nat} (h:i<l.length) (x:Int) (j:Nat):iAt (l.set i x) j=if i=j then x else iAt l j:=by
 unfold iAt
 rw[List.getD_eq_getElem?_getD,List.getD_eq_getElem?_getD,List.getElem?_set]
 by_cases hij:i=j
 ·subst hij;simp[h]
 ·simp[hij]
structure NmX where
 i:Nat
 nm:List Int
structure NkX where
 k:Nat
 x:Int
theorem zrep_0:∀n,zrep n [Value.int .i64 0]=rcells (List.replicate n 0)
 |0=>rfl
 |n+1=>by rw[List.replicate_succ];show _++_=_;rw[zrep_0 n];rfl
structure NamesOk (N m:Nat) (es:List IE) (ls:List (List Int)) (nm:List Int):Prop where
 len:nm.length=m
 at_:∀i,i<m→NameAt N es ls i (iAt nm i)
theorem Names_ct (N:Nat) (hN:N≤1000000) (p:Option Addr) (m cap:Nat) (es:List IE) (c:Chunk) (hv:Rw ecl 2 p m es c) (hm:m≤1000000) (hf:∀e∈es,inE N e):
  Ct Tryz.prog 67 [gv N p m cap] [c] fun v H'=>∃bn nm ls,v= .slice (some ⟨bn,0,none⟩) m m∧H'=[c,[(bn,row (rcells nm) 3)]]∧ApOk N es ls∧NamesOk N m es ls nm:=by
 have hl:=hv.1
 have hAp:=Apart_ct N hN p m cap es c hv hm hf
 unfold gv at hAp⊢
 refine Ct.intro Tryz.func67 rfl Tryz.ntmps67 (nle rfl) fun w0=> ?_;dsimp only[argSlots,Nat.reduceAdd]
 repeat(first|(refine st ?_;intros)|refine G.draw [] (h:= ?_)|refine G.draw (id:=10) [(18,.quiet)] (h:= ?_)|(refine cq hTg ?_))
 rename_i b1
 refine R.call (hct:=hAp) (h:= ?_)
 rintro _ _ ⟨pa,ka,cv,cr,ls,rfl,rfl,hA,hO⟩
 try dsimp only[List.cons_append,List.nil_append]
 have hTo:=fun a b ha hb=>together_ct N hN p m cap es c hv hm hf pa ka cv cr ls hA hO a b ha hb
 unfold gv at hTo
 repeat(first|(refine st ?_;intros)|refine G.draw [] (h:= ?_)|refine G.draw (id:=10) [(18,.quiet)] (h:= ?_)|(refine cq hTg ?_))
 rename_i bn
 rw[zrep_0]
 refine G.loop (X:=NmX) (fun x=>x.i≤m∧x.nm.length=m∧∀j,j<x.i→NameAt N es ls j (iAt x.nm j)) (fun x=>[(5,.int .i64 (x.i:Int)),(4,.slice (some ⟨bn,0,none⟩) m m),(3,.slice pa N ka),(1,pv b1)])
  (fun x=>[[(bn,row (rcells x.nm) 3)],[(b1,row [.int .i64 (N:Int),.slice p m cap] 37)],c,cv,cr]) (fun x=>m-x.i) ⟨0,List.replicate m 0⟩ ⟨Nat.zero_le _,by simp,fun j h=>absurd h (Nat.not_lt_zero _)⟩ (body:= ?_)
 rintro⟨i,nm⟩ ⟨hi,hnl,hnm⟩
 dsimp only at hi hnl hnm⊢
 by_cases hlt:i<m
 rotate_left
 ·obtain rfl:i=m:=by omega
  repeat(first|(refine st ?_;intros)|refine G.draw [] (h:= ?_)|refine G.draw (id:=10) [(18,.quiet)] (h:= ?_)|(refine cq hTg ?_))
  (refine Dn.post (Hr:=[c,[(bn,row (rcells nm) 3)]]) Tryz.results67 (hR:= ?_);exact⟨bn,nm,ls,rfl,rfl,hO,hnl,hnm⟩)
 have hset0:(rcells nm).set i (.int .i64 (-1))=rcells (nm.set i (-1)):=rcells_set _ _ _
 have hrl:(rcells nm).length=m:=by unfold rcells;rw[List.length_map];exact hnl
 repeat(first|(refine st ?_;intros)|refine G.draw [] (h:= ?_)|refine G.draw (id:=10) [(18,.quiet)] (h:= ?_)|(refine cq hTg ?_))
 refine G.loop (X:=NkX) (fun y=>(y.x= -1∧y.k≤i∧∀j,j<y.k→nonL es j→sgB N es ls i j=false)∨(∃q:Nat,y.x=(q:Int)∧y.k=q+1∧NameAt N es ls i (q:Int)∧q≤i))
  (fun y=>[(6,.int .i64 (y.k:Int)),(5,.int .i64 (i:Int)),(4,.slice (some ⟨bn,0,none⟩) m m),(3,.slice pa N ka),(1,pv b1)])
  (fun y=>[[(bn,row (rcells (nm.set i y.x)) 3)],[(b1,row [.int .i64 (N:Int),.slice p m cap] 37)],c,cv,cr]) (fun y=>i+1-y.k) ⟨0,-1⟩ (.inl ⟨rfl,Nat.zero_le _,fun j h=>absurd h (Nat.not_lt_zero _)⟩) (body:= ?_)
 rintro⟨k,x⟩ hk
 dsimp only at hk⊢
 have hgi:(rcells (nm.set i x))[i]? =some (.int .i64 x):=rcells_get (by rw[List.getElem?_set_self (by omega)])
 have hout:NameAt N es ls i x→(∀j,j<i+1→NameAt N es ls j (iAt (nm.set i x) j))∧(nm.set i x).length=m:=fun hx=>by
  refine⟨fun j hj=> ?_,by rw[List.length_set];exact hnl⟩
  rw[iAt_set (by omega)]
  by_cases hij:i=j
  ·subst hij;rw[if_pos rfl];exact hx
  ·rw[if_neg hij];exact hnm j (by omega)
 obtain⟨b0,off,cs,T,fz,rfl,rfl,_,hget⟩:=hv.pos ecl_len (by omega)
 have hei:=eAt_get (es:=es) (i:=i) (by omega)
 have q0:=hget i 0 _ _ hei rfl
 have q1:=hget i 1 _ _ hei rfl
 rw[Nat.add_zero] at q0
 rcases hk with⟨rfl,hki,hno⟩|⟨q,rfl,rfl,hna,hqi⟩
 ·have hli:nonL es i↔(eAt es i).1≠(eAt es i).2:=Iff.rfl
  by_cases hlp:nonL es i
  ·
   have hek:=eAt_get (es:=es) (i:=k) (by omega)
   have r0:=hget k 0 _ _ hek rfl
   have r1:=hget k 1 _ _ hek rfl
   rw[Nat.add_zero] at r0
   have hlk:nonL es k↔(eAt es k).1≠(eAt es k).2:=Iff.rfl
   have hTg:=hTo i k hlt (by omega)
   have hset:(rcells (nm.set i (-1))).set i (.int .i64 (k:Int))=rcells (nm.set i (k:Int)):=by rw[rcells_set,List.set_set]
   have hrl2:(rcells (nm.set i (-1))).length=m:=by unfold rcells;rw[List.length_map,List.length_set];exact hnl
   have hnl1:=hli.1 hlp
   have hne:i=k→nonL es k:=fun h=>h▸hlp
   have hself:=sgB_self N es ls i
   have hnx:(nonL es k→sgB N es ls i k=false)→k≠i∧∀j,j<k+1→nonL es j→sgB N es ls i j=false:=fun h=>by
    refine⟨fun hq=> ?_,fun j hj hn=> ?_⟩
    ·subst hq;rw[h hlp] at hself;cases hself
    ·rcases Nat.eq_or_lt_of_le (Nat.lt_succ_iff.1 hj) with rfl|h1
     ·exact h hn
     ·exact hno j h1 hn
   have hyes:nonL es k→sgB N es ls i k=true→NameAt N es ls i (k:Int):=fun h1 h2=>⟨fun h=>absurd hlp h,fun _=>⟨k,rfl,hki,h1,h2,hno⟩⟩
   generalize (eAt es i).1=ix at*
   generalize (eAt es i).2=iy at*
   by_cases hkl:nonL es k
   ·have hnk:=hlk.1 hkl
    generalize (eAt es k).1=kx at*
    generalize (eAt es k).2=ky at*
    cases hsg:sgB N es ls i k with
    |true=>
     rw[hsg] at hTg
     have hy:=hyes hkl hsg
     clear hnx hne
     repeat(first|(refine st ?_;intros)|refine G.draw [] (h:= ?_)|refine G.draw (id:=10) [(18,.quiet)] (h:= ?_)|(refine cq hTg ?_))
     refine Dn.round ⟨k+1,(k:Int)⟩ (.inr ⟨k,rfl,rfl,hy,hki⟩) (by dsimp only;omega)
    |false=>
     rw[hsg] at hTg
     obtain⟨h1,h2⟩:=hnx (fun _=>hsg)
     repeat(first|(refine st ?_;intros)|refine G.draw [] (h:= ?_)|refine G.draw (id:=10) [(18,.quiet)] (h:= ?_)|(refine cq hTg ?_))
     refine Dn.round ⟨k+1,-1⟩ (.inl ⟨rfl,by dsimp only;omega,h2⟩) (by dsimp only;omega)
   ·obtain⟨h1,h2⟩:=hnx (fun h=>absurd h hkl)
    have hkk:(eAt es k).1=(eAt es k).2:=Classical.byContradiction fun h=>hkl (hlk.2 h)
    generalize (eAt es k).1=kx at*
    generalize (eAt es k).2=ky at*
    repeat(first|(refine st ?_;intros)|refine G.draw [] (h:= ?_)|refine G.draw (id:=10) [(18,.quiet)] (h:= ?_)|(refine cq hTg ?_))
    refine Dn.round ⟨k+1,-1⟩ (.inl ⟨rfl,by dsimp only;omega,h2⟩) (by dsimp only;omega)
  ·have hx:NameAt N es ls i (-1):=⟨fun _=>rfl,fun h=>absurd h hlp⟩
   obtain⟨o1,o2⟩:=hout hx
   have hii:(eAt es i).1=(eAt es i).2:=Classical.byContradiction fun h=>hlp (hli.2 h)
   generalize (eAt es i).1=ix at*
   generalize (eAt es i).2=iy at*
   repeat(first|(refine st ?_;intros)|refine G.draw [] (h:= ?_)|refine G.draw (id:=10) [(18,.quiet)] (h:= ?_)|(refine cq hTg ?_))
   refine Dn.round ⟨i+1,nm.set i (-1)⟩ ⟨hlt,o2,o1⟩ (by dsimp only;omega)
 ·obtain⟨o1,o2⟩:=hout hna
  generalize (eAt es i).1=ix at*
  generalize (eAt es i).2=iy at*
  by_cases hqi2:q+1≤i
  ·repeat(first|(refine st ?_;intros)|refine G.draw [] (h:= ?_)|refine G.draw (id:=10) [(18,.quiet)] (h:= ?_)|(refine cq hTg ?_))
   refine Dn.round ⟨i+1,nm.set i (q:Int)⟩ ⟨hlt,o2,o1⟩ (by dsimp only;omega)
  ·repeat(first|(refine st ?_;intros)|refine G.draw [] (h:= ?_)|refine G.draw (id:=10) [(18,.quiet)] (h:= ?_)|(refine cq hTg ?_))
   refine Dn.round ⟨i+1,nm.set i (q:Int)⟩ ⟨hlt,o2,o1⟩ (by dsimp only;omega)
def blkL (nm:List Int) (n:Nat):List T5:=((List.range n).filter fun (i:Nat)=>decide (0≤iAt nm i)).map fun (i:Nat)=>⟨(i:Int),iAt nm i,0,0,0⟩
theorem blkL_succ (nm:List Int) (n:Nat):blkL nm (n+1)=blkL nm n++if 0≤iAt nm n then[⟨(n:Int),iAt nm n,0,0,0⟩] else[]:=by
 unfold blkL
 rw[List.range_succ,List.filter_append,List.map_append]
 congr 1
 by_cases h:0≤iAt nm n
 ·rw[if_pos h];simp[h]
 ·rw[if_neg h];simp[h]
theorem blkL_len (nm:List Int) (n:Nat):(blkL nm n).length≤n:=by
 unfold blkL
 rw[List.length_map]
 have:=List.length_filter_le (fun i=>decide (0≤iAt nm i)) (List.range n)
 rw[List.length_range] at this
 exact this
structure BkX where
 i:Nat
 n:Nat
 p:Option Addr
 cap:Nat
 ch:Chunk
theorem Blocks20ct (N:Nat) (hN:N≤1000000) (p:Option Addr) (m cap:Nat) (es:List IE) (c:Chunk) (hv:Rw ecl 2 p m es c) (hm:m≤1000000) (hf:∀e∈es,inE N e):
  Ct Tryz.prog 70 [gv N p m cap] [c] fun v H'=>∃pb nb kb cb nm ls,v= .slice pb nb kb∧H'=[c,cb]∧RV pb nb (blkL nm m) cb∧ApOk N es ls∧NamesOk N m es ls nm:=by
 have hNm:=Names_ct N hN p m cap es c hv hm hf
 unfold gv at hNm⊢
 refine Ct.intro Tryz.func70 rfl Tryz.ntmps70 (nle rfl) fun w0=> ?_;dsimp only[argSlots,Nat.reduceAdd]
 repeat(refine st ?_;intros)
 rename_i b1
 refine R.call (hct:=hNm) (h:= ?_)
 rintro _ _ ⟨bn,nm,ls,rfl,rfl,hO,hNO⟩
 try dsimp only[List.cons_append,List.nil_append]
 have hnl:=hNO.len
 repeat(refine st ?_;intros)
 refine G.loop (X:=BkX) (fun x=>x.i≤m∧x.n≤x.i∧Vec 47 5 x.p x.n x.cap (flat (blkL nm x.i)) x.ch)
  (fun x=>[(5,.int .i64 (x.i:Int)),(3,.slice x.p x.n x.cap),(4,.slice (some ⟨bn,0,none⟩) m m)])
  (fun x=>[x.ch,[(bn,row (rcells nm) 3)],c]) (fun x=>m-x.i) ⟨0,0,none,0,[]⟩ ⟨Nat.zero_le _,Nat.zero_le _,Vec.nil _ _⟩ (by repeat(first|exact trivial|refine⟨rfl,?_⟩)) (by repeat(first|exact Split.nil|(apply Split.cons;·(first|exact Take.nil|(repeat(first|exact Take.here|apply Take.there)))))) ?_
 rintro⟨i,n,q,qc,ch⟩ ⟨hi,hn,hV⟩
 dsimp only at hi hn hV⊢
 by_cases hlt:i<m
 rotate_left
 ·obtain rfl:i=m:=by omega
  repeat(refine st ?_;intros)
  (refine Dn.post (Hr:=[c,ch]) Tryz.results70 (hR:= ?_);exact⟨q,n,qc,ch,nm,ls,rfl,rfl,RV.vec hV,hO,hNO⟩)
 have hg:=rcells_get (iAt_get (l:=nm) (i:=i) (by omega))
 have hsc:=blkL_succ nm i
 have hmx:n+1≤maxLen:=by simp only[maxLen];omega
 generalize iAt nm i=x at*
 by_cases hx:0≤x
 ·rw[if_pos hx] at hsc
  have hsn:flat (blkL nm (i+1))=flat (blkL nm i)++[.int .i64 (i:Int),.int .i64 x,.int .i64 0,.int .i64 0,.int .i64 0]:=by rw[hsc,flat_append];rfl
  repeat(refine st ?_;intros)
  rename_i p' cap' c' hV'
  have hV3:Vec 47 5 p' (n+1) cap' (flat (blkL nm (i+1))) c':=by rw[hsn];exact hV'
  refine Dn.round ⟨i+1,n+1,p',cap',c'⟩ ⟨hlt,by dsimp only;omega,hV3⟩ (by dsimp only;omega)
 ·rw[if_neg hx,List.append_nil] at hsc
  repeat(refine st ?_;intros)
  refine Dn.round ⟨i+1,n,q,qc,ch⟩ ⟨hlt,by dsimp only;omega,by dsimp only;rw[hsc];exact hV⟩ (by dsimp only;omega)
end Go.Proofs.YtlnehgklibbjiaaGreat
namespace Go.Proofs.YtlnehgklibbjiaaGreat
open Go.SL Go.Tup
def edT (es:List IE):List T5:=(List.range es.length).map fun (i:Nat)=>⟨(i:Int),(es.getD i (0,0)).1,(es.getD i (0,0)).2,0,0⟩
theorem edT_len (es:List IE):(edT es).length=es.length:=by unfold edT;simp
theorem edT_get {es:List IE} {i:Nat} {e:IE} (h:es[i]? =some e):(edT es)[i]? =some ⟨(i:Int),e.1,e.2,0,0⟩:=by
 have hi:=(List.getElem?_eq_some_iff.1 h).1
 unfold edT
 rw[List.getElem?_map,List.getElem?_range hi]
 simp only[Option.map_some,List.getD_eq_getElem?_getD,h,Option.getD_some]
theorem edT_take {es:List IE} {i:Nat} {e:IE} (h:es[i]? =some e):(edT es).take (i+1)=(edT es).take i++[⟨(i:Int),e.1,e.2,0,0⟩]:=by
 rw[List.take_add_one,edT_get h];rfl
theorem edT_mem {es:List IE} {t:T5} (h:t∈edT es):∃(i:Nat) (e:IE),es[i]? =some e∧t=⟨(i:Int),e.1,e.2,0,0⟩:=by
 obtain⟨i,hi⟩:=List.mem_iff_getElem?.1 h
 have hl:=(List.getElem?_eq_some_iff.1 hi).1
 rw[edT_len] at hl
 have he:es[i]? =some es[i]:=List.getElem?_eq_getElem hl
 rw[edT_get he] at hi
 exact⟨i,es[i],he,(Option.some.inj hi).symm⟩
theorem edT_lt (es:List IE):(edT es).Pairwise fun a b=>a.c0<b.c0:=by
 unfold edT
 rw[List.pairwise_map]
 exact(List.pairwise_lt_range).imp fun h=>by dsimp only;omega
end Go.Proofs.YtlnehgklibbjiaaGreat
namespace Go.Proofs.YtlnehgklibbjiaaGreat
open Go.SL Go.Spc Go.Tup Go.Srt
theorem fl4len (f:Fl):(fl4 f).length=4:=rfl
def sumB (fs:List Fl):Nat:=(fs.map (·.blocks)).sum
theorem sumB_take {fs:List Fl} {i:Nat} {f:Fl} (h:fs[i]? =some f):sumB (fs.take (i+1))=sumB (fs.take i)+f.blocks:=by
 unfold sumB;rw[List.take_add_one,h];simp
theorem sumB_le (fs:List Fl) (i:Nat):sumB (fs.take i)≤sumB fs:=by
 have h:=congrArg sumB (List.take_append_drop i fs)
 unfold sumB at h⊢
 rw[List.map_append,List.sum_append] at h
 omega
theorem ar_peak {ba:Nat} {α:Ar} {c:Chunk} (h:IsAr ba α c):α.peak≤α.room:=by
 obtain⟨c0,⟨bm,ck,_,h1⟩,_⟩:=h
 omega
def Wk.flt (W:Wk) (n:Int):Wk:={W with δ:={W.δ with fault:=n}}
theorem Wc.flt {bd ba bs:Nat} {W:Wk} {cd ca cs cd':Chunk} {n:Int} (h:Wc bd ba bs W cd ca cs) (hd:IsDev bd {W.δ with fault:=n} cd'):Wc bd ba bs (W.flt n) cd' ca cs:=⟨hd,h.ar,h.sp,h.nn,h.live⟩
theorem formed_in {n:Int} {es:List IE} (h:formedB n es=true):0≤n∧∀e∈es,inE n e:=by
 unfold formedB at h
 rw[Bool.and_eq_true,decide_eq_true_iff,List.all_eq_true] at h
 exact⟨h.1.1,fun e he=>of_decide_eq_true (h.2 e he)⟩
theorem free_sum {bd ba bs:Nat} {W:Wk} {cd ca cs:Chunk} (h:Wc bd ba bs W cd ca cs) {fs:List Fl} (hl:W.live.Perm (addFs fs [])) (hn:W.σ.n=9000):total W.σ.free+sumB fs=9000:=by
 have h1:=free_is h hl
 rw[total_addFs] at h1
 unfold sumB
 rw[show total []=0 from rfl] at h1
 omega
theorem file_zero {W:Wk} {k:Nat} {bd:Nat} {cd:Chunk} (hd:IsDev bd W.δ cd) (h1:1≤k) (h2:k≤5):FileIn W (⟨0,0,k,0⟩,[]):=by
 obtain⟨⟨hs,_⟩,_⟩:=hd.num
 have hp:=holds_pos hs h1 h2
 refine⟨[],⟨h1,h2,rfl,Nat.zero_le _,?_,by simp,fun j hj=>absurd hj (Nat.not_lt_zero j),fun h=>absurd rfl h⟩,by simp⟩
 show 0=(0+holds W.δ.size k-1)/holds W.δ.size k
 rw[Nat.div_eq_of_lt (by omega)]
end Go.Proofs.YtlnehgklibbjiaaGreat
namespace Go.Proofs.YtlnehgklibbjiaaGreat
open Go.SL Go.Spc Go.Tup
theorem work21ct (n:Nat) (hn:n≤1000):Ct Tryz.prog 30 [.int .i64 (n:Int)] [] fun v H'=>
  ∃bw bd ba bs cd ca cs,v=pv bw∧H'=[wrow bw bd ba bs,cd,ca,cs]∧Wc bd ba bs (wk0 10 9000 (10*n)) cd ca cs:=by
 have hDn:=DevNew_u 10 9000 (by omega) (by omega)
 have hAn:=ArenaNew_ct (10*n) (by omega)
 have hSn:=SpaceNew_ct 9000 (by omega) (by omega)
 have e1:IntKind.wrap .i64 ((10:Int)*(n:Int))=((10*n:Nat):Int):=by rw[wrap_i64 (by omega)];omega
 refine Ct.intro Tryz.func30 rfl Tryz.ntmps30 (nle rfl) fun w0=> ?_;dsimp only[argSlots,Nat.reduceAdd]
 repeat(refine st ?_;intros)
 refine R.call (hct:=hDn) (h:= ?_)
 rintro _ _ ⟨bd,cd,rfl,rfl,hdev⟩
 try dsimp only[List.cons_append,List.nil_append]
 repeat(refine st ?_;intros)
 refine R.call (hct:=hAn) (h:= ?_)
 rintro _ _ ⟨ba,ca,rfl,har,rfl⟩
 try dsimp only[List.cons_append,List.nil_append]
 repeat(refine st ?_;intros)
 refine R.call (hct:=hSn) (h:= ?_)
 rintro _ _ ⟨bs,cs,rfl,hsp,rfl⟩
 try dsimp only[List.cons_append,List.nil_append]
 have hFn:=FileNew_ct bd ba bs
 repeat(refine st ?_;intros)
 refine R.call (hct:=hFn) (h:= ?_)
 rintro _ _ ⟨bw,rfl,rfl⟩
 try dsimp only[List.cons_append,List.nil_append]
 repeat(refine st ?_;intros)
 (refine Dn.post (Hr:=[wrow bw bd ba bs,cd,ca,cs]) Tryz.results30 (hR:= ?_);exact⟨bw,bd,ba,bs,cd,ca,cs,rfl,rfl,wc0 (by omega) hdev har hsp⟩)
end Go.Proofs.YtlnehgklibbjiaaGreat
namespace Go.Proofs.YtlnehgklibbjiaaGreat
open Go.SL Go.Spc Go.Tup Go.Srt Go.Gr
theorem clean21ct (bw bd ba bs:Nat) (W:Wk) (ca cs:Chunk) (har:IsAr ba W.α ca) (hsp:IsSpace bs W.σ cs) (p:Option Addr) (n cap:Nat) (fs:List Fl) (c:Chunk) (hv:Rw fl4 4 p n fs c) (hn:n≤100) (hu:W.α.used=0) (ht:total W.σ.free+sumB fs=9000):
  CtQ Tryz.prog 37 [pv bw,.slice p n cap] [wrow bw bd ba bs,ca,cs,c] (.bool true):=by
 have hl:=hv.1
 have hWA:=WArena_ct bw bd ba bs
 have hWS:=WSpace_ct bw bd ba bs
 have hUs:=aUsed ba W.α ca har
 have hPk:=aPeak ba W.α ca har
 have hRm:=aRoom ba W.α ca har
 have hFr:=SFree_ct bs W.σ cs hsp
 have hpk:=ar_peak har
 rw[hu] at hUs
 refine Ct.intro Tryz.func37 rfl Tryz.ntmps37 (nle rfl) fun w0=> ?_;dsimp only[argSlots,Nat.reduceAdd]
 repeat(first|(refine st ?_;intros)|(refine cq hWA ?_)|(refine cq hWS ?_)|(refine cq hUs ?_)|(refine cq hFr ?_)|(refine cq hPk ?_)|(refine cq hRm ?_))
 refine G.loop (X:=Nat) (fun i=>i≤n) (fun i=>[(6,.int .i64 (i:Int)),(5,.int .i64 (sumB (fs.take i):Int)),(1,.slice p n cap),(0,pv bw)])
  (fun _=>[wrow bw bd ba bs,ca,cs,c]) (fun i=>n-i) 0 (Nat.zero_le _) (body:= ?_)
 intro i hi
 have hsl:=sumB_le fs i
 by_cases hlt:i<n
 ·obtain⟨b,off,cc,T,fz,rfl,rfl,_,hget⟩:=hv.pos fl4len (by omega)
  have hit:fs[i]? =some fs[i]:=List.getElem?_eq_getElem (by omega)
  have q1:=hget i 1 _ _ hit rfl
  have hst:=sumB_take hit
  have hsl2:=sumB_le fs (i+1)
  generalize fs[i]=f at*
  have e1:IntKind.wrap .i64 ((sumB (fs.take i):Int)+(f.blocks:Int))=((sumB (fs.take (i+1)):Nat):Int):=by rw[wrap_i64 (by omega)];omega
  repeat(first|(refine st ?_;intros)|(refine cq hWA ?_)|(refine cq hWS ?_)|(refine cq hUs ?_)|(refine cq hFr ?_)|(refine cq hPk ?_)|(refine cq hRm ?_))
  refine Dn.round (i+1) (by omega) (by omega)
 ·obtain rfl:i=n:=by omega
  rw[List.take_of_length_le (by omega)]
  have e1:IntKind.wrap .i64 ((9000:Int)-(sumB fs:Int))=(total W.σ.free:Int):=by rw[wrap_i64 (by omega)];omega
  repeat(first|(refine st ?_;intros)|(refine cq hWA ?_)|(refine cq hWS ?_)|(refine cq hUs ?_)|(refine cq hFr ?_)|(refine cq hPk ?_)|(refine cq hRm ?_))
  (refine Dn.post (Hr:=[wrow bw bd ba bs,ca,cs,c]) Tryz.results37 (hR:= ?_);exact⟨congrArg Value.bool (dec_true (by omega)),rfl⟩)
theorem blkL_get {nm:List Int} {n:Nat} {t:T5} (h:t∈blkL nm n):∃i,i<n∧0≤iAt nm i∧t=⟨(i:Int),iAt nm i,0,0,0⟩:=by
 unfold blkL at h
 obtain⟨i,hi,rfl⟩:=List.mem_map.1 h
 obtain⟨h1,h2⟩:=List.mem_filter.1 hi
 exact⟨i,List.mem_range.1 h1,by simpa using h2,rfl⟩
theorem blkL_lt (nm:List Int) (n:Nat):(blkL nm n).Pairwise fun a c=>a.c0<c.c0:=by
 unfold blkL
 rw[List.pairwise_map]
 exact(List.pairwise_lt_range.filter _).imp fun h=>by dsimp only;omega
theorem NamesOk.le {N m:Nat} {es:List IE} {ls:List (List Int)} {nm:List Int} (h:NamesOk N m es ls nm) {i:Nat} (hi:i<m): -1≤iAt nm i∧iAt nm i<m:=by
 have h1:=h.at_ i hi
 by_cases hl:nonL es i
 ·obtain⟨k,h2,h3,_⟩:=h1.nl hl;omega
 ·have:=h1.lp hl;omega
theorem in_nat {n:Nat} (h:n≤1000000000):inI64 (n:Int):=⟨by omega,by omega⟩
theorem in_le {x:Int} (h: -1≤x) (h2:x≤1000000000):inI64 x:=⟨by omega,by omega⟩
theorem edT_3 {N:Nat} {es:List IE} (hf:∀e∈es,inE N e) (hN:N≤1000000) (hm:es.length≤1000000):∀t∈edT es,okT 3 t:=by
 intro t ht
 obtain⟨i,e,he,rfl⟩:=edT_mem ht
 have h1:=hf e (List.mem_of_getElem? he)
 have h2:=(List.getElem?_eq_some_iff.1 he).1
 unfold inE at h1
 exact okT3 (in_nat (by omega)) (in_le (by omega) (by omega)) (in_le (by omega) (by omega))
theorem blkL_2 {N m:Nat} {es:List IE} {ls:List (List Int)} {nm:List Int} (h:NamesOk N m es ls nm) (hm:m≤1000000):∀t∈blkL nm m,okT 2 t:=by
 intro t ht
 obtain⟨i,hi,_,rfl⟩:=blkL_get ht
 have:=h.le hi
 exact okT2 (in_nat (by omega)) (in_le (by omega) (by omega))
structure Laid21 (ro N m:Nat) (es:List IE) (W:Wk) (f h:Fl) (nm:List Int) (ls:List (List Int)):Prop where
 ap:ApOk N es ls
 nms:NamesOk N m es ls nm
 inF:FileIn W (f,edT es)
 inH:FileIn W (h,blkL nm m)
 fw:f.width=3
 hw:h.width=2
 fc:f.count=m
 hc:h.count≤m
 size:W.δ.size=10
 room:W.α.room=ro
 used:W.α.used=0
 fault:W.δ.fault= -1
 acts:W.δ.acts≤2*m
 big:9000≤big W.σ.free+2*m
 n:W.σ.n=9000
 live:W.live.Perm (addF h (addF f []))
structure L21X where
 i:Nat
 p:Option Addr
 cap:Nat
 ch:Chunk
theorem laid21ct (bw bd ba bs:Nat) (ro:Nat) (hR:10≤ro) (cd ca cs:Chunk) (hW:Wc bd ba bs (wk0 10 9000 ro) cd ca cs) (N:Nat) (hN:N≤1000) (p:Option Addr) (m cap:Nat) (es:List IE) (c:Chunk) (hv:Rw ecl 2 p m es c) (hm:m≤1000) (hf:∀e∈es,inE N e):
  Ct Tryz.prog 38 [pv bw,gv N p m cap] [wrow bw bd ba bs,cd,ca,cs,c] fun v H'=>∃cd' ca' cs' W f h nm ls,v= .tuple #[flv f,flv h,.bool true]∧H'=[wrow bw bd ba bs,cd',ca',cs',c]∧Wc bd ba bs W cd' ca' cs'∧Laid21 ro N m es W f h nm ls:=by
 have hflv:∀f:Fl,flv f= .agg #[.int .i64 (f.first:Int),.int .i64 (f.blocks:Int),.int .i64 (f.width:Int),.int .i64 (f.count:Int)]:=fun _=>rfl
 have hl:=hv.1
 have hB:=Blocks20ct N (by omega) p m cap es c hv (by omega) hf
 unfold gv at hB⊢
 refine Ct.intro Tryz.func38 rfl Tryz.ntmps38 (nle rfl) fun w0=> ?_;dsimp only[argSlots,Nat.reduceAdd]
 repeat(first|(refine st ?_;intros)|refine G.draw [] (h:= ?_)|refine G.draw (id:=8) [(8,.eff [1])] (h:= ?_))
 rename_i b3 b4 b5
 refine G.loop (X:=L21X) (fun x=>x.i≤m∧Vec 47 5 x.p x.i x.cap (flat ((edT es).take x.i)) x.ch)
  (fun x=>[(8,.int .i64 (x.i:Int)),(7,.slice x.p x.i x.cap),(3,pv b3),(0,pv bw),(4,pv b4),(5,pv b5)])
  (fun x=>[x.ch,[(b3,row [.int .i64 (N:Int),.slice p m cap] 37)],c,wrow bw bd ba bs,cd,ca,cs,[(b4,row [.int .i64 0,.int .i64 0,.int .i64 0,.int .i64 0] 27)],[(b5,row [.int .i64 0,.int .i64 0,.int .i64 0,.int .i64 0] 27)]]) (fun x=>m-x.i) ⟨0,none,0,[]⟩ ⟨Nat.zero_le _,Vec.nil _ _⟩ (by repeat(first|exact trivial|refine⟨rfl,?_⟩)) (by repeat(first|exact Split.nil|(apply Split.cons;·(first|exact Take.nil|(repeat(first|exact Take.here|apply Take.there)))))) ?_
 rintro⟨i,q,qc,ch⟩ ⟨hi,hV⟩
 dsimp only at hi hV⊢
 by_cases hlt:i<m
 ·obtain⟨b,off,cc,T,fz,rfl,rfl,_,hget⟩:=hv.pos ecl_len (by omega)
  have hie:es[i]? =some es[i]:=List.getElem?_eq_getElem (by omega)
  have q0:=hget i 0 _ _ hie rfl
  have q1:=hget i 1 _ _ hie rfl
  rw[Nat.add_zero] at q0
  have htk:=edT_take hie
  generalize es[i]=e at*
  have hmx:i+1≤maxLen:=by simp only[maxLen];omega
  have hsn:flat ((edT es).take (i+1))=flat ((edT es).take i)++[.int .i64 (i:Int),.int .i64 e.1,.int .i64 e.2,.int .i64 0,.int .i64 0]:=by
   rw[htk,flat_append];rfl
  repeat(first|(refine st ?_;intros)|refine G.draw [] (h:= ?_)|refine G.draw (id:=8) [(8,.eff [1])] (h:= ?_))
  rename_i p' cap' c' hV'
  have hV3:Vec 47 5 p' (i+1) cap' (flat ((edT es).take (i+1))) c':=by rw[hsn];exact hV'
  refine Dn.round ⟨i+1,p',cap',c'⟩ ⟨hlt,hV3⟩ (by dsimp only;omega)
 obtain rfl:i=m:=by omega
 rw[List.take_of_length_le (by rw[edT_len];omega)] at hV
 have hn1:nblocks 10 3 i≤i:=nblocks_le (holds_pos (by omega) (by omega) (by omega))
 have hLy:=Lay_k bw bd ba bs _ cd ca cs hW 3 (by omega) (by omega) q i qc _ ch (RV.vec hV) (by omega) (edT_3 hf (by omega) (by omega)) (by show 10≤ro-0;omega) rfl (Nat.zero_le _) (by rw[big0];show nblocks 10 3 i≤_;omega)
 rw[show(wk0 10 9000 ro).δ.size=10 from rfl] at hLy
 repeat(first|(refine st ?_;intros)|refine G.draw [] (h:= ?_)|refine G.draw (id:=8) [(8,.eff [1])] (h:= ?_))
 refine R.call (hct:=hLy) (h:= ?_)
 rintro _ _ ⟨cd1,ca1,cs1,W1,f,rfl,rfl,hW1,hE1,hK1,hg1,hl1,hf1,hc1,hb1,hfo1⟩
 try dsimp only[List.cons_append,List.nil_append]
 have hsz1:W1.δ.size=10:=hE1.size
 have hrm1:W1.α.room=ro:=hE1.room
 have hus1:W1.α.used=0:=used_eq hW hW1 hg1
 have hbg1:=hE1.big
 have hac1:=hE1.acts.2
 rw[big0] at hbg1
 rw[show(wk0 10 9000 ro).δ.acts=0 from rfl] at hac1
 rw[hflv]
 repeat(first|(refine st ?_;intros)|refine G.draw [] (h:= ?_)|refine G.draw (id:=8) [(8,.eff [1])] (h:= ?_))
 refine R.call (hct:=hB) (h:= ?_)
 rintro _ _ ⟨pb,nb,kb,cb,nm,ls,rfl,rfl,hvb,hAp,hNm⟩
 try dsimp only[List.cons_append,List.nil_append]
 have hbl:nb≤i:=by rw[←hvb.1];exact blkL_len nm i
 have hn2:nblocks 10 2 nb≤nb:=nblocks_le (holds_pos (by omega) (by omega) (by omega))
 have hLy2:=Lay_k bw bd ba bs W1 cd1 ca1 cs1 hW1 2 (by omega) (by omega) pb nb kb _ cb hvb (by omega) (blkL_2 hNm (by omega)) (by omega) (hE1.fault rfl) (by omega) (by rw[hsz1];omega)
 rw[hsz1] at hLy2
 repeat(first|(refine st ?_;intros)|refine G.draw [] (h:= ?_)|refine G.draw (id:=8) [(8,.eff [1])] (h:= ?_))
 refine R.call (hct:=hLy2) (h:= ?_)
 rintro _ _ ⟨cd2,ca2,cs2,W2,h,rfl,rfl,hW2,hE2,hK2,hg2,hl2,hf2,hc2,hb2,hfo2⟩
 try dsimp only[List.cons_append,List.nil_append]
 have hbg2:=hE2.big
 have hac2:=hE2.acts.2
 rw[hflv]
 repeat(first|(refine st ?_;intros)|refine G.draw [] (h:= ?_)|refine G.draw (id:=8) [(8,.eff [1])] (h:= ?_))
 (refine Dn.post (Hr:=[wrow bw bd ba bs,cd2,ca2,cs2,c]) Tryz.results38 (hR:= ?_);exact⟨cd2,ca2,cs2,W2,f,h,nm,ls,by rw[dec_true rfl];rfl,rfl,hW2,
  {ap:=hAp,nms:=hNm,inF:=(FileIn.new (by exact hfo1) hsz1 hl1).stay hE2.size hK2 (mem_addF hl2),inH:=FileIn.new hfo2 (hE2.size.trans hsz1) hl2,fw:=hf1,hw:=hf2,fc:=hc1,hc:=by omega,size:=hE2.size.trans hsz1,room:=hE2.room.trans hrm1,used:=(used_eq hW1 hW2 hg2).trans hus1,fault:=hE2.fault (hE1.fault rfl),acts:=by omega,big:=by omega,n:=hE2.n.trans hE1.n,live:=hl2.trans (addF_perm hl1)}⟩)
end Go.Proofs.YtlnehgklibbjiaaGreat
namespace Go.Proofs.YtlnehgklibbjiaaGreat
open Go.SL Go.Tup Go.Srt Go.Gr
def o12R (a c:T5):Prop:=a.c0<c.c0∨a.c0=c.c0∧a.c1<c.c1
def Two (E:List T5) (v:Int):Prop:=∃a∈E,∃c∈E,a≠c∧a.c0=v∧c.c0=v
theorem Two.cons {t:T5} {E:List T5} {v:Int}:Two (t::E) v↔Two E v∨(t.c0=v∧∃c∈E,c≠t∧c.c0=v):=by
 constructor
 ·rintro⟨a,ha,c,hc,hne,h1,h2⟩
  rcases List.mem_cons.1 ha with rfl|ha1
  ·rcases List.mem_cons.1 hc with rfl|hc1
   ·exact(hne rfl).elim
   ·exact .inr ⟨h1,c,hc1,fun h=>hne h.symm,h2⟩
  ·rcases List.mem_cons.1 hc with rfl|hc1
   ·exact .inr ⟨h2,a,ha1,hne,h1⟩
   ·exact .inl ⟨a,ha1,c,hc1,hne,h1,h2⟩
 ·rintro(⟨a,ha,c,hc,hne,h1,h2⟩|⟨h1,c,hc,hne,h2⟩)
  ·exact⟨a,List.mem_cons_of_mem _ ha,c,List.mem_cons_of_mem _ hc,hne,h1,h2⟩
  ·exact⟨t,List.mem_cons_self,c,List.mem_cons_of_mem _ hc,fun h=>hne h.symm,h1,h2⟩
theorem cutM_mem:∀{E:List T5} {l:Int} {m:Bool} (v:Int),E.Pairwise o12R→(∀t∈E,l≤t.c0)→((∃w∈(cutM 0 0).all (l,m) E,w.c0=v)↔(v=l∧m=false∧∃t∈E,t.c0=v)∨(v≠l∧Two E v))
 |[],l,m,v,_,_=>by simp[Maker.all,Two]
 |t::E,l,m,v,hp,hl=>by
  rw[List.pairwise_cons] at hp
  have h0:=hl t List.mem_cons_self
  have hE:∀u∈E,t.c0≤u.c0:=fun u hu=>by have:=hp.1 u hu;unfold o12R at this;omega
  have hnt:∀u∈E,u≠t:=fun u hu hq=>by subst hq;have:=hp.1 u hu;unfold o12R at this;omega
  have hn:(cutM 0 0).next (l,m) t=(t.c0,if t.c0=l then true else false):=rfl
  have ho:(cutM 0 0).outs (l,m) t=if t.c0=l then(if m then[] else[⟨t.c0,1,0,0,0⟩]) else[]:=rfl
  have htw:Two (t::E) v↔Two E v∨(t.c0=v∧∃c∈E,c.c0=v):=by
   rw[Two.cons]
   refine or_congr Iff.rfl (and_congr Iff.rfl ⟨fun ⟨c,h1,_,h2⟩=>⟨c,h1,h2⟩,fun ⟨c,h1,h2⟩=>⟨c,h1,hnt c h1,h2⟩⟩)
  have hno:v<t.c0→¬(∃u∈E,u.c0=v)∧¬Two E v:=fun h=>⟨fun ⟨u,hu,hq⟩=>by have:=hE u hu;omega,fun ⟨a,ha,_,_,_,hq,_⟩=>by have:=hE a ha;omega⟩
  simp only[Maker.all,hn,ho]
  by_cases hl':t.c0=l
  ·rw[if_pos hl',if_pos hl']
   have ih:=cutM_mem (E:=E) (l:=t.c0) (m:=true) v hp.2 hE
   simp only[Bool.true_eq_false,false_and,and_false,false_or] at ih
   cases m with
   |true=>
    simp only[if_true,List.nil_append,Bool.true_eq_false,false_and,and_false,false_or]
    rw[ih,htw,hl']
    constructor
    ·rintro⟨h1,h2⟩;exact⟨h1,.inl h2⟩
    ·rintro⟨h1,h2|⟨h2,_⟩⟩
     ·exact⟨h1,h2⟩
     ·exact(h1 h2.symm).elim
   |false=>
    simp only[Bool.false_eq_true,if_false,List.singleton_append,List.mem_cons,true_and]
    constructor
    ·rintro⟨w,rfl|hw,h1⟩
     ·exact .inl ⟨by dsimp only at h1;omega,t,.inl rfl,h1⟩
     ·obtain⟨h2,h3⟩:=ih.1 ⟨w,hw,h1⟩
      exact .inr ⟨by omega,htw.2 (.inl h3)⟩
    ·rintro(⟨h1,_⟩|⟨h1,h2⟩)
     ·exact⟨_,.inl rfl,by dsimp only;omega⟩
     ·rcases htw.1 h2 with h3|⟨h3,_⟩
      ·obtain⟨w,hw,hq⟩:=ih.2 ⟨by omega,h3⟩
       exact⟨w,.inr hw,hq⟩
      ·omega
  ·rw[if_neg hl',if_neg hl']
   have ih:=cutM_mem (E:=E) (l:=t.c0) (m:=false) v hp.2 hE
   simp only[List.nil_append,true_and] at ih⊢
   rw[ih,htw]
   constructor
   ·rintro(⟨h1,u,hu,h2⟩|⟨h1,h2⟩)
    ·exact .inr ⟨by omega,.inr ⟨h1.symm,u,hu,h2⟩⟩
    ·exact .inr ⟨fun hq=>(hno (by omega)).2 h2,.inl h2⟩
   ·rintro(⟨h1,_,u,hu,h2⟩|⟨h1,h2|⟨h2,h3⟩⟩)
    ·rcases List.mem_cons.1 hu with rfl|hu1
     ·exact(hl' (h2.trans h1)).elim
     ·exact((hno (by omega)).1 ⟨u,hu1,h2⟩).elim
    ·by_cases hq:v=t.c0
     ·obtain⟨a,ha,_,_,_,h3,_⟩:=h2
      exact .inl ⟨hq,a,ha,h3⟩
     ·exact .inr ⟨hq,h2⟩
    ·exact .inl ⟨h2.symm,h3⟩
theorem cutM_one:∀{E:List T5} {k:Int×Bool} {w:T5},w∈(cutM 0 0).all k E→w.c1=1
 |[],_,_,h=>by simp[Maker.all] at h
 |t::E,k,w,h=>by
  simp only[Maker.all,List.mem_append] at h
  rcases h with h|h
  ·unfold cutM at h;dsimp only at h
   split at h
   ·split at h
    ·simp at h
    ·simp only[List.mem_singleton] at h;subst h;rfl
   ·simp at h
  ·exact cutM_one h
def Inc (m:Nat) (es:List IE) (nm:List Int) (v x:Int):Prop:=∃i,i<m∧iAt nm i=x∧x≠-1∧((eAt es i).1=v∨(eAt es i).2=v)
section
variable {N m:Nat} {es:List IE} {ls:List (List Int)} {nm:List Int}
theorem lkV_blk (h:NamesOk N m es ls nm) {i:Nat} (hi:i<m):lkV (blkL nm m) (i:Int) 1=iAt nm i:=by
 have h1:=h.le hi
 by_cases hx:0≤iAt nm i
 ·have hm:(⟨(i:Int),iAt nm i,0,0,0⟩:T5)∈blkL nm m:=by
   unfold blkL
   exact List.mem_map.2 ⟨i,List.mem_filter.2 ⟨List.mem_range.2 hi,by simpa using hx⟩,rfl⟩
  exact lkV_some (blkL_lt nm m) hm rfl
 ·rw[lkV_none]
  ·omega
  ·intro u hu hq
   obtain⟨j,hj,h2,rfl⟩:=blkL_get hu
   dsimp only at hq
   obtain rfl:j=i:=by omega
   exact hx h2
theorem told_mem (h:NamesOk N m es ls nm) (hm:es.length=m) {t:T5}:t∈toldF (edT es) (blkL nm m)↔∃i,i<m∧t=⟨(i:Int),(eAt es i).1,(eAt es i).2,iAt nm i,0⟩:=by
 unfold toldF
 rw[List.mem_map]
 have hlk:∀i,i<m→∀a b:Int,lookF (blkL nm m) 0 1 3 ⟨(i:Int),a,b,0,0⟩=⟨(i:Int),a,b,iAt nm i,0⟩:=fun i hi a b=>by
  show(⟨(i:Int),a,b,lkV (blkL nm m) (i:Int) 1,0⟩:T5)=_
  rw[lkV_blk h hi]
 constructor
 ·rintro⟨u,hu,rfl⟩
  obtain⟨i,e,he,rfl⟩:=edT_mem hu
  have hi:=(List.getElem?_eq_some_iff.1 he).1
  rw[hm] at hi
  refine⟨i,hi,?_⟩
  rw[hlk i hi]
  have:=eAt_get (es:=es) (i:=i) (by omega)
  rw[he] at this
  rw[←Option.some.inj this]
 ·rintro⟨i,hi,rfl⟩
  have he:=eAt_get (es:=es) (i:=i) (by omega)
  exact⟨_,List.mem_of_getElem? (edT_get he),hlk i hi _ _⟩
theorem ends_mem (h:NamesOk N m es ls nm) (hm:es.length=m) (hf:∀e∈es,inE N e) (hN:N≤1000000) (hmb:m≤1000000) {z:T5}:z∈endsF (edT es) (blkL nm m)↔Inc m es nm z.c0 z.c1∧z=⟨z.c0,z.c1,0,0,0⟩:=by
 have hok:∀t∈endsL (edT es) (blkL nm m),okT 2 t:=by
  intro t ht
  obtain⟨u,hu,_,hq⟩:=endsM_mem.1 ht
  obtain⟨i,hi,rfl⟩:=(told_mem h hm).1 hu
  have h1:=eAt_in hf (i:=i) (by omega)
  unfold inE at h1
  have h2:=h.le hi
  rcases hq with rfl|rfl
  ·exact okT2 (in_le (by dsimp only;omega) (by dsimp only;omega)) (in_le (by dsimp only;omega) (by dsimp only;omega))
  ·exact okT2 (in_le (by dsimp only;omega) (by dsimp only;omega)) (in_le (by dsimp only;omega) (by dsimp only;omega))
 unfold endsF
 rw[srt_o12mem hok]
 unfold endsL
 rw[endsM_mem]
 constructor
 ·rintro⟨t,ht,hne,hq⟩
  obtain⟨i,hi,rfl⟩:=(told_mem h hm).1 ht
  rcases hq with rfl|rfl
  ·exact⟨⟨i,hi,rfl,hne,.inl rfl⟩,rfl⟩
  ·exact⟨⟨i,hi,rfl,hne,.inr rfl⟩,rfl⟩
 ·rintro⟨⟨i,hi,h1,h2,h3⟩,hz⟩
  refine⟨_,(told_mem h hm).2 ⟨i,hi,rfl⟩,by dsimp only;omega,?_⟩
  rw[hz]
  dsimp only
  rcases h3 with h3|h3
  ·left;rw[h1,h3]
  ·right;rw[h1,h3]
theorem ends_rise (ets bts:List T5):(endsF ets bts).Pairwise o12R:=(srt_o12 true _).imp fun {a b} h=>by
 simp only[if_true] at h
 exact h
theorem cuts_mem (h:NamesOk N m es ls nm) (hm:es.length=m) (hf:∀e∈es,inE N e) (hN:N≤1000000) (hmb:m≤1000000) {z:T5}:z∈cutsF (edT es) (blkL nm m)↔Inc m es nm z.c0 z.c1∧z=⟨z.c0,z.c1,0,0,0⟩∧∃x,x≠z.c1∧Inc m es nm z.c0 x:=by
 have hE:=fun z=>ends_mem h hm hf hN hmb (z:=z)
 have hge:∀t∈endsF (edT es) (blkL nm m),-1<t.c0:=fun t ht=>by
  obtain⟨⟨i,hi,_,_,h3⟩,_⟩:=(hE t).1 ht
  have h1:=eAt_in hf (i:=i) (by omega)
  unfold inE at h1
  omega
 have hcut:=fun v=>cutM_mem (E:=endsF (edT es) (blkL nm m)) (l:= -1) (m:=false) v (ends_rise _ _) fun t ht=>by have:=hge t ht;omega
 generalize hEE:endsF (edT es) (blkL nm m)=E at*
 have hcl:∀v,-1<v→(lkV (cutsL E) v 1≠-1↔Two E v):=fun v hv=>by
  have h1:=hcut v
  have hpr:(cutsL E).Pairwise fun a c=>a.c0<c.c0:=(cutM_rise (by rw[←hEE];exact(ends_rise _ _).imp fun {a b} h=>by unfold o12R at h;omega) fun t ht=>by have:=hge t ht;dsimp only;omega).1
  have h2:(∃w∈cutsL E,w.c0=v)↔Two E v:=by
   unfold cutsL
   rw[h1]
   constructor
   ·rintro(⟨h2,_⟩|⟨_,h2⟩)
    ·omega
    ·exact h2
   ·intro h2;exact .inr ⟨by omega,h2⟩
  rw[←h2]
  constructor
  ·intro hne
   refine Classical.byContradiction fun hno=>hne (lkV_none fun u hu hq=>hno ⟨u,hu,hq⟩)
  ·rintro⟨w,hw,hq⟩
   rw[lkV_some hpr hw hq]
   show w.c1≠-1
   rw[cutM_one hw];decide
 unfold cutsF
 rw[hEE,List.mem_filterMap]
 have htwo:Two E z.c0→∃x,x≠z.c1∧Inc m es nm z.c0 x:=by
  rintro⟨a,ha,c,hc,hne,h1,h2⟩
  obtain⟨a1,a2⟩:=(hE a).1 ha
  obtain⟨c1,c2⟩:=(hE c).1 hc
  rw[h1] at a1 a2
  rw[h2] at c1 c2
  by_cases hq:a.c1=z.c1
  ·refine⟨c.c1,fun h=>hne ?_,c1⟩
   rw[a2,c2,hq,h]
  ·exact⟨a.c1,hq,a1⟩
 constructor
 ·rintro⟨t,ht,hq⟩
  unfold markL at ht
  obtain⟨u,hu,rfl⟩:=List.mem_map.1 ht
  obtain⟨u1,u2⟩:=(hE u).1 hu
  have h3:(lookF (cutsL E) 0 1 2 u)=⟨u.c0,u.c1,lkV (cutsL E) u.c0 1,u.c3,u.c4⟩:=rfl
  rw[h3] at hq
  unfold markF at hq
  dsimp only at hq
  split at hq
  ·cases hq
  ·rename_i hne
   have hz:=Option.some.inj hq
   subst hz
   exact⟨u1,rfl,htwo ((hcl u.c0 (hge u hu)).1 hne)⟩
 ·rintro⟨h1,h2,x,hx,h3⟩
  have hz:z∈E:=(hE z).2 ⟨h1,h2⟩
  have hw:(⟨z.c0,x,0,0,0⟩:T5)∈E:=(hE _).2 ⟨h3,rfl⟩
  have ht:Two E z.c0:=⟨z,hz,_,hw,fun hq=>hx (by rw[hq]),rfl,rfl⟩
  refine⟨lookF (cutsL E) 0 1 2 z,List.mem_map_of_mem hz,?_⟩
  have h4:(lookF (cutsL E) 0 1 2 z)=⟨z.c0,z.c1,lkV (cutsL E) z.c0 1,z.c3,z.c4⟩:=rfl
  rw[h4]
  unfold markF
  dsimp only
  rw[if_neg ((hcl z.c0 (hge z hz)).2 ht)]
  exact congrArg some h2.symm
theorem cuts_rise (ets bts:List T5):(cutsF ets bts).Pairwise o12R:=by
 unfold cutsF markL
 rw[List.filterMap_map]
 refine List.Pairwise.filterMap _ (fun a a' haa b hb b' hb'=> ?_) (ends_rise ets bts)
 have hm:∀{u w:T5},(markF∘lookF (cutsL (endsF ets bts)) 0 1 2) u=some w→w.c0=u.c0∧w.c1=u.c1:=fun {u w} h=>by
  have h3:(lookF (cutsL (endsF ets bts)) 0 1 2 u)=⟨u.c0,u.c1,lkV (cutsL (endsF ets bts)) u.c0 1,u.c3,u.c4⟩:=rfl
  rw[Function.comp_apply,h3] at h
  unfold markF at h
  dsimp only at h
  split at h
  ·cases h
  ·rw[←Option.some.inj h];exact⟨rfl,rfl⟩
 obtain⟨h1,h2⟩:=hm hb
 obtain⟨h3,h4⟩:=hm hb'
 unfold o12R at haa⊢
 omega
end
end Go.Proofs.YtlnehgklibbjiaaGreat
namespace Go.Proofs.YtlnehgklibbjiaaGreat
open Go.SL Go.Spc Go.Tup Go.Srt Go.Gr
structure Told21 (ro N m:Nat) (es:List IE) (W:Wk) (fs:List Fl) (nm:List Int) (ls:List (List Int)):Prop where
 ap:ApOk N es ls
 nms:NamesOk N m es ls nm
 used:W.α.used=0
 n:W.σ.n=9000
 live:W.live.Perm (addFs fs [])
theorem cuts21ct (bw bd ba bs:Nat) (ro:Nat) (hR:80≤ro) (cd ca cs:Chunk) (hW:Wc bd ba bs (wk0 10 9000 ro) cd ca cs) (N:Nat) (hN:N≤1000) (p:Option Addr) (m cap:Nat) (es:List IE) (c:Chunk) (hv:Rw ecl 2 p m es c) (hm:m≤45) (hf:∀e∈es,inE N e):
  Ct Tryz.prog 29 [pv bw,gv N p m cap] [wrow bw bd ba bs,cd,ca,cs,c] fun v H'=>∃cd' ca' cs' W pl k cap' co bq f h x nm ls,v= .tuple #[.slice pl k cap',.slice (some ⟨bq,0,none⟩) 3 3,.int .i64 0]∧
   H'=[wrow bw bd ba bs,cd',ca',cs',c,co,[(bq,row (fl4 f++fl4 h++fl4 x) 27)]]∧Wc bd ba bs W cd' ca' cs'∧RV pl k (cutsF (edT es) (blkL nm m)) co∧k≤2*m∧Told21 ro N m es W [f,h,x] nm ls:=by
 have hflv:∀f:Fl,flv f= .agg #[.int .i64 (f.first:Int),.int .i64 (f.blocks:Int),.int .i64 (f.width:Int),.int .i64 (f.count:Int)]:=fun _=>rfl
 have hfl4:∀f:Fl,fl4 f=[.int .i64 (f.first:Int),.int .i64 (f.blocks:Int),.int .i64 (f.width:Int),.int .i64 (f.count:Int)]:=fun _=>rfl
 have hl:=hv.1
 have hLa:=laid21ct bw bd ba bs ro (by omega) cd ca cs hW N hN p m cap es c hv (by omega) hf
 unfold gv at hLa⊢
 refine Ct.intro Tryz.func29 rfl Tryz.ntmps29 (nle rfl) fun w0=> ?_;dsimp only[argSlots,Nat.reduceAdd]
 repeat(first|(refine st ?_;intros)|refine G.draw [] (h:= ?_))
 refine R.call (hct:=hLa) (h:= ?_)
 rintro _ _ ⟨cd1,ca1,cs1,W,f,h,nm,ls,rfl,rfl,hW1,hL⟩
 try dsimp only[List.cons_append,List.nil_append]
 have hfc:=hL.fc
 have hhc:=hL.hc
 have hbg:=hL.big
 have hact:=hL.acts
 have hsT:=sortT_le (b:=2*91) (m:=182) (l:=4) (by omega) (by decide)
 have hT:=Cuts_ct bw bd ba bs W cd1 ca1 cs1 hW1 f h _ _ hL.inF hL.inH hL.fw hL.hw ((edT_lt es).imp fun h=>by omega) (fun t ht=>by
  obtain⟨i,e,he,rfl⟩:=edT_mem ht
  have h1:=hf e (List.mem_of_getElem? he)
  unfold inE at h1
  dsimp only;omega) (blkL_lt nm m) 91 (by omega) (by omega) (by omega) (by omega)
 rw[hflv,hflv] at hT
 rw[hflv,hflv]
 repeat(first|(refine st ?_;intros)|refine G.draw [] (h:= ?_))
 refine R.call (hct:=hT) (h:= ?_)
 rintro _ _ (⟨_,x,er,cd3,ca3,cs3,W3,rfl,rfl,hW3,hS3,hw3⟩|⟨hsm,_⟩)
 rotate_left
 ·exfalso
  have h1:=hL.room
  have h2:=hL.used
  have h3:=hL.size
  omega
 dsimp only[List.cons_append,List.nil_append]
 obtain⟨rfl,hl3,hfo3,hft3⟩:=stepped_ok hS3 hL.fault
 have hsz3:W3.δ.size=10:=hS3.size.trans hL.size
 obtain⟨Lv,hfo,hsub⟩:=FileIn.new (by rw[hL.size] at hfo3;exact hfo3) hsz3 hl3
 dsimp only at hfo
 have hus3:W3.α.used=0:=(used_eq hW1 hW3 hS3.gs).trans hL.used
 have hrm3:W3.α.room=ro:=hS3.room.trans hL.room
 have hac3:=hS3.acts
 have hcl:(cutsF (edT es) (blkL nm m)).length≤2*m:=by
  have h1:=List.length_filterMap_le markF (markL (endsF (edT es) (blkL nm m)))
  have h2:(markL (endsF (edT es) (blkL nm m))).length=(endsF (edT es) (blkL nm m)).length:=by unfold markL;rw[List.length_map]
  have h3:=len_srt (lt:=ltO o12) (once:=true) (endsL (edT es) (blkL nm m))
  have h4:=Maker.all_len (M:=endsM) endsM_len (toldF (edT es) (blkL nm m)) ()
  have h5:(toldF (edT es) (blkL nm m)).length=m:=by unfold toldF;rw[List.length_map,edT_len];exact hl
  unfold cutsF
  unfold endsL at h3
  unfold endsF endsL at h1 h2⊢
  omega
 have hxc:x.count=(cutsF (edT es) (blkL nm m)).length:=hfo.len.symm
 have hLi:=List_ct bw bd ba bs W3 cd3 ca3 cs3 hW3 x _ Lv hfo hsub (by omega) hft3 (by omega) (by omega)
 rw[hflv] at hLi
 rw[hflv]
 repeat(first|(refine st ?_;intros)|refine G.draw [] (h:= ?_))
 refine R.call (hct:=hLi) (h:= ?_)
 rintro _ _ ⟨cd4,ca4,W4,p4,cap4,co,rfl,rfl,hW4,hE4,_,hl4,hg4,hV⟩
 try dsimp only[List.cons_append,List.nil_append]
 repeat(first|(refine st ?_;intros)|refine G.draw [] (h:= ?_))
 rename_i bq
 (refine Dn.post (Hr:=[wrow bw bd ba bs,cd4,ca4,cs3,c,co,[(bq,row (fl4 f++fl4 h++fl4 x) 27)]]) Tryz.results29 (hR:= ?_);exact⟨cd4,ca4,cs3,W4,p4,x.count,cap4,co,bq,f,h,x,nm,ls,rfl,rfl,hW4,RV.vec hV,by omega,hL.ap,hL.nms,(used_eq hW3 hW4 hg4).trans hus3,hE4.n.trans (hS3.n.trans hL.n),by rw[hl4];exact hl3.trans (addF_perm hL.live)⟩)
theorem small21ct (n:Int) (p:Option Addr) (m cap:Nat) (es:List IE) (c:Chunk) (hv:Rw ecl 2 p m es c) (hm:m≤maxLen):
  CtQ Tryz.prog 28 [gv n p m cap] [c] (.bool (formedB n es&&dec (n≤24∧(m:Int)≤45))):=by
 have hFo:=Formed03ct n p m cap es c hv hm
 have hFe:=Few03ct n p m cap 24 45 hm
 unfold gv at hFo hFe⊢
 cases hfm:formedB n es with
 |false=>
  rw[hfm] at hFo
  refine Ct.intro Tryz.func28 rfl Tryz.ntmps28 (nle rfl) fun w0=> ?_;dsimp only[argSlots,Nat.reduceAdd]
  repeat(first|(refine st ?_;intros)|(refine cq hFo ?_)|(refine cq hFe ?_))
  (refine Dn.post (Hr:=[c]) Tryz.results28 (hR:= ?_);exact⟨rfl,rfl⟩)
 |true=>
  rw[hfm] at hFo
  refine Ct.intro Tryz.func28 rfl Tryz.ntmps28 (nle rfl) fun w0=> ?_;dsimp only[argSlots,Nat.reduceAdd]
  repeat(first|(refine st ?_;intros)|(refine cq hFo ?_)|(refine cq hFe ?_))
  (refine Dn.post (Hr:=[c]) Tryz.results28 (hR:= ?_);exact⟨rfl,rfl⟩)
end Go.Proofs.YtlnehgklibbjiaaGreat
namespace Go.Proofs.YtlnehgklibbjiaaGreat
open Go.SL Go.Tup Go.Srt Go.Gr
def lvE (ls:List (List Int)) (v u:Nat):Int:=iAt (lAt ls v) u
def Act (es:List IE) (v:Nat) (i:Nat):Prop:=actE es [] (v:Int) i
theorem Act_iff {N:Nat} {es:List IE} (hf:∀e∈es,inE N e) {v i:Nat}:Act es v i↔i<es.length∧(gE es i).1≠v∧(gE es i).2≠v:=by
 unfold Act actE
 constructor
 ·rintro⟨e,he,h1,h2,_⟩
  have h3:=hf e (List.mem_of_getElem? he)
  unfold inE at h3
  refine⟨(List.getElem?_eq_some_iff.1 he).1,?_⟩
  unfold gE;rw[he];dsimp only
  omega
 ·rintro⟨h1,h2,h3⟩
  have he:es[i]? =some es[i]:=List.getElem?_eq_getElem h1
  have h4:=hf _ (List.getElem_mem h1)
  unfold inE at h4
  unfold gE at h2 h3
  rw[he] at h2 h3
  dsimp only at h2 h3
  exact⟨_,he,by omega,by omega,by simp⟩
theorem gE_at {es:List IE} {i:Nat} (h:i<es.length):gE es i=((eAt es i).1.toNat,(eAt es i).2.toNat):=by
 unfold gE;rw[eAt_get h]
section
variable {N m:Nat} {es:List IE} {ls:List (List Int)} {nm:List Int}
theorem ApOk.lab_at (h:ApOk N es ls) {v u:Nat} (hv:v<N) (hu:u<N) (hne:u≠v):∃x:Nat,lvE ls v u=(x:Int)∧Cn (gE es) (Act es v) u x∧∀w,Cn (gE es) (Act es v) u w→x≤w:=by
 have hl:=lAt_get (ls:=ls) (v:=v) (by rw[h.len];exact hv)
 obtain⟨x,h1,h2,_,h3⟩:=(h.lab v _ hl).at_ u hu (by omega)
 refine⟨x,?_,h2,h3⟩
 unfold lvE iAt
 rw[List.getD_eq_getElem?_getD,h1];rfl
theorem ApOk.lab_eq (h:ApOk N es ls) {v u w:Nat} (hv:v<N) (hu:u<N) (hw:w<N) (hne:u≠v) (hnw:w≠v):lvE ls v u=lvE ls v w↔Cn (gE es) (Act es v) u w:=by
 obtain⟨x,h1,h2,h3⟩:=h.lab_at hv hu hne
 obtain⟨y,g1,g2,g3⟩:=h.lab_at hv hw hnw
 rw[h1,g1]
 constructor
 ·intro hq
  obtain rfl:x=y:=by omega
  exact h2.trans g2.symm
 ·intro hc
  have a:=h3 y (hc.trans g2)
  have b:=g3 x (hc.symm.trans h2)
  omega
def Endp (es:List IE) (i u:Nat):Prop:=(eAt es i).1=(u:Int)∨(eAt es i).2=(u:Int)
theorem sd_at (h:ApOk N es ls) (hf:∀e∈es,inE N e) (hm:es.length=m) {v i u:Nat} (hv:v<N) (hi:i<m) (hn:nonL es i) (hu:Endp es i u) (hne:u≠v):sdE es ls v i=lvE ls v u:=by
 have he:=eAt_in hf (i:=i) (by omega)
 unfold inE at he
 have hg:=gE_at (es:=es) (i:=i) (by omega)
 unfold nonL at hn
 unfold sdE sideF lvE iAt
 unfold Endp at hu
 by_cases h1:(eAt es i).1=(v:Int)
 ·rw[if_pos h1]
  rcases hu with hu|hu
  ·omega
  ·rw[hu,Int.toNat_natCast]
 ·rw[if_neg h1]
  rcases hu with hu|hu
  ·rw[hu,Int.toNat_natCast]
  ·have hc:Cn (gE es) (Act es v) (eAt es i).1.toNat u:=by
    have h2:Act es v i:=(Act_iff hf).2 ⟨by omega,by rw[hg];dsimp only;omega,by rw[hg];dsimp only;omega⟩
    have h3:=Cn.edge (g:=gE es) h2
    rw[hg] at h3
    dsimp only at h3
    rwa[hu,Int.toNat_natCast] at h3
   exact(h.lab_eq hv (by omega) (by omega) (by omega) hne).2 hc
def Sg (N:Nat) (es:List IE) (ls:List (List Int)) (i k:Nat):Prop:=∀v,v<N→sdE es ls v i=sdE es ls v k
theorem sg_of (h:ApOk N es ls) (hf:∀e∈es,inE N e) (hm:es.length=m) {v i k:Nat} (hi:i<m) (hk:k<m) (hni:nonL es i) (hnk:nonL es k) (hvi:Endp es i v) (hvk:Endp es k v) (he:sdE es ls v i=sdE es ls v k):Sg N es ls i k:=by
 intro w hw
 by_cases hwv:w=v
 ·subst hwv;exact he
 ·rw[sd_at h hf hm hw hi hni hvi (fun hq=>hwv hq.symm),sd_at h hf hm hw hk hnk hvk (fun hq=>hwv hq.symm)]
theorem NamesOk.of (h:NamesOk N m es ls nm) {i:Nat} (hi:i<m) (hx:iAt nm i≠-1):nonL es i∧∃k:Nat,iAt nm i=(k:Int)∧k≤i∧nonL es k∧Sg N es ls i k∧∀j,j<k→nonL es j→¬Sg N es ls i j:=by
 have h1:=h.at_ i hi
 have hn:nonL es i:=Classical.byContradiction fun hq=>hx (h1.lp hq)
 obtain⟨k,h2,h3,h4,h5,h6⟩:=h1.nl hn
 refine⟨hn,k,h2,h3,h4,sgB_iff.1 h5,fun j hj hjn hs=> ?_⟩
 have:=h6 j hj hjn
 rw[sgB_iff.2 hs] at this
 cases this
theorem NamesOk.some_ (h:NamesOk N m es ls nm) {i:Nat} (hi:i<m) (hn:nonL es i):iAt nm i≠-1:=by
 obtain⟨k,h2,_⟩:=(h.at_ i hi).nl hn
 omega
theorem NamesOk.eq (h:NamesOk N m es ls nm) {i k:Nat} (hi:i<m) (hk:k<m) (hni:nonL es i) (hnk:nonL es k):iAt nm i=iAt nm k↔Sg N es ls i k:=by
 obtain⟨_,a,a1,a2,a3,a4,a5⟩:=h.of hi (h.some_ hi hni)
 obtain⟨_,b,b1,b2,b3,b4,b5⟩:=h.of hk (h.some_ hk hnk)
 constructor
 ·intro hq
  obtain rfl:a=b:=by omega
  exact fun v hv=>(a4 v hv).trans (b4 v hv).symm
 ·intro hs
  rcases Nat.lt_trichotomy a b with h1|h1|h1
  ·exact(b5 a h1 a3 fun v hv=>(hs v hv).symm.trans (a4 v hv)).elim
  ·rw[a1,b1,h1]
  ·exact(a5 b h1 b3 fun v hv=>(hs v hv).trans (b4 v hv)).elim
theorem Inc.edge (h:NamesOk N m es ls nm) (hf:∀e∈es,inE N e) (hm:es.length=m) {v x:Int} (hI:Inc m es nm v x):∃(w i k:Nat),v=(w:Int)∧w<N∧x=(k:Int)∧i<m∧k<m∧iAt nm i=(k:Int)∧nonL es i∧nonL es k∧Endp es i w∧Sg N es ls i k:=by
 obtain⟨i,hi,h1,h2,h3⟩:=hI
 have he:=eAt_in hf (i:=i) (by omega)
 unfold inE at he
 obtain⟨hn,k,k1,k2,k3,k4,_⟩:=h.of hi (by omega)
 refine⟨v.toNat,i,k,by omega,by omega,by omega,hi,by omega,k1,hn,k3,?_,k4⟩
 unfold Endp
 omega
end
def prE (N:Nat) (t:T5):IE:=(t.c0,IntKind.wrap .i64 ((N:Int)+t.c1))
theorem forest_no {N m:Nat} {es:List IE} {ls:List (List Int)} {nm:List Int} (hA:ApOk N es ls) (h:NamesOk N m es ls nm) (hm:es.length=m) (hf:∀e∈es,inE N e) (hN:N≤1000000) (hmb:m≤1000000) {l:List T5} (hl:l=cutsF (edT es) (blkL nm m)) {i:Nat} (hi:i<l.length):
  ∃(u k:Nat),(l[i]).c0=(u:Int)∧u<N∧(l[i]).c1=(k:Int)∧k<m∧¬Cn (gE ((l.take i).map (prE N))) (actE ((l.take i).map (prE N)) [] (-1)) u (N+k):=by
 have hmem:=fun z=>cuts_mem h hm hf hN hmb (z:=z)
 rw[←hl] at hmem
 have hr:l.Pairwise o12R:=by rw[hl];exact cuts_rise _ _
 obtain⟨hI,_⟩:=(hmem l[i]).1 (List.getElem_mem hi)
 obtain⟨u,e0,k,u1,u2,u3,u4,u5,u6,u7,u8,u9,u10⟩:=hI.edge h hf hm
 refine⟨u,k,u1,u2,u3,u5,fun hc=> ?_⟩
 let X:Nat→Prop:=fun z=>z=u∨(z<N∧z≠u∧lvE ls u z≠sdE es ls u k)∨(N≤z∧sdE es ls u (z-N)≠sdE es ls u k)
 have hX:X (N+k):=by
  refine hc.stay (X:=X) (.inl rfl) fun j hj=> ?_
  obtain⟨e,he,_⟩:=hj
  rw[List.getElem?_map] at he
  have hjl:j<i:=by
   by_cases hq:j<i
   ·exact hq
   ·rw[List.getElem?_eq_none (by simp;omega)] at he;simp at he
  have hj2:j<l.length:=by omega
  rw[List.getElem?_take,if_pos hjl,List.getElem?_eq_getElem hj2] at he
  simp only[Option.map_some,Option.some.injEq] at he
  obtain⟨hIj,hzj,_⟩:=(hmem l[j]).1 (List.getElem_mem hj2)
  obtain⟨w,e1,q,w1,w2,w3,w4,w5,w6,w7,w8,w9,w10⟩:=hIj.edge h hf hm
  have hg:gE ((l.take i).map (prE N)) j=(w,N+q):=by
   unfold gE
   rw[List.getElem?_map,List.getElem?_take,if_pos hjl,List.getElem?_eq_getElem hj2]
   simp only[Option.map_some]
   unfold prE
   rw[w1,w3,wrap_i64 (by omega)]
   rw[Int.toNat_natCast]
   congr 1
  rw[hg]
  dsimp only
  have hblk:X (N+q)↔sdE es ls u q≠sdE es ls u k:=by
   show(N+q=u∨_∨_)↔_
   rw[show N+q-N=q by omega]
   constructor
   ·rintro(h1|h1|h1)
    ·omega
    ·omega
    ·exact h1.2
   ·intro h1;exact .inr (.inr ⟨by omega,h1⟩)
  by_cases hwu:w=u
  ·subst hwu
   refine⟨fun _=>hblk.2 fun hq=> ?_,fun _=> .inl rfl⟩
   have h1:sdE es ls w e1=sdE es ls w e0:=by rw[w10 w w2,u10 w u2,hq]
   have h2:=sg_of hA hf hm w4 u4 w7 u7 w9 u9 h1
   have h3:=(h.eq w4 u4 w7 u7).2 h2
   have h4:=List.pairwise_iff_getElem.1 hr j i hj2 hi hjl
   unfold o12R at h4
   omega
  ·have h1:sdE es ls u e1=lvE ls u w:=sd_at hA hf hm u2 w4 w7 w9 hwu
   have h2:=w10 u u2
   have hver:X w↔lvE ls u w≠sdE es ls u k:=by
    show(w=u∨_∨_)↔_
    constructor
    ·rintro(h1|h1|h1)
     ·exact(hwu h1).elim
     ·exact h1.2.2
     ·omega
    ·intro h1;exact .inr (.inl ⟨w2,hwu,h1⟩)
   rw[hver,hblk,←h1,h2]
 rcases hX with h1|h1|h1
 ·omega
 ·omega
 ·rw[show N+k-N=k by omega] at h1
  exact h1.2 rfl
end Go.Proofs.YtlnehgklibbjiaaGreat
