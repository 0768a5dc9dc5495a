/-
  Parts of the proof, put together: CompG, CompH, CompE. No condition.
-/
import Derived.Test.YtpckicjfigmjkaaGreatJ24
set_option linter.unusedVariables false
set_option linter.unusedSimpArgs false
set_option linter.unnecessarySimpa false
set_option maxHeartbeats 4000000
namespace Go.Proofs.YtpckicjfigmjkaaGreat
open Go.SL Go.Tup Go.Srt Go.Gr
def lkPut (w col:Nat) (t:T5):T5:=setc (if t.col w≠-1 then setc t col (t.col w) else t) w 0
def ordC:Nat→T5
 |0=>o1
 |_=>oB
def lookL (w col:Nat) (h f:List T5):List T5:=((srt (ltO (ordC col)) false f).map (lookF h col 1 w)).map (lkPut w col)
def rfx (h:List T5) (x:Int):Int:=if lkV h x 1≠-1 then lkV h x 1 else x
theorem lookL30 {h f:List T5} (hf:∀t∈f,okT 3 t):(lookL 3 0 h f).Perm (f.map fun t=>⟨rfx h t.c0,t.c1,t.c2,0,0⟩):=by
 unfold lookL
 rw[List.map_map]
 refine((perm_srt _).map _).trans (List.Perm.of_eq (List.map_congr_left fun t ht=> ?_))
 have h4:t.c4=0:=(hf t ht).2 4 (by omega)
 show lkPut 3 0 (setc t 3 (lkV h t.c0 1))=_
 unfold lkPut rfx setc
 simp only[T5.col,h4]
 split<;>rfl
theorem lookL31 {h f:List T5} (hf:∀t∈f,okT 3 t):(lookL 3 1 h f).Perm (f.map fun t=>⟨t.c0,rfx h t.c1,t.c2,0,0⟩):=by
 unfold lookL
 rw[List.map_map]
 refine((perm_srt _).map _).trans (List.Perm.of_eq (List.map_congr_left fun t ht=> ?_))
 have h4:t.c4=0:=(hf t ht).2 4 (by omega)
 show lkPut 3 1 (setc t 3 (lkV h t.c1 1))=_
 unfold lkPut rfx setc
 simp only[T5.col,h4]
 split<;>rfl
theorem lookL21 {h f:List T5} (hf:∀t∈f,okT 2 t):(lookL 2 1 h f).Perm (f.map fun t=>⟨t.c0,rfx h t.c1,0,0,0⟩):=by
 unfold lookL
 rw[List.map_map]
 refine((perm_srt _).map _).trans (List.Perm.of_eq (List.map_congr_left fun t ht=> ?_))
 have h3:t.c3=0:=(hf t ht).2 3 (by omega)
 have h4:t.c4=0:=(hf t ht).2 4 (by omega)
 show lkPut 2 1 (setc t 2 (lkV h t.c1 1))=_
 unfold lkPut rfx setc
 simp only[T5.col,h3,h4]
 split<;>rfl
def edL (h E:List T5):List T5:=lookL 3 1 h (lookL 3 0 h E)
def edN (h E:List T5):List T5:=(edL h E).filter fun t=>decide (t.c0≠t.c1)
theorem edL_perm {h E:List T5} (hf:∀t∈E,okT 3 t) (hf2:∀t∈lookL 3 0 h E,okT 3 t):(edL h E).Perm (E.map fun t=>⟨rfx h t.c0,rfx h t.c1,t.c2,0,0⟩):=by
 unfold edL
 refine(lookL31 hf2).trans ?_
 refine((lookL30 hf).map _).trans ?_
 rw[List.map_map]
 exact .refl _
structure CInv (N:Nat) (sl:List T5) (L:Nat→Nat) (F:Nat→Prop) (E La Fo:List T5):Prop where
 lab:La.Perm ((List.range N).map fun (v:Nat)=>⟨(v:Int),(L v:Int),0,0,0⟩)
 lt:∀v,v<N→L v<N
 cn:∀v w,v<N→w<N→(L v=L w↔Cn (gE (sl.map eOf)) F v w)
 kr:∀i,F i→Kr (gE (sl.map eOf)) (fun j=>j<sl.length) i
 fo:∀x,x∈Fo↔∃(i:Nat) (s:T5),sl[i]? =some s∧F i∧x=⟨s.c0,0,0,0,0⟩
 ed:∀t,t∈E↔∃(i:Nat) (s:T5),sl[i]? =some s∧L s.c1.toNat≠L s.c2.toNat∧t=⟨(L s.c1.toNat:Int),(L s.c2.toNat:Int),s.c0,0,0⟩
 nd:E.Pairwise fun a c=>a.c2≠c.c2
 len:Fo.length+2*E.length≤2*sl.length
structure SlOk (N:Nat) (sl:List T5):Prop where
 n:N≤1000000
 ed:∀t∈sl,edgeOk N t
 lt:sl.Pairwise fun a c=>a.c0<c.c0
 ok:∀t∈sl,okT 3 t
theorem gE_sl {sl:List T5} {i:Nat} {s:T5} (h:sl[i]? =some s):gE (sl.map eOf) i=(s.c1.toNat,s.c2.toNat):=by
 unfold Go.Proofs.YtpckicjfigmjkaaGreat.gE
 rw[List.getElem?_map,h];rfl
theorem SlOk.inN {N:Nat} {sl:List T5} (h:SlOk N sl) {i:Nat} {s:T5} (hs:sl[i]? =some s):s.c1.toNat<N∧s.c2.toNat<N:=by
 obtain⟨_,h1,h2,h3,h4⟩:=h.ed s (List.mem_of_getElem? hs)
 omega
theorem SlOk.idx {N:Nat} {sl:List T5} (h:SlOk N sl) {i j:Nat} {s u:T5} (hs:sl[i]? =some s) (hu:sl[j]? =some u):(i<j↔s.c0<u.c0)∧(s.c0=u.c0→i=j):=by
 obtain⟨i1,rfl⟩:=List.getElem?_eq_some_iff.1 hs
 obtain⟨i2,rfl⟩:=List.getElem?_eq_some_iff.1 hu
 have h1:=fun hh=>List.pairwise_iff_getElem.1 h.lt i j i1 i2 hh
 have h2:=fun hh=>List.pairwise_iff_getElem.1 h.lt j i i2 i1 hh
 rcases Nat.lt_trichotomy i j with h3|h3|h3
 ·have:=h1 h3;exact⟨⟨fun _=>this,fun _=>h3⟩,fun e=>by omega⟩
 ·subst h3;exact⟨⟨fun hh=>by omega,fun hh=>by omega⟩,fun _=>rfl⟩
 ·have:=h2 h3;exact⟨⟨fun hh=>by omega,fun hh=>by omega⟩,fun e=>by omega⟩
section
variable {N:Nat} {sl:List T5} {L:Nat→Nat} {F:Nat→Prop} {E La Fo:List T5}
theorem inNt {x:Nat} (h:x≤1000000):inI64 (x:Int):=⟨by omega,by omega⟩
theorem CInv.eok (hs:SlOk N sl) (h:CInv N sl L F E La Fo):EOk E where
 c0 t ht:=by
  obtain⟨i,s,h1,h2,rfl⟩:=(h.ed t).1 ht
  refine⟨Int.natCast_nonneg _,Int.natCast_nonneg _,fun e=>h2 ?_⟩
  have e:((L s.c1.toNat:Nat):Int)=(L s.c2.toNat:Int):=e
  omega
 ok t ht:=by
  obtain⟨i,s,h1,h2,rfl⟩:=(h.ed t).1 ht
  have h3:=hs.inN h1
  have h4:=h.lt _ h3.1
  have h5:=h.lt _ h3.2
  have hn:=hs.n
  exact okT3 (inNt (by omega)) (inNt (by omega)) (okT_cols (hs.ok s (List.mem_of_getElem? h1))).1
 nd:=h.nd
theorem CInv.cho (hs:SlOk N sl) (h:CInv N sl L F E La Fo) {t:T5} (ht:t∈choL E):∃(i:Nat) (s:T5),sl[i]? =some s∧L s.c1.toNat≠L s.c2.toNat∧t.c2=s.c0∧
  ((t.c0=(L s.c1.toNat:Int)∧t.c1=(L s.c2.toNat:Int))∨(t.c0=(L s.c2.toNat:Int)∧t.c1=(L s.c1.toNat:Int)))∧
  ∀(j:Nat) (u:T5),sl[j]? =some u→L u.c1.toNat≠L u.c2.toNat→((L u.c1.toNat:Int)=t.c0∨(L u.c2.toNat:Int)=t.c0)→i≤j:=by
 have he:=h.eok hs
 obtain⟨e,hin,hte⟩:=choL_sub ht
 obtain⟨i,s,h1,h2,rfl⟩:=(h.ed e).1 hin
 refine⟨i,s,h1,h2,by rcases hte with rfl|rfl<;>rfl,by rcases hte with rfl|rfl;exact .inl ⟨rfl,rfl⟩;exact .inr ⟨rfl,rfl⟩,fun j u hu hne hc=> ?_⟩
 have h3:(⟨(L u.c1.toNat:Int),(L u.c2.toNat:Int),u.c0,0,0⟩:T5)∈E:=(h.ed _).2 ⟨j,u,hu,hne,rfl⟩
 have h4:t.c2≤u.c0:=by
  rcases hc with hc|hc
  ·exact he.cho.2.1 t ht _ (bothL_mem.2 ⟨_,h3,.inl rfl⟩) hc
  ·exact he.cho.2.1 t ht _ (bothL_mem.2 ⟨_,h3,.inr rfl⟩) hc
 have h5:t.c2=s.c0:=by rcases hte with rfl|rfl<;>rfl
 have h6:=hs.idx hu h1
 by_cases hji:j<i
 ·have:=h6.1.1 hji;omega
 ·omega
noncomputable def phi (sl E:List T5) (u:Int):Nat:=match chT' E u with
 |some t=>match sl.findIdx? fun s=>decide (s.c0=t.c2) with
  |some i=>2*i+(if t.c1<t.c0 then 1 else 0)
  |none=>0
 |none=>0
theorem idx_of (hs:SlOk N sl) {i:Nat} {s:T5} (h:sl[i]? =some s):sl.findIdx? (fun u=>decide (u.c0=s.c0))=some i:=by
 rw[List.findIdx?_eq_some_iff_getElem]
 obtain⟨hi,rfl⟩:=List.getElem?_eq_some_iff.1 h
 refine⟨hi,by simp,fun j hj=> ?_⟩
 have:=List.pairwise_iff_getElem.1 hs.lt j i (by omega) hi hj
 simp only[decide_eq_true_eq]
 omega
theorem CInv.phi_is (hs:SlOk N sl) (h:CInv N sl L F E La Fo) {t:T5} (ht:t∈choL E):∃(i:Nat) (s:T5),sl[i]? =some s∧t.c2=s.c0∧phi sl E t.c0=2*i+(if t.c1<t.c0 then 1 else 0):=by
 obtain⟨i,s,h1,_,h3,_⟩:=h.cho hs ht
 refine⟨i,s,h1,h3,?_⟩
 unfold phi
 rw[chT_some (h.eok hs) ht]
 dsimp only
 rw[h3,idx_of hs h1]
theorem CInv.phi_ok (hs:SlOk N sl) (h:CInv N sl L F E La Fo):∀t∈choL E,∀u∈choL E,(u.c2<t.c2→phi sl E u.c0<phi sl E t.c0)∧(u=revT t→u.c0<t.c0→phi sl E u.c0<phi sl E t.c0):=by
 intro t ht u hu
 obtain⟨i,s,h1,h2,h3⟩:=h.phi_is hs ht
 obtain⟨j,r,g1,g2,g3⟩:=h.phi_is hs hu
 rw[h3,g3]
 constructor
 ·intro hlt
  have:=(hs.idx g1 h1).1.2 (by omega)
  split<;>split<;>omega
 ·intro hr hlt
  have e1:u.c2=t.c2:=by rw[hr];rfl
  have e2:u.c1=t.c0:=by rw[hr];rfl
  have e3:u.c0=t.c1:=by rw[hr];rfl
  have:=(hs.idx g1 h1).2 (by omega)
  subst this
  rw[if_neg (by omega),if_pos (by omega)]
  omega
theorem CInv.phi_le (hs:SlOk N sl) (h:CInv N sl L F E La Fo) {u:Int} (hu:∃t∈choL E,t.c0=u):phi sl E u≤2*sl.length:=by
 obtain⟨t,ht,rfl⟩:=hu
 obtain⟨i,s,h1,h2,h3⟩:=h.phi_is hs ht
 have:=(List.getElem?_eq_some_iff.1 h1).1
 rw[h3]
 split<;>omega
theorem CInv.fixed (hs:SlOk N sl) (h:CInv N sl L F E La Fo) {m:Nat} (hm:0<m) (hq:∀t∈choL E,itA (pC E) m (itA (pC E) m t.c0)=itA (pC E) m t.c0) {u:Int} (hu:∃t∈choL E,t.c0=u):pC E (itA (pC E) m u)=itA (pC E) m u:=by
 have he:=h.eok hs
 obtain⟨m,rfl⟩:∃m',m=m'+1:=⟨m-1,by omega⟩
 have h1:=itA_dom he (m+1) hu
 obtain⟨t,ht,rfl⟩:=hu
 exact it_back he (h.phi_ok hs) h1 (hq t ht)
theorem CInv.ends (hs:SlOk N sl) (h:CInv N sl L F E La Fo) {m:Nat} (hm:2*sl.length≤m):∀t∈choL E,itA (pC E) m (itA (pC E) m t.c0)=itA (pC E) m t.c0:=by
 intro t ht
 have he:=h.eok hs
 have h1:∃u∈choL E,u.c0=t.c0:=⟨t,ht,rfl⟩
 exact it_fix E (it_end he (h.phi_ok hs) m h1 (Nat.le_trans (h.phi_le hs h1) hm)) m
end
def Dm (E:List T5) (u:Int):Prop:=∃t∈choL E,t.c0=u
section
variable {N:Nat} {sl:List T5} {L:Nat→Nat} {F:Nat→Prop} {E La Fo:List T5}
theorem CInv.dmLab (hs:SlOk N sl) (h:CInv N sl L F E La Fo) {u:Int} (hu:Dm E u):∃a,a<N∧(L a:Int)=u:=by
 obtain⟨t,ht,rfl⟩:=hu
 obtain⟨i,s,h1,_,_,h4,_⟩:=h.cho hs ht
 have h5:=hs.inN h1
 rcases h4 with⟨h4,_⟩|⟨h4,_⟩
 ·exact⟨_,h5.1,h4.symm⟩
 ·exact⟨_,h5.2,h4.symm⟩
theorem rfx_dm {E:List T5} (he:EOk E) (q:Int→Int) (hq:∀u,Dm E u→0≤q u) {u:Int} (hu:Dm E u):rfx (ptL E q) u=q u:=by
 unfold rfx
 rw[ptL_lk he q hu,if_pos]
 have:=hq u hu
 omega
theorem rfx_no {E:List T5} (q:Int→Int) {u:Int} (hu:¬Dm E u):rfx (ptL E q) u=u:=by
 unfold rfx
 rw[ptL_no q hu,if_neg]
 simp
structure Rnd (E:List T5) (m:Nat):Prop where
 fix:∀u,Dm E u→pC E (itA (pC E) m u)=itA (pC E) m u
def Hm (E:List T5) (m:Nat):List T5:=ptL E (itA (pC E) m)
def nx (E:List T5) (m:Nat) (L:Nat→Nat) (v:Nat):Nat:=(rfx (Hm E m) (L v)).toNat
theorem CInv.pos (hs:SlOk N sl) (h:CInv N sl L F E La Fo) {u:Int} (hu:Dm E u) (m:Nat):0≤itA (pC E) m u:=by
 obtain⟨a,_,he⟩:=h.dmLab hs (itA_dom (h.eok hs) m hu)
 omega
theorem CInv.rfxL (hs:SlOk N sl) (h:CInv N sl L F E La Fo) (m:Nat) {v:Nat} (hv:v<N):∃w,w<N∧rfx (Hm E m) (L v)=(L w:Int):=by
 by_cases hd:Dm E (L v)
 ·have h1:rfx (Hm E m) (L v)=itA (pC E) m (L v):=rfx_dm (h.eok hs) _ (fun u hu=>h.pos hs hu m) hd
  obtain⟨a,ha,he⟩:=h.dmLab hs (itA_dom (h.eok hs) m hd)
  exact⟨a,ha,by rw[h1,he]⟩
 ·exact⟨v,hv,rfx_no _ hd⟩
theorem CInv.nxI (hs:SlOk N sl) (h:CInv N sl L F E La Fo) (m:Nat) {v:Nat} (hv:v<N):(nx E m L v:Int)=rfx (Hm E m) (L v):=by
 obtain⟨w,_,he⟩:=h.rfxL hs m hv
 unfold nx
 rw[he];rfl
theorem Rnd.rp {E:List T5} {m:Nat} (hr:Rnd E m) {u:Int} (hu:Dm E u):itA (pC E) m (pC E u)=itA (pC E) m u:=by
 have h1:itA (pC E) m (pC E u)=itA (pC E) (m+1) u:=rfl
 rw[h1,itA_succ]
 exact hr.fix u hu
theorem pC_cases {E:List T5} (he:EOk E) {t:T5} (ht:t∈choL E):pC E t.c0=t.c1∨(pC E t.c0=t.c0∧pC E t.c1=t.c0):=by
 have h1:=pC_of he ht
 by_cases hc:lkV (choL E) t.c1 2=t.c2∧t.c0<t.c1
 ·rw[if_pos hc] at h1
  obtain⟨u,hu,hu0,hle,hrev⟩:=he.other ht
  have h2:lkV (choL E) t.c1 2=u.c2:=lkV_some (v:=2) he.cho.1 hu hu0
  have h3:=hrev (by rw[←h2];exact hc.1)
  have h4:=pC_of he hu
  have e1:u.c1=t.c0:=by rw[h3];rfl
  rw[if_neg fun h5=>by rw[hu0,e1] at h5;omega,hu0,e1] at h4
  exact .inr ⟨h1,h4⟩
 ·rw[if_neg hc] at h1
  exact .inl h1
theorem Dm.other {E:List T5} (he:EOk E) {t:T5} (ht:t∈choL E):Dm E t.c1:=by
 obtain⟨u,hu,hu0,_⟩:=he.other ht
 exact⟨u,hu,hu0⟩
theorem Rnd.same {E:List T5} {m:Nat} (hr:Rnd E m) (he:EOk E) {t:T5} (ht:t∈choL E):itA (pC E) m t.c0=itA (pC E) m t.c1:=by
 rcases pC_cases he ht with h|⟨h1,h2⟩
 ·have:=hr.rp (u:=t.c0) ⟨t,ht,rfl⟩
  rw[h] at this;exact this.symm
 ·have:=hr.rp (Dm.other he ht)
  rw[h2] at this;exact this
def ChE (sl E:List T5) (i:Nat):Prop:=∃(s t:T5),sl[i]? =some s∧t∈choL E∧t.c2=s.c0
theorem CInv.chE (hs:SlOk N sl) (h:CInv N sl L F E La Fo) {i:Nat} (hc:ChE sl E i):∃(s t:T5),sl[i]? =some s∧t∈choL E∧t.c2=s.c0∧L s.c1.toNat≠L s.c2.toNat∧
  ((t.c0=(L s.c1.toNat:Int)∧t.c1=(L s.c2.toNat:Int))∨(t.c0=(L s.c2.toNat:Int)∧t.c1=(L s.c1.toNat:Int)))∧
  ∀(j:Nat) (u:T5),sl[j]? =some u→L u.c1.toNat≠L u.c2.toNat→((L u.c1.toNat:Int)=t.c0∨(L u.c2.toNat:Int)=t.c0)→i≤j:=by
 obtain⟨s,t,h1,h2,h3⟩:=hc
 obtain⟨j,u,g1,g2,g3,g4,g5⟩:=h.cho hs h2
 obtain rfl:=(hs.idx g1 h1).2 (by omega)
 rw[h1] at g1;cases g1
 exact⟨s,t,h1,h2,h3,g2,g4,g5⟩
theorem CInv.rfx_ch (hs:SlOk N sl) (h:CInv N sl L F E La Fo) {m:Nat} (hr:Rnd E m) {t:T5} (ht:t∈choL E):rfx (Hm E m) t.c0=rfx (Hm E m) t.c1:=by
 have he:=h.eok hs
 unfold Hm
 rw[rfx_dm he _ (fun u hu=>h.pos hs hu m) ⟨t,ht,rfl⟩,rfx_dm he _ (fun u hu=>h.pos hs hu m) (Dm.other he ht)]
 exact hr.same he ht
theorem CInv.taken (hs:SlOk N sl) (h:CInv N sl L F E La Fo) {m:Nat} (hr:Rnd E m) {i:Nat} (hi:F i∨ChE sl E i):∃(s:T5),sl[i]? =some s∧nx E m L s.c1.toNat=nx E m L s.c2.toNat:=by
 rcases hi with hi|hi
 ·have h1:=(h.kr i hi).1
  have h2:sl[i]? =some sl[i]:=List.getElem?_eq_getElem h1
  have h3:=hs.inN h2
  have h4:Cn (gE (sl.map eOf)) F (sl[i]).c1.toNat (sl[i]).c2.toNat:=by
   have:=Cn.edge (g:=gE (sl.map eOf)) hi
   rwa[gE_sl h2] at this
  refine⟨_,h2,?_⟩
  unfold nx
  rw[(h.cn _ _ h3.1 h3.2).2 h4]
 ·obtain⟨s,t,h1,h2,h3,_,h5,_⟩:=h.chE hs hi
  refine⟨s,h1,?_⟩
  have h6:=h.rfx_ch hs hr h2
  unfold nx
  rcases h5 with⟨a,b⟩|⟨a,b⟩
  ·rw[←a,←b,h6]
  ·rw[←a,←b,h6]
theorem CInv.hang (hs:SlOk N sl) (h:CInv N sl L F E La Fo):∀(k:Nat) {u:Int},Dm E u→∀{v w:Nat},v<N→(L v:Int)=u→w<N→(L w:Int)=itA (pC E) k u→Cn (gE (sl.map eOf)) (fun i=>F i∨ChE sl E i) v w
 |0,u,hu,v,w,hv,hvu,hw,hwu=>by
  have h1:L v=L w:=by
   have hwu:(L w:Int)=u:=hwu
   omega
  exact((h.cn v w hv hw).1 h1).mono fun i hi=> .inl hi
 |k+1,u,hu,v,w,hv,hvu,hw,hwu=>by
  have he:=h.eok hs
  have hd:=pC_dom he hu
  obtain⟨z,hz,hzl⟩:=h.dmLab hs hd
  refine Cn.trans ?_ (h.hang hs k hd hz hzl hw hwu)
  obtain⟨t,ht,rfl⟩:=hu
  have hF:∀{a b:Nat},a<N→b<N→L a=L b→Cn (gE (sl.map eOf)) (fun i=>F i∨ChE sl E i) a b:=fun ha hb hab=>((h.cn _ _ ha hb).1 hab).mono fun i hi=> .inl hi
  rcases pC_cases he ht with h1|⟨h1,_⟩
  ·obtain⟨i,s,g1,g2,g3,g4,_⟩:=h.cho hs ht
   have h3:=hs.inN g1
   have h4:Cn (gE (sl.map eOf)) (fun i=>F i∨ChE sl E i) s.c1.toNat s.c2.toNat:=by
    have:=Cn.edge (g:=gE (sl.map eOf)) (S:=fun i=>F i∨ChE sl E i) (i:=i) (.inr ⟨s,t,g1,ht,g3⟩)
    rwa[gE_sl g1] at this
   rw[h1] at hzl
   rcases g4 with⟨a,b⟩|⟨a,b⟩
   ·exact((hF hv h3.1 (by omega)).trans h4).trans (hF h3.2 hz (by omega))
   ·exact((hF hv h3.2 (by omega)).trans h4.symm).trans (hF h3.1 hz (by omega))
  ·rw[h1] at hzl
   exact hF hv hz (by omega)
theorem CInv.ok2 (hs:SlOk N sl) (h:CInv N sl L F E La Fo):∀t∈La,okT 2 t:=by
 intro t ht
 obtain⟨v,hv,rfl⟩:=List.mem_map.1 (h.lab.mem_iff.1 ht)
 have h1:=List.mem_range.1 hv
 have h2:=h.lt v h1
 have hn:=hs.n
 exact okT2 (inNt (by omega)) (inNt (by omega))
theorem CInv.edm (hs:SlOk N sl) (h:CInv N sl L F E La Fo) (m:Nat):(edL (Hm E m) E).Perm (E.map fun t=>⟨rfx (Hm E m) t.c0,rfx (Hm E m) t.c1,t.c2,0,0⟩):=by
 have he:=h.eok hs
 refine edL_perm he.ok fun t ht=> ?_
 obtain⟨u,hu,rfl⟩:=List.mem_map.1 ((lookL30 he.ok).mem_iff.1 ht)
 obtain⟨i,s,h1,h2,rfl⟩:=(h.ed u).1 hu
 have h3:=hs.inN h1
 obtain⟨w,hw,he2⟩:=h.rfxL hs m h3.1
 have h4:=h.lt _ hw
 have h5:=h.lt _ h3.2
 have hn:=hs.n
 dsimp only
 rw[he2]
 exact okT3 (inNt (by omega)) (inNt (by omega)) (okT_cols (hs.ok s (List.mem_of_getElem? h1))).1
theorem CInv.step (hs:SlOk N sl) (h:CInv N sl L F E La Fo) {m:Nat} (hr:Rnd E m):
  CInv N sl (nx E m L) (fun i=>F i∨ChE sl E i) (edN (Hm E m) E) (lookL 2 1 (Hm E m) La) (Fo++(choL E).map fun t=>⟨t.c2,0,0,0,0⟩)∧(E≠[]→(edN (Hm E m) E).length<E.length):=by
 have he:=h.eok hs
 have hedm:=h.edm hs m
 have hcnt:(edN (Hm E m) E).length+(E.filter fun t=>decide (rfx (Hm E m) t.c0=rfx (Hm E m) t.c1)).length=E.length:=by
  have e1:(edN (Hm E m) E).length=E.countP fun t=>decide (rfx (Hm E m) t.c0≠rfx (Hm E m) t.c1):=by
   unfold edN
   rw[←List.countP_eq_length_filter,hedm.countP_eq,List.countP_map]
   rfl
  have e2:=List.length_eq_countP_add_countP (fun t:T5=>decide (rfx (Hm E m) t.c0=rfx (Hm E m) t.c1)) (l:=E)
  rw[←List.countP_eq_length_filter,e1,e2,Nat.add_comm]
  congr 1
  refine List.countP_congr fun t _=> ?_
  simp
 have hsub:(choL E).length≤2*(E.filter fun t=>decide (rfx (Hm E m) t.c0=rfx (Hm E m) t.c1)).length:=by
  rw[←bothL_len]
  have hnd:(choL E).Nodup:=he.cho.1.imp fun {a b} hh e=>by rw[e] at hh;omega
  refine hnd.length_le_of_subset fun z hz=> ?_
  obtain⟨t,ht,hzt⟩:=choL_sub hz
  refine bothL_mem.2 ⟨t,List.mem_filter.2 ⟨ht,decide_eq_true ?_⟩,hzt⟩
  have:=h.rfx_ch hs hr hz
  rcases hzt with rfl|rfl
  ·exact this
  ·exact this.symm
 refine⟨⟨?_,?_,?_,?_,?_,?_,?_,?_⟩,fun hne=> ?_⟩
 ·refine(lookL21 (h.ok2 hs)).trans ((h.lab.map _).trans ?_)
  rw[List.map_map]
  refine List.Perm.of_eq (List.map_congr_left fun v hv=> ?_)
  have:=h.nxI hs m (List.mem_range.1 hv)
  simp only[Function.comp_apply]
  rw[this]
 ·intro v hv
  obtain⟨w,hw,he2⟩:=h.rfxL hs m hv
  unfold nx
  rw[he2]
  exact h.lt w hw
 ·intro v w hv hw
  have hvI:=h.nxI hs m hv
  have hwI:=h.nxI hs m hw
  constructor
  ·intro heq
   have hnm:∀{a:Nat},a<N→∃b,b<N∧(L b:Int)=rfx (Hm E m) (L a)∧Cn (gE (sl.map eOf)) (fun i=>F i∨ChE sl E i) a b:=by
    intro a ha
    obtain⟨b,hb,hbe⟩:=h.rfxL hs m ha
    refine⟨b,hb,hbe.symm,?_⟩
    by_cases hd:Dm E (L a)
    ·refine h.hang hs m hd ha rfl hb ?_
     rw[←hbe]
     exact rfx_dm he _ (fun u hu=>h.pos hs hu m) hd
    ·rw[show rfx (Hm E m) (L a)=(L a:Int) from rfx_no _ hd] at hbe
     exact((h.cn a b ha hb).1 (by omega)).mono fun i hi=> .inl hi
   obtain⟨b,hb,hbe,hc1⟩:=hnm hv
   obtain⟨c,hc,hce,hc2⟩:=hnm hw
   have h1:L b=L c:=by omega
   exact(hc1.trans (((h.cn b c hb hc).1 h1).mono fun i hi=> .inl hi)).trans hc2.symm
  ·intro hc
   have:=hc.stay (X:=fun y=>nx E m L y=nx E m L v) rfl fun i hi=>by
    obtain⟨s,h1,h2⟩:=h.taken hs hr hi
    rw[gE_sl h1]
    dsimp only
    rw[h2]
   exact this.symm
 ·rintro i (hi|hi)
  ·exact h.kr i hi
  ·obtain⟨s,t,h1,h2,h3,h4,h5,h6⟩:=h.chE hs hi
   refine Kr.cut (X:=fun w=>(L w:Int)=t.c0) (List.getElem?_eq_some_iff.1 h1).1 ?_ ?_
   ·rw[gE_sl h1]
    dsimp only
    rcases h5 with⟨a,b⟩|⟨a,b⟩
    ·rw[a]
     exact fun hh=>h4 (by have:=hh.1 rfl;omega)
    ·rw[a]
     exact fun hh=>h4 (by have:=hh.2 rfl;omega)
   ·intro j hj hji
    have hu:sl[j]? =some sl[j]:=List.getElem?_eq_getElem hj
    rw[gE_sl hu]
    dsimp only
    refine Classical.byContradiction fun hcon=> ?_
    have hne:L (sl[j]).c1.toNat≠L (sl[j]).c2.toNat:=fun e=>hcon (by rw[e])
    have hor:(L (sl[j]).c1.toNat:Int)=t.c0∨(L (sl[j]).c2.toNat:Int)=t.c0:=by
     by_cases ha:(L (sl[j]).c1.toNat:Int)=t.c0
     ·exact .inl ha
     ·by_cases hb:(L (sl[j]).c2.toNat:Int)=t.c0
      ·exact .inr hb
      ·exact absurd ⟨fun hh=>absurd hh ha,fun hh=>absurd hh hb⟩ hcon
    have:=h6 j _ hu hne hor
    omega
 ·intro x
  rw[List.mem_append,List.mem_map]
  constructor
  ·rintro(hx|⟨t,ht,rfl⟩)
   ·obtain⟨i,s,a,b,c⟩:=(h.fo x).1 hx
    exact⟨i,s,a,.inl b,c⟩
   ·obtain⟨i,s,g1,_,g3,_⟩:=h.cho hs ht
    exact⟨i,s,g1,.inr ⟨s,t,g1,ht,g3⟩,by rw[g3]⟩
  ·rintro⟨i,s,a,b|⟨s',t,b1,b2,b3⟩,rfl⟩
   ·exact .inl ((h.fo _).2 ⟨i,s,a,b,rfl⟩)
   ·rw[a] at b1;cases b1
    exact .inr ⟨t,b2,by rw[b3]⟩
 ·intro t
  unfold edN
  rw[List.mem_filter,hedm.mem_iff,List.mem_map]
  constructor
  ·rintro⟨⟨u,hu,rfl⟩,hne⟩
   obtain⟨i,s,h1,h2,rfl⟩:=(h.ed u).1 hu
   have h3:=hs.inN h1
   have e1:=h.nxI hs m h3.1
   have e2:=h.nxI hs m h3.2
   have hne:=of_decide_eq_true hne
   dsimp only at hne⊢
   refine⟨i,s,h1,fun e=>hne (by rw[←e1,←e2,e]),by rw[e1,e2]⟩
  ·rintro⟨i,s,h1,h2,rfl⟩
   have h3:=hs.inN h1
   have e1:=h.nxI hs m h3.1
   have e2:=h.nxI hs m h3.2
   refine⟨⟨⟨(L s.c1.toNat:Int),(L s.c2.toNat:Int),s.c0,0,0⟩,(h.ed _).2 ⟨i,s,h1,fun e=>h2 ?_,rfl⟩,by dsimp only;rw[e1,e2]⟩,decide_eq_true ?_⟩
   ·unfold nx;rw[e]
   ·dsimp only;omega
 ·unfold edN
  refine List.Pairwise.sublist List.filter_sublist ?_
  refine(hedm.pairwise_iff (R:=fun a c:T5=>a.c2≠c.c2) (fun hh=>fun e=>hh e.symm)).2 ?_
  exact List.pairwise_map.2 (h.nd.imp fun hh=>hh)
 ·have:=h.len
  rw[List.length_append,List.length_map]
  omega
 ·have:choL E≠[]:=by
   obtain⟨t,l,rfl⟩:∃t l,E=t::l:=by
    cases E with
    |nil=>exact absurd rfl hne
    |cons t l=>exact⟨t,l,rfl⟩
   obtain⟨z,hz,_⟩:=he.cho.2.2 t (bothL_mem.2 ⟨t,List.mem_cons_self,.inl rfl⟩)
   intro e
   rw[e] at hz;cases hz
  have:0<(choL E).length:=List.length_pos_iff.2 this
  omega
end
end Go.Proofs.YtpckicjfigmjkaaGreat
namespace Go.Proofs.YtpckicjfigmjkaaGreat
open Go.SL Go.Tup Go.Srt Go.Gr
def edgO (t:T5):List T5:=if t.c1=t.c2 then[] else[⟨t.c1,t.c2,t.c0,0,0⟩]
def edg0 (l:List T5):List T5:=l.flatMap edgO
def lab0 (N:Nat):List T5:=(List.range N).map fun (v:Nat)=>⟨(v:Int),(v:Int),0,0,0⟩
abbrev slS (l:List T5):List T5:=srt (ltO o1) false l
def frsL (La:List T5):List T5:=srt (ltO o1) true (srt (ltO o12) false (La.map fun t=>⟨t.c1,t.c0,0,0,0⟩))
def labF (La:List T5):List T5:=srt (ltO o1) false (lookL 2 1 (frsL La) La)
def treF (Fo l:List T5):List T5:=((srt (ltO o1) true Fo).map (lookF (slS l) 0 1 1)).map (lookF (slS l) 0 2 2)
theorem strictExt {a b:List T5} (ha:a.Pairwise fun x y=>x.c0<y.c0) (hb:b.Pairwise fun x y=>x.c0<y.c0) (h:∀z,z∈a↔z∈b):a=b:=by
 have na:a.Nodup:=ha.imp fun {x y} hh e=>by rw[e] at hh;omega
 have nb:b.Nodup:=hb.imp fun {x y} hh e=>by rw[e] at hh;omega
 have hp:a.Perm b:=by
  rw[List.perm_iff_count]
  intro x
  have k1:=List.nodup_iff_count.1 na x
  have k2:=List.nodup_iff_count.1 nb x
  by_cases hx:x∈a
  ·have h4:=List.count_pos_iff.2 hx
   have h5:=List.count_pos_iff.2 ((h x).1 hx)
   omega
  ·have h4:=List.count_eq_zero.2 hx
   have h5:=List.count_eq_zero.2 fun hy=>hx ((h x).2 hy)
   omega
 exact hp.eq_of_pairwise (le:=fun x y=>x.c0<y.c0) (fun x y _ _ h1 h2=>absurd h1 (by omega)) ha hb
theorem edg0mem {l:List T5} {z:T5}:z∈edg0 l↔∃t∈l,t.c1≠t.c2∧z=⟨t.c1,t.c2,t.c0,0,0⟩:=by
 unfold edg0
 rw[List.mem_flatMap]
 refine exists_congr fun t=>and_congr_right fun _=> ?_
 unfold edgO
 by_cases h:t.c1=t.c2
 ·rw[if_pos h];simp[h]
 ·rw[if_neg h];simp[h]
theorem edg0len:∀l:List T5,(edg0 l).length≤l.length
 |[]=>Nat.le_refl _
 |t::l=>by
  have:=edg0len l
  unfold edg0 at this⊢
  rw[List.flatMap_cons,List.length_append]
  have h:(edgO t).length≤1:=by unfold edgO;split<;>simp
  simp only[List.length_cons];omega
theorem edg0nd:∀{l:List T5},(l.Pairwise fun a c=>a.c0≠c.c0)→(edg0 l).Pairwise fun a c=>a.c2≠c.c2
 |[],_=>List.Pairwise.nil
 |t::l,h=>by
  obtain⟨h1,h2⟩:=List.pairwise_cons.1 h
  have ih:=edg0nd h2
  unfold edg0 at ih⊢
  rw[List.flatMap_cons,List.pairwise_append]
  refine⟨by unfold edgO;split<;>simp,ih,fun a ha b hb=> ?_⟩
  obtain⟨u,hu,_,rfl⟩:=edg0mem.1 (show b∈edg0 l from hb)
  unfold edgO at ha
  split at ha
  ·cases ha
  ·simp only[List.mem_singleton] at ha
   subst ha
   exact h1 u hu
theorem slOk {N:Nat} {l:List T5} (hN:N≤1000000) (h:edgesOk N l) (hok:∀t∈l,okT 3 t):SlOk N (slS l) where
 n:=hN
 ed t ht:=h.1 t ((perm_srt l).mem_iff.1 ht)
 lt:=srtStrict h.2
 ok t ht:=hok t ((perm_srt l).mem_iff.1 ht)
theorem sl_mem {l:List T5} {s:T5}:s∈l↔∃i:Nat,(slS l)[i]? =some s:=by
 rw[←(perm_srt (lt:=ltO o1) l).mem_iff,List.mem_iff_getElem?]
theorem cinv0 {N:Nat} {l:List T5} (hN:N≤1000000) (h:edgesOk N l):CInv N (slS l) id (fun _=>False) (edg0 l) (lab0 N) [] where
 lab:= .refl _
 lt v hv:=hv
 cn v w hv hw:=by
  constructor
  ·intro e
   have e:v=w:=e
   subst e;exact .refl _
  ·intro hc
   exact(hc.stay (X:=fun y=>y=v) rfl fun i hi=>absurd hi id).symm
 kr i hi:=absurd hi id
 fo x:=by simp
 ed t:=by
  rw[edg0mem]
  constructor
  ·rintro⟨s,hs,hne,rfl⟩
   obtain⟨i,hi⟩:=sl_mem.1 hs
   obtain⟨_,h1,h2,_,_⟩:=h.1 s hs
   refine⟨i,s,hi,fun e=>hne ?_,?_⟩
   ·have e:s.c1.toNat=s.c2.toNat:=e
    omega
   ·simp only[id]
    rw[Int.toNat_of_nonneg h1,Int.toNat_of_nonneg h2]
  ·rintro⟨i,s,hi,hne,rfl⟩
   have hs:=sl_mem.2 ⟨i,hi⟩
   obtain⟨_,h1,h2,_,_⟩:=h.1 s hs
   refine⟨s,hs,fun e=>hne (by rw[e]),?_⟩
   simp only[id]
   rw[Int.toNat_of_nonneg h1,Int.toNat_of_nonneg h2]
 nd:=edg0nd h.2
 len:=by
  have h1:=edg0len l
  have h2:(slS l).length=l.length:=(perm_srt (lt:=ltO o1) l).length_eq
  simp only[List.length_nil]
  omega
section
variable {N:Nat} {sl:List T5} {L:Nat→Nat} {F:Nat→Prop} {La Fo:List T5}
theorem CInv.all (hs:SlOk N sl) (h:CInv N sl L F [] La Fo) {i:Nat} {s:T5} (hi:sl[i]? =some s):L s.c1.toNat=L s.c2.toNat:=by
 refine Classical.byContradiction fun hne=> ?_
 have:=(h.ed _).2 ⟨i,s,hi,hne,rfl⟩
 cases this
theorem CInv.conn (hs:SlOk N sl) (h:CInv N sl L F [] La Fo) {i:Nat} (hi:i<sl.length):Cn (gE (sl.map eOf)) F (gE (sl.map eOf) i).1 (gE (sl.map eOf) i).2:=by
 have h1:sl[i]? =some sl[i]:=List.getElem?_eq_getElem hi
 have h2:=hs.inN h1
 rw[gE_sl h1]
 exact(h.cn _ _ h2.1 h2.2).1 (h.all hs h1)
theorem CInv.isKr (hs:SlOk N sl) (h:CInv N sl L F [] La Fo) (i:Nat):F i↔Kr (gE (sl.map eOf)) (fun j=>j<sl.length) i:=
 ⟨h.kr i,fun hk=>tree_all (F:=Kr (gE (sl.map eOf)) (fun j=>j<sl.length)) (C:=F) (fun i hi=>Kr.bridge hi) h.kr (fun i hi=>h.conn hs hi.1) i hk⟩
theorem SlOk.stay (hs:SlOk N sl) {a b:Nat} (ha:a<N) (h:Cn (gE (sl.map eOf)) (fun j=>j<sl.length) a b):b<N:=by
 refine h.stay (X:=fun y=>y<N) ha fun i hi=> ?_
 have h1:sl[i]? =some sl[i]:=List.getElem?_eq_getElem hi
 have h2:=hs.inN h1
 rw[gE_sl h1]
 exact⟨fun _=>h2.2,fun _=>h2.1⟩
def labV (N:Nat) (L:Nat→Nat) (La:List T5):List Int:=(List.range N).map fun v=>rfx (frsL La) (L v)
theorem CInv.frs (hs:SlOk N sl) {E:List T5} (h:CInv N sl L F E La Fo) {v:Nat} (hv:v<N):∃x,x<N∧rfx (frsL La) (L v)=(x:Int)∧L x=L v∧∀w,w<N→L w=L v→x≤w:=by
 have hok:=h.ok2 hs
 have hm:∀t∈La.map (fun t:T5=>(⟨t.c1,t.c0,0,0,0⟩:T5)),okT 2 t:=by
  intro t ht
  obtain⟨u,hu,rfl⟩:=List.mem_map.1 ht
  have:=okT_cols (hok u hu)
  exact okT2 this.2.1 this.1
 have hLm:∀w,w<N→(⟨(L w:Int),(w:Int),0,0,0⟩:T5)∈La.map (fun t:T5=>(⟨t.c1,t.c0,0,0,0⟩:T5)):=by
  intro w hw
  refine List.mem_map.2 ⟨⟨(w:Int),(L w:Int),0,0,0⟩,h.lab.mem_iff.2 (List.mem_map.2 ⟨w,List.mem_range.2 hw,rfl⟩),rfl⟩
 obtain⟨z,hz,hzv⟩:∃z∈frsL La,z.c0=(L v:Int):=by
  obtain⟨w,hw,he⟩:=srt_has (o:=o1) (once:=true) ((perm_srt (lt:=ltO o12) _).mem_iff.2 (hLm v hv))
  exact⟨w,hw,(eqv_o1.1 he).symm⟩
 obtain⟨h1,h2⟩:=(least_mem hm).1 hz
 obtain⟨t,ht,rfl⟩:=List.mem_map.1 h1
 obtain⟨x,hx,rfl⟩:=List.mem_map.1 (h.lab.mem_iff.1 ht)
 have hxN:=List.mem_range.1 hx
 dsimp only at hzv h2
 refine⟨x,hxN,?_,by omega,fun w hw he=> ?_⟩
 ·unfold rfx
  have e1:lkV (frsL La) (L v:Int) 1=_:=lkV_some (v:=1) (srt_o1t _) hz hzv
  rw[e1]
  show(if(x:Int)≠-1 then(x:Int) else _)=_
  rw[if_pos (by omega)]
 ·have:=h2 _ (hLm w hw) (by dsimp only;omega)
  dsimp only at this
  omega
theorem CInv.labOk (hs:SlOk N sl) (h:CInv N sl L F [] La Fo):LabOk (gE (sl.map eOf)) (fun j=>j<sl.length) N (-1) (labV N L La) where
 len:=by simp[labV]
 at_ v hv hw:=by
  obtain⟨x,hx,h1,h2,h3⟩:=h.frs hs hv
  refine⟨x,?_,?_,h3 v hv rfl,fun u hu=> ?_⟩
  ·unfold labV
   rw[List.getElem?_map,List.getElem?_range hv,Option.map_some,h1]
  ·exact((h.cn v x hv hx).1 h2.symm).mono fun i hi=>(h.kr i hi).1
  ·have hc:=hu.sub (S':=F) fun i hi=>h.conn hs hi
   have huN:=hs.stay hv hu
   exact h3 u huN ((h.cn v u hv huN).2 hc).symm
 out v hv hw:=by omega
theorem CInv.labIs (hs:SlOk N sl) {E:List T5} (h:CInv N sl L F E La Fo):labF La=labT (labV N L La):=by
 have hl:(labV N L La).length=N:=by simp[labV]
 unfold Go.Proofs.YtpckicjfigmjkaaGreat.labF labT
 rw[hl]
 refine srtIs ?_ ?_
 ·refine(lookL21 (h.ok2 hs)).trans ((h.lab.map _).trans ?_)
  rw[List.map_map]
  refine List.Perm.of_eq (List.map_congr_left fun v hv=> ?_)
  have hv:=List.mem_range.1 hv
  simp only[Function.comp_apply]
  unfold labV
  rw[List.getD_eq_getElem?_getD,List.getElem?_map,List.getElem?_range hv]
  rfl
 ·rw[List.pairwise_map]
  exact List.pairwise_lt_range.imp fun hh=>by dsimp only;omega
open Classical in
noncomputable def forV (sl:List T5) (F:Nat→Prop):List Bool:=(List.range sl.length).map fun i=>decide (F i)
theorem forV_get {sl:List T5} {F:Nat→Prop} {i:Nat} (hi:i<sl.length):∃b,(forV sl F)[i]? =some b∧(b=true↔F i):=by
 unfold forV
 rw[List.getElem?_map,List.getElem?_range hi]
 exact⟨_,rfl,@decide_eq_true_iff _ (Classical.propDecidable _)⟩
theorem CInv.forOk (hs:SlOk N sl) (h:CInv N sl L F [] La Fo):forestOk (sl.map eOf) (forV sl F):=by
 refine⟨by simp[forV],fun i b hb=> ?_⟩
 have hi:i<sl.length:=by
  have:=(List.getElem?_eq_some_iff.1 hb).1
  simpa[forV] using this
 obtain⟨b',h1,h2⟩:=forV_get (F:=F) hi
 rw[hb] at h1;cases h1
 rw[List.length_map,h2]
 exact h.isKr hs i
theorem forT_iff {sl:List T5} {fl:List Bool} {z:T5}:z∈forT sl fl↔∃(i:Nat) (s:T5),sl[i]? =some s∧fl[i]? =some true∧z=⟨s.c0,s.c1,s.c2,0,0⟩:=by
 unfold forT
 rw[List.mem_filterMap]
 constructor
 ·rintro⟨⟨s,b⟩,hm,he⟩
  obtain⟨i,hi⟩:=List.mem_iff_getElem?.1 hm
  rw[List.getElem?_zip_eq_some] at hi
  cases b with
  |false=>simp at he
  |true=>
   simp only[if_true,Option.some.injEq] at he
   exact⟨i,s,hi.1,hi.2,he.symm⟩
 ·rintro⟨i,s,h1,h2,rfl⟩
  exact⟨(s,true),List.mem_iff_getElem?.2 ⟨i,List.getElem?_zip_eq_some.2 ⟨h1,h2⟩⟩,rfl⟩
theorem forT_strict {sl:List T5} {fl:List Bool} (h:sl.Pairwise fun a c=>a.c0<c.c0):(forT sl fl).Pairwise fun a c=>a.c0<c.c0:=by
 unfold forT
 rw[List.pairwise_filterMap]
 rw[List.pairwise_iff_getElem]
 intro i j hi hj hij a ha b hb
 rw[List.length_zip] at hi hj
 have h1:=List.pairwise_iff_getElem.1 h i j (by omega) (by omega) hij
 rw[List.getElem_zip] at ha hb
 split at ha
 ·split at hb
  ·simp only[Option.mem_def,Option.some.injEq] at ha hb
   subst ha hb
   exact h1
  ·cases hb
 ·cases ha
theorem CInv.treIs {l:List T5} (hs:SlOk N (slS l)) {E:List T5} (h:CInv N (slS l) L F E La Fo) (hF:∀i,F i→i<(slS l).length):treF Fo l=forT (slS l) (forV (slS l) F):=by
 have hlk:∀{i:Nat} {s:T5},(slS l)[i]? =some s→lookF (slS l) 0 2 2 (lookF (slS l) 0 1 1 ⟨s.c0,0,0,0,0⟩)=⟨s.c0,s.c1,s.c2,0,0⟩:=by
  intro i s hi
  have hm:=List.mem_of_getElem? hi
  have e1:=lkV_some (v:=1) hs.lt hm rfl
  have e2:=lkV_some (v:=2) hs.lt hm rfl
  show setc (setc _ 1 (lkV (slS l) s.c0 1)) 2 (lkV (slS l) s.c0 2)=_
  rw[e1,e2];rfl
 have hFo:∀{x:T5},x∈srt (ltO o1) true Fo↔x∈Fo:=by
  intro x
  refine⟨srt_sub,fun hx=> ?_⟩
  obtain⟨w,hw,he⟩:=srt_has (o:=o1) (once:=true) hx
  have e0:=eqv_o1.1 he
  obtain⟨i,s,_,_,rfl⟩:=(h.fo x).1 hx
  obtain⟨j,u,_,_,rfl⟩:=(h.fo w).1 (srt_sub hw)
  dsimp only at e0
  rw[e0];exact hw
 refine strictExt ?_ (forT_strict hs.lt) fun z=> ?_
 ·unfold Go.Proofs.YtpckicjfigmjkaaGreat.treF
  rw[List.pairwise_map,List.pairwise_map]
  exact(srt_o1t Fo).imp fun hh=>hh
 ·rw[forT_iff]
  unfold Go.Proofs.YtpckicjfigmjkaaGreat.treF
  rw[List.map_map,List.mem_map]
  constructor
  ·rintro⟨x,hx,rfl⟩
   obtain⟨i,s,h1,h2,rfl⟩:=(h.fo x).1 (hFo.1 hx)
   obtain⟨b,h3,h4⟩:=forV_get (sl:=slS l) (F:=F) (hF i h2)
   refine⟨i,s,h1,?_,(hlk h1)⟩
   rw[h3,h4.2 h2]
  ·rintro⟨i,s,h1,h2,rfl⟩
   have hi:=(List.getElem?_eq_some_iff.1 h1).1
   obtain⟨b,h3,h4⟩:=forV_get (sl:=slS l) (F:=F) hi
   rw[h2] at h3;cases h3
   exact⟨⟨s.c0,0,0,0,0⟩,hFo.2 ((h.fo _).2 ⟨i,s,h1,h4.1 rfl,rfl⟩),hlk h1⟩
end
theorem CInv.spec {N:Nat} {l:List T5} {L:Nat→Nat} {F:Nat→Prop} {La Fo:List T5} (hs:SlOk N (slS l)) (h:CInv N (slS l) L F [] La Fo):compSpec N l (labF La) (treF Fo l):=
 ⟨slS l,forV (slS l) F,labV N L La,perm_srt l,srt_o1 l,h.labOk hs,h.forOk hs,h.labIs hs,h.treIs hs fun i hi=>(h.kr i hi).1⟩
theorem compSpec.uniq {N:Nat} {ts a b a' b':List T5} (ho:edgesOk N ts) (h:compSpec N ts a b) (h':compSpec N ts a' b'):a=a'∧b=b':=by
 obtain⟨sl,fl,lab,p1,p2,p3,p4,rfl,rfl⟩:=h
 obtain⟨sl',fl',lab',q1,q2,q3,q4,rfl,rfl⟩:=h'
 have hst:∀{m:List T5},m.Perm ts→Sn m→m.Pairwise fun a c=>a.c0<c.c0:=by
  intro m hm hsn
  have h1:m.Pairwise fun a c=>a.c0≠c.c0:=(hm.pairwise_iff (R:=fun a c:T5=>a.c0≠c.c0) (fun hh=>fun e=>hh e.symm)).2 ho.2
  exact(hsn.and h1).imp fun {x y} ⟨h3,h4⟩=>by omega
 obtain rfl:sl=sl':=strictExt (hst p1 p2) (hst q1 q2) fun z=>by rw[p1.mem_iff,q1.mem_iff]
 have hlab:lab=lab':=by
  refine List.ext_getElem? fun v=> ?_
  by_cases hv:v<N
  ·obtain⟨x,h1,h2,_,h4⟩:=p3.at_ v hv (by omega)
   obtain⟨y,g1,g2,_,g4⟩:=q3.at_ v hv (by omega)
   have:=h4 y g2
   have:=g4 x h2
   rw[h1,g1]
   congr 1
   omega
  ·rw[List.getElem?_eq_none (by rw[p3.len];omega),List.getElem?_eq_none (by rw[q3.len];omega)]
 have hfl:fl=fl':=by
  refine List.ext_getElem (by rw[p4.1,q4.1]) fun i hi hj=> ?_
  have h1:=p4.2 i _ (List.getElem?_eq_getElem hi)
  have h2:=q4.2 i _ (List.getElem?_eq_getElem hj)
  have h3:=h1.trans h2.symm
  cases hb:fl[i]<;>cases hb':fl'[i]<;>rw[hb,hb'] at h3<;>simp at h3⊢
 subst hlab hfl
 exact⟨rfl,rfl⟩
end Go.Proofs.YtpckicjfigmjkaaGreat
