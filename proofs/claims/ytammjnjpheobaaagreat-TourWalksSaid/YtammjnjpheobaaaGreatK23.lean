/-
  Parts of the proof, put together: Gr, Tw, Ref03, Labels, Comp15, RwT, Graph15, Forest15. No condition.
-/
import Derived.Test.YtammjnjpheobaaaGreatK22
set_option linter.unusedVariables false
set_option linter.unusedSimpArgs false
set_option linter.unnecessarySimpa false
set_option maxHeartbeats 4000000
namespace Go.Gr
abbrev Ed:=Nat×Nat
def Jn (g:Nat→Ed) (S:Nat→Prop) (x y:Nat):Prop:=∃i,S i∧((g i).1=x∧(g i).2=y∨(g i).1=y∧(g i).2=x)
inductive Cn (g:Nat→Ed) (S:Nat→Prop):Nat→Nat→Prop
 |refl (a:Nat):Cn g S a a
 |step {a b c:Nat}:Cn g S a b→Jn g S b c→Cn g S a c
variable {g:Nat→Ed} {S S':Nat→Prop}
theorem Jn.symm {x y:Nat} (h:Jn g S x y):Jn g S y x:=let ⟨i,h1,h2⟩:=h;⟨i,h1,h2.symm⟩
theorem Jn.mono {x y:Nat} (h:Jn g S x y) (hs:∀i,S i→S' i):Jn g S' x y:=let ⟨i,h1,h2⟩:=h;⟨i,hs i h1,h2⟩
theorem Cn.one {x y:Nat} (h:Jn g S x y):Cn g S x y:= .step (.refl x) h
theorem Cn.trans {a b c:Nat} (h:Cn g S a b) (h2:Cn g S b c):Cn g S a c:=by
 induction h2 with
 |refl=>exact h
 |step _ hj ih=>exact .step ih hj
theorem Cn.symm {a b:Nat} (h:Cn g S a b):Cn g S b a:=by
 induction h with
 |refl=>exact .refl _
 |step _ hj ih=>exact(Cn.one hj.symm).trans ih
theorem Cn.mono {a b:Nat} (h:Cn g S a b) (hs:∀i,S i→S' i):Cn g S' a b:=by
 induction h with
 |refl=>exact .refl _
 |step _ hj ih=>exact .step ih (hj.mono hs)
theorem Cn.edge {i:Nat} (h:S i):Cn g S (g i).1 (g i).2:= .one ⟨i,h,.inl ⟨rfl,rfl⟩⟩
theorem Cn.sub {a b:Nat} (h:Cn g S a b) (hs:∀i,S i→Cn g S' (g i).1 (g i).2):Cn g S' a b:=by
 induction h with
 |refl=>exact .refl _
 |step _ hj ih=>
  obtain⟨i,h1,⟨rfl,rfl⟩|⟨rfl,rfl⟩⟩:=hj
  ·exact ih.trans (hs i h1)
  ·exact ih.trans (hs i h1).symm
theorem Cn.congr {a b:Nat} (hs:∀i,S i↔S' i):Cn g S a b↔Cn g S' a b:=⟨fun h=>h.mono fun i=>(hs i).1,fun h=>h.mono fun i=>(hs i).2⟩
theorem Cn.stay {a b:Nat} (h:Cn g S a b) {X:Nat→Prop} (ha:X a) (hx:∀i,S i→(X (g i).1↔X (g i).2)):X b:=by
 induction h with
 |refl=>exact ha
 |step _ hj ih=>
  obtain⟨i,h1,⟨rfl,rfl⟩|⟨rfl,rfl⟩⟩:=hj
  ·exact(hx i h1).1 ih
  ·exact(hx i h1).2 ih
theorem Cn.add {i a b:Nat} (h:Cn g (fun j=>S j∨j=i) a b):Cn g S a b∨(Cn g S a (g i).1∧Cn g S (g i).2 b)∨(Cn g S a (g i).2∧Cn g S (g i).1 b):=by
 induction h with
 |refl=>exact .inl (.refl _)
 |step _ hj ih=>
  obtain⟨j,h1|rfl,h2⟩:=hj
  ·have hj:Cn g S _ _:= .one ⟨j,h1,h2⟩
   rcases ih with ih|⟨i1,i2⟩|⟨i1,i2⟩
   ·exact .inl (ih.trans hj)
   ·exact .inr (.inl ⟨i1,i2.trans hj⟩)
   ·exact .inr (.inr ⟨i1,i2.trans hj⟩)
  ·rcases h2 with⟨rfl,rfl⟩|⟨rfl,rfl⟩
   ·rcases ih with ih|⟨i1,i2⟩|⟨i1,i2⟩
    ·exact .inr (.inl ⟨ih,.refl _⟩)
    ·exact .inr (.inl ⟨i1,.refl _⟩)
    ·exact .inl i1
   ·rcases ih with ih|⟨i1,i2⟩|⟨i1,i2⟩
    ·exact .inr (.inr ⟨ih,.refl _⟩)
    ·exact .inl i1
    ·exact .inr (.inr ⟨i1,.refl _⟩)
theorem Cn.bound {a b:Nat} (h:Cn g S a b):∃n,Cn g (fun j=>S j∧j<n) a b:=by
 induction h with
 |refl=>exact⟨0,.refl _⟩
 |step _ hj ih=>
  obtain⟨n,ih⟩:=ih
  obtain⟨i,h1,h2⟩:=hj
  exact⟨max n (i+1),.step (ih.mono fun j ⟨a,b⟩=>⟨a,by omega⟩) ⟨i,⟨h1,by omega⟩,h2⟩⟩
def Kr (g:Nat→Ed) (S:Nat→Prop) (i:Nat):Prop:=S i∧¬Cn g (fun j=>S j∧j<i) (g i).1 (g i).2
theorem Kr.conn_lt:∀(n:Nat) {a b:Nat},Cn g (fun j=>S j∧j<n) a b↔Cn g (fun j=>Kr g S j∧j<n) a b
 |0,a,b=>Cn.congr fun i=>by simp
 |n+1,a,b=>by
  refine⟨fun h=> ?_,fun h=>h.mono fun i ⟨h1,h2⟩=>⟨h1.1,h2⟩⟩
  refine h.sub fun i ⟨h1,h2⟩=> ?_
  by_cases hk:Kr g S i
  ·exact Cn.edge ⟨hk,h2⟩
  ·have h3:Cn g (fun j=>S j∧j<i) (g i).1 (g i).2:=by
    by_cases h4:Cn g (fun j=>S j∧j<i) (g i).1 (g i).2
    ·exact h4
    ·exact absurd ⟨h1,h4⟩ hk
   have h5:Cn g (fun j=>S j∧j<n) (g i).1 (g i).2:=h3.mono fun j ⟨a,b⟩=>⟨a,by omega⟩
   exact((Kr.conn_lt n).1 h5).mono fun j ⟨a,b⟩=>⟨a,by omega⟩
theorem Kr.conn {a b:Nat}:Cn g S a b↔Cn g (Kr g S) a b:=by
 refine⟨fun h=> ?_,fun h=>h.mono fun i h=>h.1⟩
 obtain⟨n,h⟩:=h.bound
 exact((Kr.conn_lt n).1 h).mono fun i h=>h.1
theorem Kr.bridge_lt:∀(n i:Nat),i<n→Kr g S i→¬Cn g (fun j=>Kr g S j∧j<n∧j≠i) (g i).1 (g i).2
 |0,_,h,_=>by omega
 |n+1,i,h,hk=>by
  intro hc
  by_cases hin:i=n
  ·subst hin
   exact hk.2 (hc.mono fun j ⟨h1,h2,h3⟩=>⟨h1.1,by omega⟩)
  ·have hi:i<n:=by omega
   by_cases hkn:Kr g S n
   ·have hc2:Cn g (fun j=>(Kr g S j∧j<n∧j≠i)∨j=n) (g i).1 (g i).2:=hc.mono fun j ⟨h1,h2,h3⟩=>by
     by_cases hj:j=n
     ·exact .inr hj
     ·exact .inl ⟨h1,by omega,h3⟩
    have hlt:∀{x y:Nat},Cn g (fun j=>Kr g S j∧j<n∧j≠i) x y→Cn g (fun j=>S j∧j<n) x y:=fun h=>h.mono fun j ⟨h1,h2,_⟩=>⟨h1.1,h2⟩
    have hii:Cn g (fun j=>S j∧j<n) (g i).1 (g i).2:=Cn.edge ⟨hk.1,hi⟩
    rcases hc2.add with h1|⟨h1,h2⟩|⟨h1,h2⟩
    ·exact Kr.bridge_lt n i hi hk h1
    ·exact hkn.2 (((hlt h1).symm.trans hii).trans (hlt h2).symm)
    ·exact hkn.2 (((hlt h2).trans hii.symm).trans (hlt h1))
   ·refine Kr.bridge_lt n i hi hk (hc.mono fun j ⟨h1,h2,h3⟩=>⟨h1,?_,h3⟩)
    have:j≠n:=fun e=>hkn (e▸h1)
    omega
theorem Kr.bridge {i:Nat} (hk:Kr g S i):¬Cn g (fun j=>Kr g S j∧j≠i) (g i).1 (g i).2:=by
 intro h
 obtain⟨n,h⟩:=h.bound
 exact Kr.bridge_lt (max n (i+1)) i (by omega) hk (h.mono fun j ⟨⟨a,b⟩,c⟩=>⟨a,by omega,b⟩)
end Go.Gr
namespace Go.Proofs.YtammjnjpheobaaaGreat
open Go.Gr
namespace Tw
variable {g:Nat→Ed} {F:Nat→Prop} {P:Nat} {vt ed bro:Nat→Nat}
end Tw
end Go.Proofs.YtammjnjpheobaaaGreat
namespace Go.Proofs.YtammjnjpheobaaaGreat
open Go.SL Go.Tup
def gv (n:Int) (p:Option Addr) (m cap:Nat):Value:= .agg #[.int .i64 n,.slice p m cap]
def inE (n:Int) (e:IE):Prop:=0≤e.1∧e.1<n∧0≤e.2∧e.2<n
instance (n:Int) (e:IE):Decidable (inE n e):=by unfold inE;infer_instance
def formedB (n:Int) (es:List IE):Bool:=decide (0≤n∧n≤1073741824∧es.length≤1073741824)&&es.all fun e=>decide (inE n e)
theorem Formed03ct (n:Int) (p:Option Addr) (m cap:Nat) (es:List IE) (c:Chunk) (hv:Rw ecl 2 p m es c) (hm:m≤maxLen):
  CtQ Tryz.prog 18 [gv n p m cap] [c] (.bool (formedB n es)):=by
 have hl:=hv.1
 simp only[maxLen] at hm
 have hbad:∀i e,es[i]? =some e→¬inE n e→formedB n es=false:=fun i e hi he=>by
  unfold formedB
  rw[Bool.and_eq_false_iff]
  exact .inr (by simp only[List.all_eq_false,decide_eq_true_eq];exact⟨e,List.mem_of_getElem? hi,he⟩)
 unfold gv
 by_cases h1:n<0
 ·have hb:formedB n es=false:=by unfold formedB;rw[decide_eq_false (by omega)];rfl
  rw[hb]
  refine Ct.intro Tryz.func18 rfl Tryz.ntmps18 (nle rfl) fun w0=> ?_;dsimp only[argSlots,Nat.reduceAdd]
  repeat(refine st ?_;intros)
  (refine Dn.post (Hr:=[c]) Tryz.results18 (hR:= ?_);exact⟨rfl,rfl⟩)
 by_cases h2:1073741824<n
 ·have hb:formedB n es=false:=by unfold formedB;rw[decide_eq_false (by omega)];rfl
  rw[hb]
  refine Ct.intro Tryz.func18 rfl Tryz.ntmps18 (nle rfl) fun w0=> ?_;dsimp only[argSlots,Nat.reduceAdd]
  repeat(refine st ?_;intros)
  (refine Dn.post (Hr:=[c]) Tryz.results18 (hR:= ?_);exact⟨rfl,rfl⟩)
 by_cases h3:1073741824<m
 ·have hb:formedB n es=false:=by unfold formedB;rw[decide_eq_false (by omega)];rfl
  rw[hb]
  refine Ct.intro Tryz.func18 rfl Tryz.ntmps18 (nle rfl) fun w0=> ?_;dsimp only[argSlots,Nat.reduceAdd]
  repeat(refine st ?_;intros)
  (refine Dn.post (Hr:=[c]) Tryz.results18 (hR:= ?_);exact⟨rfl,rfl⟩)
 refine Ct.intro Tryz.func18 rfl Tryz.ntmps18 (nle rfl) fun w0=> ?_;dsimp only[argSlots,Nat.reduceAdd]
 repeat(refine st ?_;intros)
 rename_i b1
 refine G.loop (X:=Nat) (fun i=>i≤m∧∀j e,j<i→es[j]? =some e→inE n e)
  (fun i=>[(3,.int .i64 (i:Int)),(1,pv b1)])
  (fun _=>[[(b1,row [.int .i64 n,.slice p m cap] 37)],c]) (fun i=>m-i) 0 ⟨Nat.zero_le _,fun j e h=>by omega⟩ (body:= ?_)
 rintro i ⟨hi,hin⟩
 by_cases hlt:i<m
 ·obtain⟨b,off,cs,T,fz,rfl,rfl,hcut,hget⟩:=hv.pos ecl_len (by omega)
  have hie:es[i]? =some es[i]:=List.getElem?_eq_getElem (by omega)
  have hc:=hcut i _ hie
  have hno:=hbad i _ hie
  generalize he:es[i]=e at*
  obtain⟨u,v⟩:=e
  have hc':(cs.drop (off+i*2)).take 2=[.int .i64 u,.int .i64 v]:=hc
  by_cases g1:u<0
  ·rw[hno (by unfold inE;dsimp only;omega)]
   repeat(refine st ?_;intros)
   (refine Dn.post (Hr:=[[(b,rowf cs T fz)]]) Tryz.results18 (hR:= ?_);exact⟨rfl,rfl⟩)
  by_cases g2:n≤u
  ·rw[hno (by unfold inE;dsimp only;omega)]
   repeat(refine st ?_;intros)
   (refine Dn.post (Hr:=[[(b,rowf cs T fz)]]) Tryz.results18 (hR:= ?_);exact⟨rfl,rfl⟩)
  by_cases g3:v<0
  ·rw[hno (by unfold inE;dsimp only;omega)]
   repeat(refine st ?_;intros)
   (refine Dn.post (Hr:=[[(b,rowf cs T fz)]]) Tryz.results18 (hR:= ?_);exact⟨rfl,rfl⟩)
  by_cases g4:n≤v
  ·rw[hno (by unfold inE;dsimp only;omega)]
   repeat(refine st ?_;intros)
   (refine Dn.post (Hr:=[[(b,rowf cs T fz)]]) Tryz.results18 (hR:= ?_);exact⟨rfl,rfl⟩)
  repeat(refine st ?_;intros)
  refine Dn.round (i+1) ⟨by omega,fun j e hj hje=> ?_⟩ (by omega)
  by_cases hji:j=i
  ·subst hji
   rw[hie] at hje
   simp only[Option.some.injEq] at hje
   subst hje
   exact⟨by dsimp only;omega,by dsimp only;omega,by dsimp only;omega,by dsimp only;omega⟩
  ·exact hin j e (by omega) hje
 ·obtain rfl:i=m:=by omega
  have hb:formedB n es=true:=by
   unfold formedB
   rw[decide_eq_true (by omega),Bool.true_and,List.all_eq_true]
   intro e he
   obtain⟨j,hj,rfl⟩:=List.getElem_of_mem he
   exact decide_eq_true (hin j _ (by omega) (List.getElem?_eq_getElem hj))
  rw[hb]
  repeat(refine st ?_;intros)
  (refine Dn.post (Hr:=[c]) Tryz.results18 (hR:= ?_);exact⟨rfl,rfl⟩)
theorem Few03ct (n:Int) (p:Option Addr) (m cap:Nat) (a b:Int) (hm:m≤maxLen):CtQ Tryz.prog 19 [gv n p m cap,.int .i64 a,.int .i64 b] [] (.bool (dec (n≤a∧(m:Int)≤b))):=by
 simp only[maxLen] at hm
 unfold gv
 by_cases h1:n≤a
 ·by_cases h2:(m:Int)≤b
  ·rw[dec_true ⟨h1,h2⟩]
   refine Ct.intro Tryz.func19 rfl Tryz.ntmps19 (nle rfl) fun w0=> ?_;dsimp only[argSlots,Nat.reduceAdd]
   repeat(refine st ?_;intros)
   (refine Dn.post (Hr:=[]) Tryz.results19 (hR:= ?_);exact⟨congrArg Value.bool (dec_true h2),rfl⟩)
  ·rw[dec_false (by omega)]
   refine Ct.intro Tryz.func19 rfl Tryz.ntmps19 (nle rfl) fun w0=> ?_;dsimp only[argSlots,Nat.reduceAdd]
   repeat(refine st ?_;intros)
   (refine Dn.post (Hr:=[]) Tryz.results19 (hR:= ?_);exact⟨congrArg Value.bool (dec_false h2),rfl⟩)
 ·rw[dec_false (by omega)]
  refine Ct.intro Tryz.func19 rfl Tryz.ntmps19 (nle rfl) fun w0=> ?_;dsimp only[argSlots,Nat.reduceAdd]
  repeat(refine st ?_;intros)
  (refine Dn.post (Hr:=[]) Tryz.results19 (hR:= ?_);exact⟨rfl,rfl⟩)
end Go.Proofs.YtammjnjpheobaaaGreat
namespace Go.Proofs.YtammjnjpheobaaaGreat
open Go.SL Go.Tup Go.Gr
def gE (es:List IE) (i:Nat):Ed:=match es[i]? with
 |some e=>(e.1.toNat,e.2.toNat)
 |none=>(0,0)
def actE (es:List IE) (ob:List Bool) (w:Int) (i:Nat):Prop:=∃e,es[i]? =some e∧e.1≠w∧e.2≠w∧ob[i]?≠some true
def rcells (l:List Int):List Value:=l.map (Value.int .i64)
theorem rcells_get {l:List Int} {i:Nat} {x:Int} (h:l[i]? =some x):(rcells l)[i]? =some (.int .i64 x):=by unfold rcells;rw[List.getElem?_map,h];rfl
theorem rcells_set (l:List Int) (i:Nat) (x:Int):(rcells l).set i (.int .i64 x)=rcells (l.set i x):=by unfold rcells;rw[List.map_set]
structure LabIn (g:Nat→Ed) (S:Nat→Prop) (N:Nat) (w:Int) (l:List Int):Prop where
 len:l.length=N
 at_:∀v,v<N→(v:Int)≠w→∃x:Nat,l[v]? =some (x:Int)∧Cn g S v x∧x≤v∧(x:Int)≠w
 out:∀v,v<N→(v:Int)=w→l[v]? =some (-1)
structure LabOk (g:Nat→Ed) (S:Nat→Prop) (N:Nat) (w:Int) (l:List Int):Prop where
 len:l.length=N
 at_:∀v,v<N→(v:Int)≠w→∃x:Nat,l[v]? =some (x:Int)∧Cn g S v x∧x≤v∧∀u,Cn g S v u→x≤u
 out:∀v,v<N→(v:Int)=w→l[v]? =some (-1)
def isum (l:List Int):Nat:=(l.map Int.toNat).sum
theorem isum_set {l:List Int} {i:Nat} {x y:Int} (h:l[i]? =some x) (hy:y.toNat<x.toNat):isum (l.set i y)<isum l:=by
 obtain⟨hi,rfl⟩:=List.getElem?_eq_some_iff.1 h
 unfold isum
 have e1:l=l.take i++l[i]::l.drop (i+1):=by rw[←List.drop_eq_getElem_cons hi,List.take_append_drop]
 have e2:l.set i y=l.take i++y::l.drop (i+1):=by rw[List.set_eq_take_append_cons_drop,if_pos hi]
 rw[e2]
 conv=>rhs;rw[e1]
 simp only[List.map_append,List.map_cons,List.sum_append_nat,List.sum_cons]
 omega
theorem LabIn.done {g:Nat→Ed} {S:Nat→Prop} {N:Nat} {w:Int} {l:List Int} (h:LabIn g S N w l) (hs:∀i,S i→l[(g i).1]? =l[(g i).2]?):LabOk g S N w l:=by
 refine⟨h.len,fun v hv hw=> ?_,h.out⟩
 obtain⟨x,h1,h2,h3,_⟩:=h.at_ v hv hw
 refine⟨x,h1,h2,h3,fun u hu=> ?_⟩
 have h4:l[u]? =l[v]? :=hu.stay (X:=fun y=>l[y]? =l[v]?) rfl fun i hi=>by rw[hs i hi]
 rw[h1] at h4
 have hun:u<N:=by rw[←h.len];exact(List.getElem?_eq_some_iff.1 h4).1
 by_cases huw:(u:Int)=w
 ·have:=h.out u hun huw;rw[h4] at this;simp only[Option.some.injEq] at this;omega
 ·obtain⟨y,h5,_,h6,_⟩:=h.at_ u hun huw
  rw[h4] at h5;simp only[Option.some.injEq] at h5;omega
theorem LabIn.put {g:Nat→Ed} {S:Nat→Prop} {N:Nat} {w:Int} {l:List Int} (h:LabIn g S N w l) {a b:Nat} {x y:Nat} (ha:l[a]? =some (x:Int)) (hb:l[b]? =some (y:Int)) (hj:Cn g S b a) (hxy:x≤y) (haw:(a:Int)≠w) (hbw:(b:Int)≠w):LabIn g S N w (l.set b (x:Int)):=by
 have hbN:b<N:=by rw[←h.len];exact(List.getElem?_eq_some_iff.1 hb).1
 have haN:a<N:=by rw[←h.len];exact(List.getElem?_eq_some_iff.1 ha).1
 refine⟨by rw[List.length_set];exact h.len,fun v hv hw=> ?_,fun v hv hw=> ?_⟩
 ·by_cases hvb:v=b
  ·subst hvb
   obtain⟨x',h1,h2,h3,h4⟩:=h.at_ a haN haw
   obtain⟨y',g1,g2,g3,g4⟩:=h.at_ v hv hw
   rw[ha] at h1;rw[hb] at g1
   simp only[Option.some.injEq] at h1 g1
   obtain rfl:x=x':=by omega
   exact⟨x,by rw[List.getElem?_set_self (by rw[h.len];exact hv)],hj.trans h2,by omega,h4⟩
  ·obtain⟨x',h1,h2,h3⟩:=h.at_ v hv hw
   exact⟨x',by rw[List.getElem?_set_ne (Ne.symm hvb)];exact h1,h2,h3⟩
 ·have hvb:v≠b:=fun e=>hbw (e▸hw)
  rw[List.getElem?_set_ne (Ne.symm hvb)]
  exact h.out v hv hw
structure LabX where
 i:Nat
 l:List Int
 ch:Bool
theorem set_self' {l:List Int} {i:Nat} {x:Int} (h:l[i]? =some x):l.set i x=l:=by
 obtain⟨hi,rfl⟩:=List.getElem?_eq_some_iff.1 h
 exact List.set_getElem_self hi
def n0 (N:Nat):List Int:=(List.range N).map fun (v:Nat)=>(v:Int)
theorem n0len (N:Nat):(n0 N).length=N:=by simp[n0]
theorem n0get {N v:Nat} (h:v<N):(n0 N)[v]? =some (v:Int):=by simp[n0,h]
def nf (N i:Nat):List Int:=(n0 N).take i++List.replicate (N-i) 0
theorem nf_len (N i:Nat) (h:i≤N):(nf N i).length=N:=by simp[nf,n0len];omega
theorem nf_set (N i:Nat) (h:i<N):(nf N i).set i (i:Int)=nf N (i+1):=by
 unfold nf
 have hl:((n0 N).take i).length=i:=by simp[n0len];omega
 rw[List.set_append_right _ _ (by omega),hl,Nat.sub_self,show N-i=(N-(i+1))+1 by omega,List.replicate_succ,List.set_cons_zero,List.take_add_one,n0get h]
 simp
theorem nf_all (N:Nat):nf N N=n0 N:=by simp[nf,n0len,List.take_of_length_le]
theorem zrep_nf:∀N,zrep N [Value.int .i64 0]=rcells (nf N 0)
 |0=>rfl
 |N+1=>by
  have:=zrep_nf N
  unfold nf rcells at this⊢
  simp only[List.take_zero,List.nil_append,Nat.sub_zero] at this⊢
  rw[List.replicate_succ,List.map_cons,←this];rfl
theorem n0in (g:Nat→Ed) (S:Nat→Prop) (N:Nat) (w:Int) (hw:¬(0≤w∧w<N)):LabIn g S N w (n0 N):=
 ⟨n0len N,fun v hv hvw=>⟨v,n0get hv,.refl _,Nat.le_refl _,hvw⟩,fun v hv h=>absurd ⟨by omega,by omega⟩ hw⟩
theorem n0inW (g:Nat→Ed) (S:Nat→Prop) (N w:Nat) (hw:w<N):LabIn g S N w ((n0 N).set w (-1)):=
 ⟨by rw[List.length_set];exact n0len N,fun v hv hvw=>⟨v,by rw[List.getElem?_set_ne (by omega)];exact n0get hv,.refl _,Nat.le_refl _,hvw⟩,
  fun v hv h=>by
   obtain rfl:v=w:=by omega
   rw[List.getElem?_set_self (by rw[n0len];exact hv)]⟩
theorem Labels_ct (N:Nat) (hN:N≤1000000) (p:Option Addr) (m cap:Nat) (es:List IE) (c:Chunk) (hv:Rw ecl 2 p m es c) (hm:m≤1000000) (hf:∀e∈es,inE N e) (po:Option Addr) (ko capo:Nat) (ob:List Bool) (co:Chunk) (hvo:Rw bcl 1 po ko ob co) (hko:ko≤1000000) (w:Int):
  Ct Tryz.prog 104 [gv N p m cap,.slice po ko capo,.int .i64 w] [c,co] fun v H'=>∃bl l,v= .slice (some ⟨bl,0,none⟩) N N∧H'=[c,co,[(bl,row (rcells l) 3)]]∧LabOk (gE es) (actE es ob w) N w l:=by
 have hl:=hv.1
 have hlo:=hvo.1
 have hmx:∀x:Nat,x≤1000000→(x:Int)≤9223372036854775807:=fun x h=>by omega
 unfold gv
 refine Ct.intro Tryz.func104 rfl Tryz.ntmps104 (nle rfl) fun w0=> ?_;dsimp only[argSlots,Nat.reduceAdd]
 repeat(first|(refine st ?_;intros)|refine G.draw [] (h:= ?_))
 rename_i b3 bl
 rw[zrep_nf]
 refine G.loop (X:=Nat) (fun i=>i≤N) (fun i=>[(8,.int .i64 (i:Int)),(7,.slice (some ⟨bl,0,none⟩) N N),(3,pv b3),(1,.slice po ko capo),(2,.int .i64 w)])
  (fun i=>[[(bl,row (rcells (nf N i)) 3)],[(b3,row [.int .i64 (N:Int),.slice p m cap] 37)],c,co]) (fun i=>N-i) 0 (Nat.zero_le _) (body:= ?_)
 intro i hi
 by_cases hlt:i<N
 ·have hset:(rcells (nf N i)).set i (.int .i64 (i:Int))=rcells (nf N (i+1)):=by rw[rcells_set,nf_set N i hlt]
  have hlen:i<(rcells (nf N i)).length:=by simp only[rcells,List.length_map,nf_len N i hi];exact hlt
  repeat(first|(refine st ?_;intros)|refine G.draw [] (h:= ?_))
  refine Dn.round (i+1) (by omega) (by omega)
 obtain rfl:i=N:=by omega
 rw[nf_all]
 clear hi hlt
 apply G.seq
 repeat(first|(refine stn ?_;intros)|refine G.draw [] (h:= ?_))
 apply G.seq
 repeat(first|(refine stn ?_;intros)|refine G.draw [] (h:= ?_))
 refine G.cut (D':=[]) (X:=List Int) (fun l=>LabIn (gE es) (actE es ob w) i w l) (fun _=>[(7,.slice (some ⟨bl,0,none⟩) i i),(3,pv b3),(1,.slice po ko capo),(2,.int .i64 w)]) (fun l=>[[(bl,row (rcells l) 3)],[(b3,row [.int .i64 (i:Int),.slice p m cap] 37)],c,co]) ?_ ?_
 ·by_cases hw:0≤w∧w<i
  ·obtain⟨w',rfl⟩:∃w':Nat,w=(w':Int):=⟨w.toNat,by omega⟩
   have hset:(rcells (n0 i)).set w' (.int .i64 (-1))=rcells ((n0 i).set w' (-1)):=rcells_set _ _ _
   have hlen:w'<(rcells (n0 i)).length:=by simp only[rcells,List.length_map,n0len];omega
   repeat(first|(refine st ?_;intros)|refine G.draw [] (h:= ?_))
   exact Dn.meet ((n0 i).set w' (-1)) (n0inW _ _ i w' (by omega))
  ·have hin:=n0in (gE es) (actE es ob w) i w hw
   by_cases hw0:0≤w
   ·repeat(first|(refine st ?_;intros)|refine G.draw [] (h:= ?_))
    exact Dn.meet (n0 i) hin
   ·repeat(first|(refine st ?_;intros)|refine G.draw [] (h:= ?_))
    exact Dn.meet (n0 i) hin
 intro l0 hin0
 repeat(first|(refine st ?_;intros)|refine G.draw [] (h:= ?_))
 refine G.loop (X:=List Int×Bool) (fun x=>LabIn (gE es) (actE es ob w) i w x.1∧(x.2=false→∀j,actE es ob w j→x.1[(gE es j).1]? =x.1[(gE es j).2]?))
  (fun x=>[(9,.bool x.2),(7,.slice (some ⟨bl,0,none⟩) i i),(3,pv b3),(1,.slice po ko capo),(2,.int .i64 w)]) (fun x=>[[(bl,row (rcells x.1) 3)],[(b3,row [.int .i64 (i:Int),.slice p m cap] 37)],c,co]) (fun x=>2*isum x.1+(if x.2 then 1 else 0)) (l0,true) ⟨hin0,fun h=>by cases h⟩ (body:= ?_)
 rintro⟨l,ch⟩ ⟨hin,hst⟩
 dsimp only at hin hst⊢
 cases ch with
 |false=>
  repeat(first|(refine st ?_;intros)|refine G.draw [] (h:= ?_))
  (refine Dn.post (Hr:=[c,co,[(bl,row (rcells l) 3)]]) Tryz.results104 (hR:= ?_);exact⟨bl,l,rfl,rfl,hin.done (hst rfl)⟩)
 |true=>
 repeat(first|(refine st ?_;intros)|refine G.draw [] (h:= ?_))
 refine G.loop (X:=LabX) (fun x=>x.i≤m∧LabIn (gE es) (actE es ob w) i w x.l∧isum x.l≤isum l∧(x.ch=true→isum x.l<isum l)∧(x.ch=false→∀j,j<x.i→actE es ob w j→x.l[(gE es j).1]? =x.l[(gE es j).2]?))
  (fun x=>[(10,.int .i64 (x.i:Int)),(9,.bool x.ch),(7,.slice (some ⟨bl,0,none⟩) i i),(3,pv b3),(1,.slice po ko capo),(2,.int .i64 w)]) (fun x=>[[(bl,row (rcells x.l) 3)],[(b3,row [.int .i64 (i:Int),.slice p m cap] 37)],c,co]) (fun x=>m-x.i) ⟨0,l,false⟩ ⟨Nat.zero_le _,hin,Nat.le_refl _,fun h=>(by cases h),fun _ j h=>absurd h (Nat.not_lt_zero j)⟩ (body:= ?_)
 rintro⟨k,l2,ch⟩ ⟨hk,hin2,hs1,hs2,hs3⟩
 dsimp only at hk hin2 hs1 hs2 hs3⊢
 by_cases hlt:k<m
 rotate_left
 ·obtain rfl:k=m:=by omega
  repeat(first|(refine st ?_;intros)|refine G.draw [] (h:= ?_))
  refine Dn.round (l2,ch) ⟨hin2,fun h j hj=>hs3 h j ?_ hj⟩ ?_
  ·obtain⟨e,h1,_⟩:=hj
   rw[←hl];exact(List.getElem?_eq_some_iff.1 h1).1
  ·dsimp only
   cases ch with
   |true=>have:=hs2 rfl;simp only[if_true];omega
   |false=>simp only[Bool.false_eq_true,if_false,if_true];omega
 obtain⟨b,off,cs,T,fz,rfl,rfl,hcut,hget⟩:=hv.pos ecl_len (by omega)
 have hie:es[k]? =some es[k]:=List.getElem?_eq_getElem (by omega)
 have hc:=hcut k _ hie
 have hfe:=hf _ (List.mem_of_getElem? hie)
 generalize he:es[k]=e at*
 obtain⟨u,v⟩:=e
 obtain⟨f1,f2,f3,f4⟩:=hfe
 dsimp only at f1 f2 f3 f4
 obtain⟨u,rfl⟩:∃u':Nat,u=(u':Int):=⟨u.toNat,by omega⟩
 obtain⟨v,rfl⟩:∃v':Nat,v=(v':Int):=⟨v.toNat,by omega⟩
 have hc':(cs.drop (off+k*2)).take 2=[.int .i64 (u:Int),.int .i64 (v:Int)]:=hc
 have hgE:gE es k=(u,v):=by unfold gE;rw[hie];simp
 have hskip:¬actE es ob w k→LabIn (gE es) (actE es ob w) i w l2∧isum l2≤isum l∧(ch=true→isum l2<isum l)∧(ch=false→∀j,j<k+1→actE es ob w j→l2[(gE es j).1]? =l2[(gE es j).2]?):=fun hna=>
  ⟨hin2,hs1,hs2,fun h j hj ha=>by
   by_cases hjk:j=k
   ·subst hjk;exact absurd ha hna
   ·exact hs3 h j (by omega) ha⟩
 by_cases g1:(u:Int)=w
 ·obtain⟨q1,q2,q3,q4⟩:=hskip fun ⟨e,h1,h2,_⟩=>by rw[hie] at h1;simp only[Option.some.injEq] at h1;subst h1;exact h2 g1
  repeat(first|(refine st ?_;intros)|refine G.draw [] (h:= ?_))
  refine Dn.round ⟨k+1,l2,ch⟩ ⟨hlt,q1,q2,q3,q4⟩ (by dsimp only;omega)
 by_cases g2:(v:Int)=w
 ·obtain⟨q1,q2,q3,q4⟩:=hskip fun ⟨e,h1,_,h2,_⟩=>by rw[hie] at h1;simp only[Option.some.injEq] at h1;subst h1;exact h2 g2
  repeat(first|(refine st ?_;intros)|refine G.draw [] (h:= ?_))
  refine Dn.round ⟨k+1,l2,ch⟩ ⟨hlt,q1,q2,q3,q4⟩ (by dsimp only;omega)
 by_cases g3:k<ko
 ·obtain⟨ob',offo,cso,To,fzo,rfl,rfl,hcuto,hgeto⟩:=hvo.pos bcl_len (by omega)
  have hio:ob[k]? =some ob[k]:=List.getElem?_eq_getElem (by omega)
  have hco:=hgeto k 0 _ _ hio rfl
  rw[Nat.mul_one,Nat.add_zero] at hco
  generalize hob:ob[k]=o at*
  cases o with
  |true=>
   obtain⟨q1,q2,q3,q4⟩:=hskip fun ⟨e,h1,_,_,h2⟩=>h2 hio
   repeat(first|(refine st ?_;intros)|refine G.draw [] (h:= ?_))
   refine Dn.round ⟨k+1,l2,ch⟩ ⟨hlt,q1,q2,q3,q4⟩ (by dsimp only;omega)
  |false=>
  have hact:actE es ob w k:=⟨_,hie,g1,g2,by rw[hio];decide⟩
  obtain⟨x,x1,x2,x3,x4⟩:=hin2.at_ u (by omega) g1
  obtain⟨y,y1,y2,y3,y4⟩:=hin2.at_ v (by omega) g2
  have hcu:=rcells_get x1
  have hcv:=rcells_get y1
  have hcon:Cn (gE es) (actE es ob w) u v:=by
   have:=Cn.edge (g:=gE es) hact
   rw[hgE] at this;exact this
  have hlu:u<(rcells l2).length:=by simp only[rcells,List.length_map,hin2.len];omega
  have hlv:v<(rcells l2).length:=by simp only[rcells,List.length_map,hin2.len];omega
  by_cases hxy:x=y
  ·subst hxy
   have hset:(rcells l2).set u (.int .i64 (x:Int))=rcells l2:=by
    rw[rcells_set];congr 1
    exact set_self' x1
   repeat(first|(refine st ?_;intros)|refine G.draw [] (h:= ?_))
   refine Dn.round ⟨k+1,l2,ch⟩ ⟨hlt,hin2,hs1,hs2,fun h j hj ha=> ?_⟩ (by dsimp only;omega)
   by_cases hjk:j=k
   ·subst hjk;rw[hgE];exact x1.trans y1.symm
   ·exact hs3 h j (by dsimp only at hj;omega) ha
  ·by_cases hlt2:x<y
   ·have hset:(rcells l2).set v (.int .i64 (x:Int))=rcells (l2.set v (x:Int)):=rcells_set _ _ _
    have hsum:=isum_set (y:=(x:Int)) y1 (by omega)
    have hput:=hin2.put x1 y1 hcon.symm (by omega) g1 g2
    repeat(first|(refine st ?_;intros)|refine G.draw [] (h:= ?_))
    refine Dn.round ⟨k+1,l2.set v (x:Int),true⟩ ⟨hlt,hput,by dsimp only;omega,fun _=>by dsimp only;omega,fun h=>(by cases h)⟩ (by dsimp only;omega)
   ·have hset:(rcells l2).set u (.int .i64 (y:Int))=rcells (l2.set u (y:Int)):=rcells_set _ _ _
    have hsum:=isum_set (y:=(y:Int)) x1 (by omega)
    have hput:=hin2.put y1 x1 hcon (by omega) g2 g1
    repeat(first|(refine st ?_;intros)|refine G.draw [] (h:= ?_))
    refine Dn.round ⟨k+1,l2.set u (y:Int),true⟩ ⟨hlt,hput,by dsimp only;omega,fun _=>by dsimp only;omega,fun h=>(by cases h)⟩ (by dsimp only;omega)
 ·have hact:actE es ob w k:=⟨_,hie,g1,g2,by rw[List.getElem?_eq_none (by omega)];decide⟩
  obtain⟨x,x1,x2,x3,x4⟩:=hin2.at_ u (by omega) g1
  obtain⟨y,y1,y2,y3,y4⟩:=hin2.at_ v (by omega) g2
  have hcu:=rcells_get x1
  have hcv:=rcells_get y1
  have hcon:Cn (gE es) (actE es ob w) u v:=by
   have:=Cn.edge (g:=gE es) hact
   rw[hgE] at this;exact this
  have hlu:u<(rcells l2).length:=by simp only[rcells,List.length_map,hin2.len];omega
  have hlv:v<(rcells l2).length:=by simp only[rcells,List.length_map,hin2.len];omega
  by_cases hxy:x=y
  ·subst hxy
   have hset:(rcells l2).set u (.int .i64 (x:Int))=rcells l2:=by
    rw[rcells_set];congr 1
    exact set_self' x1
   repeat(first|(refine st ?_;intros)|refine G.draw [] (h:= ?_))
   refine Dn.round ⟨k+1,l2,ch⟩ ⟨hlt,hin2,hs1,hs2,fun h j hj ha=> ?_⟩ (by dsimp only;omega)
   by_cases hjk:j=k
   ·subst hjk;rw[hgE];exact x1.trans y1.symm
   ·exact hs3 h j (by dsimp only at hj;omega) ha
  ·by_cases hlt2:x<y
   ·have hset:(rcells l2).set v (.int .i64 (x:Int))=rcells (l2.set v (x:Int)):=rcells_set _ _ _
    have hsum:=isum_set (y:=(x:Int)) y1 (by omega)
    have hput:=hin2.put x1 y1 hcon.symm (by omega) g1 g2
    repeat(first|(refine st ?_;intros)|refine G.draw [] (h:= ?_))
    refine Dn.round ⟨k+1,l2.set v (x:Int),true⟩ ⟨hlt,hput,by dsimp only;omega,fun _=>by dsimp only;omega,fun h=>(by cases h)⟩ (by dsimp only;omega)
   ·have hset:(rcells l2).set u (.int .i64 (y:Int))=rcells (l2.set u (y:Int)):=rcells_set _ _ _
    have hsum:=isum_set (y:=(y:Int)) x1 (by omega)
    have hput:=hin2.put y1 x1 hcon (by omega) g2 g1
    repeat(first|(refine st ?_;intros)|refine G.draw [] (h:= ?_))
    refine Dn.round ⟨k+1,l2.set u (y:Int),true⟩ ⟨hlt,hput,by dsimp only;omega,fun _=>by dsimp only;omega,fun h=>(by cases h)⟩ (by dsimp only;omega)
def edgeOk (n:Int) (t:T5):Prop:=0≤t.c0∧0≤t.c1∧0≤t.c2∧t.c1<n∧t.c2<n
instance (n:Int) (t:T5):Decidable (edgeOk n t):=by unfold edgeOk;infer_instance
def edgesOk (n:Int) (ts:List T5):Prop:=(∀t∈ts,edgeOk n t)∧ts.Pairwise fun a b=>a.c0≠b.c0
instance (n:Int) (ts:List T5):Decidable (edgesOk n ts):=by unfold edgesOk;infer_instance
theorem Edges15ct (n:Nat) (hn:n≤1073741824) (p:Option Addr) (m cap:Nat) (ts:List T5) (c:Chunk) (hv:RV p m ts c) (hm:m≤1000000):
  CtQ Tryz.prog 102 [.int .i64 (n:Int),.slice p m cap] [c] (.bool (dec (edgesOk n ts))):=by
 have hl:=hv.1
 have hbad:∀i t,ts[i]? =some t→¬edgeOk n t→dec (edgesOk n ts)=false:=fun i t hi ht=>dec_false fun h=>ht (h.1 t (List.mem_of_getElem? hi))
 refine Ct.intro Tryz.func102 rfl Tryz.ntmps102 (nle rfl) fun w0=> ?_;dsimp only[argSlots,Nat.reduceAdd]
 repeat(first|(refine st ?_;intros)|refine G.draw [] (h:= ?_))
 refine G.loop (X:=Nat) (fun i=>i≤m∧(∀j t,j<i→ts[j]? =some t→edgeOk n t)∧∀j k t u,j<k→k<i→ts[j]? =some t→ts[k]? =some u→t.c0≠u.c0)
  (fun i=>[(5,.int .i64 (i:Int)),(1,.slice p m cap),(0,.int .i64 (n:Int))]) (fun _=>[c]) (fun i=>m-i) 0 ⟨Nat.zero_le _,fun j t h=>absurd h (Nat.not_lt_zero j),fun j k t u _ h=>absurd h (Nat.not_lt_zero k)⟩ (body:= ?_)
 rintro i ⟨hi,hin,hap⟩
 by_cases hlt:i<m
 ·obtain⟨b,off,cs,T,fz,rfl,rfl,_,hget⟩:=(RV.rw hv).pos tcells_len (by omega)
  have hit:ts[i]? =some ts[i]:=List.getElem?_eq_getElem (by omega)
  have q0:=hget i 0 _ _ hit rfl
  have q1:=hget i 1 _ _ hit rfl
  have q2:=hget i 2 _ _ hit rfl
  rw[Nat.add_zero] at q0
  have hno:=hbad i _ hit
  generalize ht:ts[i]=t at*
  by_cases g0:t.c0<0
  ·rw[hno (by unfold edgeOk;omega)]
   repeat(first|(refine st ?_;intros)|refine G.draw [] (h:= ?_))
   (refine Dn.post (Hr:=[[(b,rowf cs T fz)]]) Tryz.results102 (hR:= ?_);exact⟨rfl,rfl⟩)
  by_cases g1:t.c1<0
  ·rw[hno (by unfold edgeOk;omega)]
   repeat(first|(refine st ?_;intros)|refine G.draw [] (h:= ?_))
   (refine Dn.post (Hr:=[[(b,rowf cs T fz)]]) Tryz.results102 (hR:= ?_);exact⟨rfl,rfl⟩)
  by_cases g2:t.c2<0
  ·rw[hno (by unfold edgeOk;omega)]
   repeat(first|(refine st ?_;intros)|refine G.draw [] (h:= ?_))
   (refine Dn.post (Hr:=[[(b,rowf cs T fz)]]) Tryz.results102 (hR:= ?_);exact⟨rfl,rfl⟩)
  by_cases g3:(n:Int)≤t.c1
  ·rw[hno (by unfold edgeOk;omega)]
   repeat(first|(refine st ?_;intros)|refine G.draw [] (h:= ?_))
   (refine Dn.post (Hr:=[[(b,rowf cs T fz)]]) Tryz.results102 (hR:= ?_);exact⟨rfl,rfl⟩)
  by_cases g4:(n:Int)≤t.c2
  ·rw[hno (by unfold edgeOk;omega)]
   repeat(first|(refine st ?_;intros)|refine G.draw [] (h:= ?_))
   (refine Dn.post (Hr:=[[(b,rowf cs T fz)]]) Tryz.results102 (hR:= ?_);exact⟨rfl,rfl⟩)
  repeat(first|(refine st ?_;intros)|refine G.draw [] (h:= ?_))
  refine G.loop (X:=Nat) (fun k=>k≤i∧∀j u,j<k→ts[j]? =some u→u.c0≠t.c0)
   (fun k=>[(6,.int .i64 (k:Int)),(5,.int .i64 (i:Int)),(1,.slice (some ⟨b,off,none⟩) m cap),(0,.int .i64 (n:Int))]) (fun _=>[[(b,rowf cs T fz)]]) (fun k=>i-k) 0 ⟨Nat.zero_le _,fun j u h=>absurd h (Nat.not_lt_zero j)⟩ (body:= ?_)
  rintro k ⟨hk,hne⟩
  by_cases hlt2:k<i
  ·have hkt:ts[k]? =some ts[k]:=List.getElem?_eq_getElem (by omega)
   have r0:=hget k 0 _ _ hkt rfl
   rw[Nat.add_zero] at r0
   generalize hu:ts[k]=u at*
   by_cases he:u.c0=t.c0
   ·have hb:dec (edgesOk n ts)=false:=dec_false fun h=>by
     have:=List.pairwise_iff_getElem.1 h.2 k i (by omega) (by omega) hlt2
     rw[hu,ht] at this
     exact this he
    rw[hb]
    repeat(first|(refine st ?_;intros)|refine G.draw [] (h:= ?_))
    (refine Dn.post (Hr:=[[(b,rowf cs T fz)]]) Tryz.results102 (hR:= ?_);exact⟨rfl,rfl⟩)
   ·repeat(first|(refine st ?_;intros)|refine G.draw [] (h:= ?_))
    refine Dn.round (k+1) ⟨hlt2,fun j u' hj hju=> ?_⟩ (by omega)
    by_cases hjk:j=k
    ·subst hjk;rw[hkt] at hju;simp only[Option.some.injEq] at hju;subst hju;exact he
    ·exact hne j u' (by omega) hju
  ·obtain rfl:k=i:=by omega
   repeat(first|(refine st ?_;intros)|refine G.draw [] (h:= ?_))
   refine Dn.round (k+1) ⟨hlt,fun j u hj hju=> ?_,fun j l u v hjl hl' hju hlv=> ?_⟩ (by omega)
   ·by_cases hjk:j=k
    ·subst hjk;rw[hit] at hju;simp only[Option.some.injEq] at hju;subst hju;exact⟨by omega,by omega,by omega,by omega,by omega⟩
    ·exact hin j u (by omega) hju
   ·by_cases hlk:l=k
    ·subst hlk;rw[hit] at hlv;simp only[Option.some.injEq] at hlv;subst hlv;exact hne j u hjl hju
    ·exact hap j l u v hjl (by omega) hju hlv
 ·obtain rfl:i=m:=by omega
  have hb:dec (edgesOk n ts)=true:=dec_true ⟨fun t ht=>by
   obtain⟨j,hj,rfl⟩:=List.getElem_of_mem ht
   exact hin j _ (by omega) (List.getElem?_eq_getElem hj),List.pairwise_iff_getElem.2 fun j k hj hk hjk=>hap j k _ _ hjk (by omega) (List.getElem?_eq_getElem hj) (List.getElem?_eq_getElem hk)⟩
  rw[hb]
  repeat(first|(refine st ?_;intros)|refine G.draw [] (h:= ?_))
  (refine Dn.post (Hr:=[c]) Tryz.results102 (hR:= ?_);exact⟨rfl,rfl⟩)
end Go.Proofs.YtammjnjpheobaaaGreat
namespace Go.Proofs.YtammjnjpheobaaaGreat
open Go.SL Go.Tup
theorem vpos1 {E sz:Nat} {p:Option Addr} {m cap:Nat} {xs:List Value} {c:Chunk} (h:Vec E sz p m cap xs c) (hm:0<m):∃b rest,p=some ⟨b,0,none⟩∧c=[(b,row (xs++rest) E)]∧cap*sz≤xs.length+rest.length∧m≤cap∧cap≤maxLen:=by
 rcases h.2 with⟨_,e,_⟩|hh
 ·omega
 ·exact hh
theorem t_cut (A B:List T5) (t:T5) (r:List Value) {k:Nat} (hk:A.length=k):((flat (A++t::B)++r).drop (k*5)).take 5=[.int .i64 t.c0,.int .i64 t.c1,.int .i64 t.c2,.int .i64 t.c3,.int .i64 t.c4]:=by
 rw[flat_fm]
 exact fm_cutR (k:=5) tcells_len (l:=A++t::B) (i:=k) (a:=t) (by subst hk;simp) r
theorem t_set (A B:List T5) (t u:T5) (r:List Value) {k:Nat} (hk:A.length=k):setL (flat (A++t::B)++r) (k*5) [.int .i64 u.c0,.int .i64 u.c1,.int .i64 u.c2,.int .i64 u.c3,.int .i64 u.c4]=flat (A++u::B)++r:=by
 rw[flat_fm,flat_fm]
 have h:=fm_set (k:=5) tcells_len (A++t::B) k u r (by subst hk;simp)
 have h2:(A++t::B).set k u=A++u::B:=by subst hk;simp
 rw[h2] at h
 exact h
theorem flat_len5 (a:List T5):(flat a).length=a.length*5:=by rw[flat_fm,fm_len tcells_len]
end Go.Proofs.YtammjnjpheobaaaGreat
namespace Go.Proofs.YtammjnjpheobaaaGreat
open Go.SL Go.Tup Go.Gr
def eOf (t:T5):IE:=(t.c1,t.c2)
def ecells5 (l:List T5):List Value:=(l.map eOf).flatMap ecl
def ncells (l:List T5):List Value:=rcells (l.map (·.c0))
theorem ecells5app (a b:List T5):ecells5 (a++b)=ecells5 a++ecells5 b:=by simp[ecells5]
theorem ncells_app (a b:List T5):ncells (a++b)=ncells a++ncells b:=by simp[ncells,rcells]
theorem ecells5len (a:List T5):(ecells5 a).length=a.length*2:=by unfold ecells5;rw[fm_len ecl_len,List.length_map]
theorem ncells_len (a:List T5):(ncells a).length=a.length:=by simp[ncells,rcells]
theorem e_cut (A B:List T5) (t:T5) (r:List Value) {k:Nat} (hk:A.length=k):((ecells5 (A++t::B)++r).drop (k*2)).take 2=[.int .i64 t.c1,.int .i64 t.c2]:=by
 have h:=fm_cutR (k:=2) ecl_len (l:=(A++t::B).map eOf) (i:=k) (a:=eOf t) (by subst hk;simp) r
 exact h
theorem e_set (A B:List T5) (t u:T5) (r:List Value) {k:Nat} (hk:A.length=k):setL (ecells5 (A++t::B)++r) (k*2) [.int .i64 u.c1,.int .i64 u.c2]=ecells5 (A++u::B)++r:=by
 have h:=fm_set (k:=2) ecl_len ((A++t::B).map eOf) k (eOf u) r (by subst hk;simp)
 rw[←List.map_set] at h
 have h2:(A++t::B).set k u=A++u::B:=by subst hk;simp
 rw[h2] at h
 exact h
theorem n_get (A B:List T5) (t:T5) (r:List Value) {k:Nat} (hk:A.length=k):(ncells (A++t::B)++r)[k]? =some (.int .i64 t.c0):=by
 subst hk;simp[ncells,rcells,List.getElem?_append]
theorem n_set (A B:List T5) (t u:T5) (r:List Value) {k:Nat} (hk:A.length=k):(ncells (A++t::B)++r).set k (.int .i64 u.c0)=ncells (A++u::B)++r:=by
 subst hk;simp[ncells,rcells,List.set_append]
def Sn (l:List T5):Prop:=l.Pairwise fun a b=>a.c0≤b.c0
structure GrX where
 i:Nat
 sl:List T5
 pe:Option Addr
 ce:Nat
 he:Chunk
 pn:Option Addr
 cn:Nat
 hn:Chunk
structure GrY where
 kz:Int
 A:List T5
 B:List T5
theorem Graph15ct (n:Nat) (p:Option Addr) (m cap:Nat) (ts:List T5) (c:Chunk) (hv:RV p m ts c) (hm:m≤1000000):
  Ct Tryz.prog 103 [.int .i64 (n:Int),.slice p m cap] [c] fun v H'=>∃sl pe ce he pn cn hn,v= .tuple #[gv n pe m ce,.slice pn m cn]∧H'=[c,he,hn]∧
   Vec 51 2 pe m ce (ecells5 sl) he∧Vec 2 1 pn m cn (ncells sl) hn∧sl.Perm ts∧Sn sl:=by
 have hl:=hv.1
 unfold gv
 refine Ct.intro Tryz.func103 rfl Tryz.ntmps103 (nle rfl) fun w0=> ?_;dsimp only[argSlots,Nat.reduceAdd]
 repeat(first|(refine st ?_;intros)|refine G.draw [] (h:= ?_)|refine G.draw (id:=11) [(10,.eff [8])] (h:= ?_))
 rename_i b4 b6
 refine G.loop (X:=GrX) (fun x=>x.i≤m∧x.sl.Perm (ts.take x.i)∧Sn x.sl∧Vec 51 2 x.pe x.i x.ce (ecells5 x.sl) x.he∧Vec 2 1 x.pn x.i x.cn (ncells x.sl) x.hn)
  (fun x=>[(8,.int .i64 (x.i:Int)),(7,.slice x.pn x.i x.cn),(6,pv b6),(4,pv b4),(1,.slice p m cap)])
  (fun x=>[[(b6,row [.int .i64 (n:Int),.slice x.pe x.i x.ce] 37)],[(b4,row [.int .i64 0,.slice none 0 0] 37)],c,x.he,x.hn]) (fun x=>m-x.i) ⟨0,[],none,0,[],none,0,[]⟩
  ⟨Nat.zero_le _,by simp,List.Pairwise.nil,Vec.nil _ _,Vec.nil _ _⟩ (by repeat(first|exact trivial|refine⟨rfl,?_⟩)) (by repeat(first|exact Split.nil|(apply Split.cons;·(first|exact Take.nil|(repeat(first|exact Take.here|apply Take.there)))))) ?_
 rintro⟨i,sl,pe,ce,he,pn,cn,hn⟩ ⟨hi,hp,hs,hVe,hVn⟩
 dsimp only at hi hp hs hVe hVn⊢
 by_cases hlt:i<m
 ·obtain⟨b,off,cs,T,fz,rfl,rfl,_,hget⟩:=(RV.rw hv).pos tcells_len (by omega)
  have hit:ts[i]? =some ts[i]:=List.getElem?_eq_getElem (by omega)
  have q0:=hget i 0 _ _ hit rfl
  have q1:=hget i 1 _ _ hit rfl
  have q2:=hget i 2 _ _ hit rfl
  rw[Nat.add_zero] at q0
  generalize ht:ts[i]=t at*
  have hmx:i+1≤maxLen:=by simp only[maxLen];omega
  have hsl:sl.length=i:=by have:=hp.length_eq;rw[List.length_take] at this;omega
  repeat(first|(refine st ?_;intros)|refine G.draw [] (h:= ?_)|refine G.draw (id:=11) [(10,.eff [8])] (h:= ?_))
  rename_i b33 pe' ce' he' hVe' b42 pn' cn' hn' hVn'
  have hVe2:Vec 51 2 pe' (i+1) ce' (ecells5 (sl++[t])) he':=by rw[ecells5app];exact hVe'
  have hVn2:Vec 2 1 pn' (i+1) cn' (ncells (sl++[t])) hn':=by rw[ncells_app];exact hVn'
  obtain⟨eb,re,rfl,rfl,hre,hce,hcm⟩:=vpos1 hVe2 (Nat.succ_pos _)
  obtain⟨nb,rn,rfl,rfl,hrn,hcn,hcm2⟩:=vpos1 hVn2 (Nat.succ_pos _)
  clear hVe hVn hVe' hVn'
  rw[ecells5len,List.length_append,List.length_singleton,hsl] at hre
  rw[ncells_len,List.length_append,List.length_singleton,hsl] at hrn
  refine G.loop (X:=GrY) (fun x=>x.A++x.B=sl∧x.kz=(x.A.length:Int)∧∀u∈x.B,t.c0<u.c0)
   (fun x=>[(9,.int .i64 x.kz),(8,.int .i64 (i:Int)),(7,.slice (some ⟨nb,0,none⟩) (i+1) cn'),(6,pv b6),(4,pv b4),(1,.slice (some ⟨b,off,none⟩) m cap)])
   (fun x=>[[(b6,row [.int .i64 (n:Int),.slice (some ⟨eb,0,none⟩) (i+1) ce'] 37)],[(b4,row [.int .i64 0,.slice none 0 0] 37)],[(b,rowf cs T fz)],[(eb,row (ecells5 (x.A++t::x.B)++re) 51)],[(nb,row (ncells (x.A++t::x.B)++rn) 2)]]) (fun x=>x.A.length) ⟨(i:Int),sl,[]⟩ ⟨by simp,by dsimp only;omega,by simp⟩ (body:= ?_)
  rintro⟨kz,A,B⟩ ⟨hAB,hkz,hB⟩
  dsimp only at hAB hkz hB⊢
  have hABl:A.length+B.length=i:=by rw[←hsl,←hAB,List.length_append]
  have hend:(∀u∈A,u.c0≤t.c0)→(A++t::B).Perm (ts.take (i+1))∧Sn (A++t::B)∧Vec 51 2 (some ⟨eb,0,none⟩) (i+1) ce' (ecells5 (A++t::B)) [(eb,row (ecells5 (A++t::B)++re) 51)]∧
    Vec 2 1 (some ⟨nb,0,none⟩) (i+1) cn' (ncells (A++t::B)) [(nb,row (ncells (A++t::B)++rn) 2)]:=by
   intro hA
   refine⟨?_,?_,Vec.mk' rfl (by rw[ecells5len];simp;omega) (by rw[List.length_append,ecells5len];simp;omega) hce hcm,Vec.mk' rfl (by rw[ncells_len];simp;omega) (by rw[List.length_append,ncells_len];simp;omega) hcn hcm2⟩
   ·rw[List.take_add_one,hit]
    refine(List.perm_middle.trans ?_)
    rw[hAB]
    exact(hp.cons t).trans (List.perm_append_comm (l₁:=[t]))
   ·unfold Sn at hs⊢
    rw[←hAB,List.pairwise_append] at hs
    rw[List.pairwise_append,List.pairwise_cons]
    exact⟨hs.1,⟨fun u hu=>Int.le_of_lt (hB u hu),hs.2.1⟩,fun x hx y hy=>by
     rcases List.mem_cons.1 hy with rfl|hy
     ·exact hA x hx
     ·exact hs.2.2 x hx y hy⟩
  rcases List.eq_nil_or_concat A with rfl|⟨A',x,rfl⟩
  ·obtain⟨e1,e2,e3,e4⟩:=hend (by simp)
   have hk0:kz=0:=by simpa using hkz
   repeat(first|(refine st ?_;intros)|refine G.draw [] (h:= ?_)|refine G.draw (id:=11) [(10,.eff [8])] (h:= ?_))
   refine Dn.round ⟨i+1,[]++t::B,_,ce',_,_,cn',_⟩ ⟨hlt,e1,e2,e3,e4⟩ (by dsimp only;omega)
  ·have hkA:kz=((A'.length+1:Nat):Int):=by simpa using hkz
   have ek:kz.toNat=A'.length+1:=by omega
   have ek1:(kz-1).toNat=A'.length:=by omega
   have hA1:A'.length+1+B.length=i:=by simpa using hABl
   have hform:∀u v:T5,(A'++[u])++v::B=A'++u::v::B:=fun u v=>by simp
   rw[List.concat_eq_append] at*
   rw[hform]
   have c1:=e_cut (A'++[x]) B t re (k:=A'.length+1) (by simp)
   have c2:=e_cut A' (t::B) x re rfl
   have s1:=e_set (A'++[x]) B t x re (k:=A'.length+1) (by simp)
   have s2:=e_set A' (x::B) x t re rfl
   have d1:=n_get (A'++[x]) B t rn (k:=A'.length+1) (by simp)
   have d2:=n_get A' (t::B) x rn rfl
   have u1:=n_set (A'++[x]) B t x rn (k:=A'.length+1) (by simp)
   have u2:=n_set A' (x::B) x t rn rfl
   simp only[hform] at c1 s1 d1 u1
   have l1:(A'.length+1)*2+2≤(ecells5 (A'++x::t::B)++re).length:=by rw[List.length_append,ecells5len];simp;omega
   have l2:(A'.length+1)*2+2≤(ecells5 (A'++x::x::B)++re).length:=by rw[List.length_append,ecells5len];simp;omega
   have l3:A'.length+1<(ncells (A'++x::t::B)++rn).length:=by rw[List.length_append,ncells_len];simp;omega
   have l4:A'.length+1<(ncells (A'++x::x::B)++rn).length:=by rw[List.length_append,ncells_len];simp;omega
   by_cases hxt:t.c0<x.c0
   ·have hrow:∀r:List Value,ecells5 (A'++t::x::B)++re=r→True:=fun _ _=>trivial
    generalize hr0:ecells5 (A'++x::t::B)++re=r0 at*
    generalize hr1:ecells5 (A'++x::x::B)++re=r1 at*
    generalize hm0:ncells (A'++x::t::B)++rn=m0 at*
    generalize hm1:ncells (A'++x::x::B)++rn=m1 at*
    repeat(first|(refine st ?_;intros)|refine G.draw [] (h:= ?_)|refine G.draw (id:=11) [(10,.eff [8])] (h:= ?_))
    refine Dn.round ⟨kz-1,A',x::B⟩ ⟨by rw[←hAB];simp,by dsimp only;omega,fun u hu=> ?_⟩ (by simp)
    rcases List.mem_cons.1 hu with rfl|hu
    ·exact hxt
    ·exact hB u hu
   ·obtain⟨e1,e2,e3,e4⟩:=hend (fun u hu=>by
     unfold Sn at hs
     rw[←hAB,List.pairwise_append,List.pairwise_append] at hs
     rcases List.mem_append.1 hu with hu|hu
     ·have:=hs.1.2.2 u hu x (by simp);omega
     ·simp only[List.mem_singleton] at hu;subst hu;omega)
    simp only[hform] at e1 e2 e3 e4
    repeat(first|(refine st ?_;intros)|refine G.draw [] (h:= ?_)|refine G.draw (id:=11) [(10,.eff [8])] (h:= ?_))
    refine Dn.round ⟨i+1,A'++x::t::B,_,ce',_,_,cn',_⟩ ⟨hlt,e1,e2,e3,e4⟩ (by dsimp only;omega)
 ·obtain rfl:i=m:=by omega
  rw[List.take_of_length_le (by omega)] at hp
  repeat(first|(refine st ?_;intros)|refine G.draw [] (h:= ?_)|refine G.draw (id:=11) [(10,.eff [8])] (h:= ?_))
  (refine Dn.post (Hr:=[c,he,hn]) Tryz.results103 (hR:= ?_);exact⟨sl,pe,ce,he,pn,cn,hn,rfl,rfl,hVe,hVn,hp,hs⟩)
def bcells (l:List Bool):List Value:=l.map Value.bool
theorem bcells_set (l:List Bool) (i:Nat) (x:Bool):(bcells l).set i (.bool x)=bcells (l.set i x):=by unfold bcells;rw[List.map_set]
theorem zrep_b:∀N,zrep N [Value.bool false]=bcells (List.replicate N false)
 |0=>rfl
 |N+1=>by
  have:=zrep_b N
  unfold bcells at this⊢
  rw[List.replicate_succ,List.map_cons,←this];rfl
structure LabEq (g:Nat→Ed) (i N:Nat) (l:List Int):Prop where
 len:l.length=N
 nat:∀v,v<N→∃x:Nat,l[v]? =some (x:Int)
 eq:∀a b,a<N→b<N→(l[a]? =l[b]?↔Cn g (fun j=>j<i) a b)
def relab (la lb:Int) (l:List Int):List Int:=l.map fun y=>if y=lb then la else y
theorem LabEq.step {g:Nat→Ed} {i N:Nat} {l:List Int} (h:LabEq g i N l) {la lb:Int} (hu:(g i).1<N) (hv:(g i).2<N) (ha:l[(g i).1]? =some la) (hb:l[(g i).2]? =some lb):LabEq g (i+1) N (relab la lb l):=by
 refine⟨by unfold relab;rw[List.length_map];exact h.len,fun v hv'=> ?_,fun a b ha' hb'=> ?_⟩
 ·obtain⟨x,hx⟩:=h.nat v hv'
  obtain⟨y,hy⟩:=h.nat _ hu
  rw[ha] at hy;simp only[Option.some.injEq] at hy
  unfold relab
  rw[List.getElem?_map,hx]
  by_cases hxb:(x:Int)=lb
  ·exact⟨y,by simp[hxb,hy]⟩
  ·exact⟨x,by simp[hxb]⟩
 ·have hc:Cn g (fun j=>j<i+1) a b↔Cn g (fun j=>j<i) a b∨(Cn g (fun j=>j<i) a (g i).1∧Cn g (fun j=>j<i) (g i).2 b)∨(Cn g (fun j=>j<i) a (g i).2∧Cn g (fun j=>j<i) (g i).1 b):=by
   constructor
   ·intro hc
    exact Cn.add (hc.mono fun j hj=>by omega)
   ·have hm:∀{x y},Cn g (fun j=>j<i) x y→Cn g (fun j=>j<i+1) x y:=fun hc=>hc.mono fun j hj=>Nat.lt_succ_of_lt hj
    have he:Cn g (fun j=>j<i+1) (g i).1 (g i).2:=Cn.edge (Nat.lt_succ_self i)
    rintro(h1|⟨h1,h2⟩|⟨h1,h2⟩)
    ·exact hm h1
    ·exact((hm h1).trans he).trans (hm h2)
    ·exact((hm h1).trans he.symm).trans (hm h2)
  rw[hc,←h.eq a b ha' hb',←h.eq a _ ha' hu,←h.eq _ b hv hb',←h.eq a _ ha' hv,←h.eq _ b hu hb',ha,hb]
  obtain⟨x,hx⟩:=h.nat a ha'
  obtain⟨y,hy⟩:=h.nat b hb'
  unfold relab
  rw[List.getElem?_map,List.getElem?_map,hx,hy]
  simp only[Option.map_some,Option.some.injEq]
  by_cases h1:(x:Int)=lb<;>by_cases h2:(y:Int)=lb<;>simp only[h1,h2,if_true,if_false]<;>constructor<;>intro h3<;>first|omega|(simp[h1,h2] at h3⊢;omega)|(simp_all)
theorem relab_take (la lb:Int) (l:List Int) (k:Nat) {y:Int} (h:l[k]? =some y):((relab la lb l).take k++l.drop k).set k (if y=lb then la else y)=(relab la lb l).take (k+1)++l.drop (k+1):=by
 obtain⟨hk,rfl⟩:=List.getElem?_eq_some_iff.1 h
 have hl:((relab la lb l).take k).length=k:=by unfold relab;simp;omega
 rw[List.set_append_right _ _ (by omega),hl,Nat.sub_self,List.drop_eq_getElem_cons hk,List.set_cons_zero,List.take_add_one]
 unfold relab
 rw[List.getElem?_map,List.getElem?_eq_getElem hk]
 simp
def forestOk (es:List IE) (fl:List Bool):Prop:=fl.length=es.length∧∀i b,fl[i]? =some b→(b=true↔Kr (gE es) (fun j=>j<es.length) i)
structure FoX where
 i:Nat
 l:List Int
 f:List Bool
theorem Forest15ct (N:Nat) (hN:N≤1000000) (p:Option Addr) (m cap:Nat) (es:List IE) (c:Chunk) (hv:Rw ecl 2 p m es c) (hm:m≤1000000) (hf:∀e∈es,inE N e):
  Ct Tryz.prog 105 [gv N p m cap] [c] fun v H'=>∃bi fl,v= .slice (some ⟨bi,0,none⟩) m m∧H'=[c,[(bi,row (bcells fl) 4)]]∧forestOk es fl:=by
 have hl:=hv.1
 unfold gv
 refine Ct.intro Tryz.func105 rfl Tryz.ntmps105 (nle rfl) fun w0=> ?_;dsimp only[argSlots,Nat.reduceAdd]
 repeat(first|(refine st ?_;intros)|refine G.draw [] (h:= ?_))
 rename_i b1 bi bl
 rw[zrep_nf,zrep_b]
 refine G.loop (X:=Nat) (fun i=>i≤N) (fun i=>[(5,.int .i64 (i:Int)),(4,.slice (some ⟨bl,0,none⟩) N N),(3,.slice (some ⟨bi,0,none⟩) m m),(1,pv b1)])
  (fun i=>[[(bl,row (rcells (nf N i)) 3)],[(bi,row (bcells (List.replicate m false)) 4)],[(b1,row [.int .i64 (N:Int),.slice p m cap] 37)],c]) (fun i=>N-i) 0 (Nat.zero_le _) (body:= ?_)
 intro i hi
 by_cases hlt:i<N
 ·have hset:(rcells (nf N i)).set i (.int .i64 (i:Int))=rcells (nf N (i+1)):=by rw[rcells_set,nf_set N i hlt]
  have hlen:i<(rcells (nf N i)).length:=by simp only[rcells,List.length_map,nf_len N i hi];exact hlt
  repeat(first|(refine st ?_;intros)|refine G.draw [] (h:= ?_))
  refine Dn.round (i+1) (by omega) (by omega)
 obtain rfl:i=N:=by omega
 rw[nf_all]
 clear hi hlt
 repeat(first|(refine st ?_;intros)|refine G.draw [] (h:= ?_))
 refine G.loop (X:=FoX) (fun x=>x.i≤m∧LabEq (gE es) x.i i x.l∧x.f.length=m∧∀j b,j<x.i→x.f[j]? =some b→(b=true↔Kr (gE es) (fun j=>j<es.length) j))
  (fun x=>[(6,.int .i64 (x.i:Int)),(4,.slice (some ⟨bl,0,none⟩) i i),(3,.slice (some ⟨bi,0,none⟩) m m),(1,pv b1)]) (fun x=>[[(bl,row (rcells (x.l)) 3)],[(bi,row (bcells (x.f)) 4)],[(b1,row [.int .i64 (i:Int),.slice p m cap] 37)],c]) (fun x=>m-x.i) ⟨0,n0 i,List.replicate m false⟩
  ⟨Nat.zero_le _,⟨n0len i,fun v hv=>⟨v,n0get hv⟩,fun a b ha hb=>by
   rw[n0get ha,n0get hb]
   constructor
   ·intro h;obtain rfl:a=b:=by simp only[Option.some.injEq] at h;omega
    exact .refl _
   ·intro h
    have:a=b:=h.stay (X:=fun y=>a=y) rfl (fun j hj=>absurd hj (Nat.not_lt_zero j))
    rw[this]⟩,by simp,fun j b h=>absurd h (Nat.not_lt_zero j)⟩ (body:= ?_)
 rintro⟨k,l,f⟩ ⟨hk,hL,hfl,hfo⟩
 dsimp only at hk hL hfl hfo⊢
 by_cases hlt:k<m
 rotate_left
 ·obtain rfl:k=m:=by omega
  repeat(first|(refine st ?_;intros)|refine G.draw [] (h:= ?_))
  (refine Dn.post (Hr:=[c,[(bi,row (bcells f) 4)]]) Tryz.results105 (hR:= ?_);exact⟨bi,f,rfl,rfl,by omega,fun j b hj=>hfo j b (by rw[←hfl];exact(List.getElem?_eq_some_iff.1 hj).1) hj⟩)
 obtain⟨b,off,cs,T,fz,rfl,rfl,hcut,hget⟩:=hv.pos ecl_len (by omega)
 have hie:es[k]? =some es[k]:=List.getElem?_eq_getElem (by omega)
 have q0:=hget k 0 _ _ hie rfl
 have q1:=hget k 1 _ _ hie rfl
 rw[Nat.add_zero] at q0
 have hfe:=hf _ (List.mem_of_getElem? hie)
 generalize he:es[k]=e at*
 obtain⟨u,v⟩:=e
 obtain⟨f1,f2,f3,f4⟩:=hfe
 dsimp only at f1 f2 f3 f4 q0 q1
 obtain⟨u,rfl⟩:∃u':Nat,u=(u':Int):=⟨u.toNat,by omega⟩
 obtain⟨v,rfl⟩:∃v':Nat,v=(v':Int):=⟨v.toNat,by omega⟩
 have hgE:gE es k=(u,v):=by unfold gE;rw[hie];simp
 obtain⟨la,x1⟩:=hL.nat u (by omega)
 obtain⟨lb,y1⟩:=hL.nat v (by omega)
 have hcu:=rcells_get x1
 have hcv:=rcells_get y1
 have hstep:=hL.step (la:=la) (lb:=lb) (by rw[hgE];dsimp only;omega) (by rw[hgE];dsimp only;omega) (by rw[hgE];exact x1) (by rw[hgE];exact y1)
 have hkr:dec ((la:Int)≠(lb:Int))=true↔Kr (gE es) (fun j=>j<es.length) k:=by
  have h1:=hL.eq u v (by omega) (by omega)
  rw[x1,y1,Option.some.injEq] at h1
  rw[dec_iff]
  unfold Kr
  rw[hgE]
  have h2:Cn (gE es) (fun j=>j<es.length∧j<k) u v↔Cn (gE es) (fun j=>j<k) u v:=Cn.congr fun j=>⟨fun h=>h.2,fun h=>⟨by omega,h⟩⟩
  rw[h2,←h1]
  exact⟨fun h=>⟨by omega,h⟩,fun h=>h.2⟩
 have hsetf:(bcells f).set k (.bool (dec ((la:Int)≠(lb:Int))))=bcells (f.set k (dec ((la:Int)≠(lb:Int)))):=bcells_set _ _ _
 have hlenf:k<(bcells f).length:=by simp only[bcells,List.length_map];omega
 repeat(first|(refine st ?_;intros)|refine G.draw [] (h:= ?_))
 refine G.loop (X:=Nat) (fun j=>j≤i) (fun j=>[(9,.int .i64 (j:Int)),(8,.int .i64 (lb:Int)),(7,.int .i64 (la:Int)),(6,.int .i64 (k:Int)),(4,.slice (some ⟨bl,0,none⟩) i i),(3,.slice (some ⟨bi,0,none⟩) m m),(1,pv b1)])
  (fun j=>[[(bl,row (rcells ((relab la lb l).take j++l.drop j)) 3)],[(bi,row (bcells (f.set k (dec ((la:Int)≠(lb:Int))))) 4)],[(b1,row [.int .i64 (i:Int),.slice (some ⟨b,off,none⟩) m cap] 37)],[(b,rowf cs T fz)]]) (fun j=>i-j) 0 (Nat.zero_le _) (body:= ?_)
 intro j hj
 by_cases hlt3:j<i
 ·obtain⟨y,hy⟩:=hL.nat j hlt3
  have hcy:(rcells ((relab la lb l).take j++l.drop j))[j]? =some (.int .i64 (y:Int)):=by
   refine rcells_get ?_
   have hl2:((relab la lb l).take j).length=j:=by unfold relab;simp[hL.len];omega
   rw[List.getElem?_append_right (by omega),hl2,Nat.sub_self,List.getElem?_drop]
   exact hy
  have hrt:=relab_take la lb l j hy
  by_cases hyb:(y:Int)=lb
  ·have hset:(rcells ((relab la lb l).take j++l.drop j)).set j (.int .i64 (la:Int))=rcells ((relab la lb l).take (j+1)++l.drop (j+1)):=by
    rw[rcells_set];rw[if_pos hyb] at hrt;rw[hrt]
   have hlen:j<(rcells ((relab la lb l).take j++l.drop j)).length:=(List.getElem?_eq_some_iff.1 hcy).1
   repeat(first|(refine st ?_;intros)|refine G.draw [] (h:= ?_))
   refine Dn.round (j+1) (by omega) (by omega)
  ·have hsame:(relab la lb l).take j++l.drop j=(relab la lb l).take (j+1)++l.drop (j+1):=by
    rw[if_neg hyb] at hrt;rw[←hrt]
    refine(set_self' ?_).symm
    have hl2:((relab la lb l).take j).length=j:=by unfold relab;simp[hL.len];omega
    rw[List.getElem?_append_right (by omega),hl2,Nat.sub_self,List.getElem?_drop]
    exact hy
   repeat(first|(refine st ?_;intros)|refine G.draw [] (h:= ?_))
   rw[hsame]
   refine Dn.round (j+1) (by omega) (by omega)
 ·obtain rfl:j=i:=by omega
  have hdone:(relab la lb l).take j++l.drop j=relab la lb l:=by
   rw[List.drop_eq_nil_of_le (by rw[hL.len];exact Nat.le_refl _),List.append_nil,List.take_of_length_le (by unfold relab;rw[List.length_map,hL.len];exact Nat.le_refl _)]
  rw[hdone]
  repeat(first|(refine st ?_;intros)|refine G.draw [] (h:= ?_))
  refine Dn.round ⟨k+1,relab la lb l,f.set k (dec ((la:Int)≠(lb:Int)))⟩ ⟨hlt,hstep,by rw[List.length_set];exact hfl,fun q bq hq hfq=> ?_⟩ (by dsimp only;omega)
  dsimp only at hq hfq
  by_cases hqk:q=k
  ·subst hqk
   rw[List.getElem?_set_self (by omega)] at hfq
   simp only[Option.some.injEq] at hfq
   subst hfq;exact hkr
  ·rw[List.getElem?_set_ne (by omega)] at hfq
   exact hfo q bq (by omega) hfq
end Go.Proofs.YtammjnjpheobaaaGreat
