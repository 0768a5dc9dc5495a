/-
  Parts of the proof, put together: SrtPlain, Ext1, Ext2, Stable, SrtPlain2. No condition.
-/
import Derived.Test.YtammjnjpheobaaaGreatK12
set_option linter.unusedVariables false
set_option linter.unusedSimpArgs false
set_option linter.unnecessarySimpa false
set_option maxHeartbeats 4000000
namespace Go.Srt
set_option linter.unusedSectionVars false
structure Swo {α:Type} (lt:α→α→Bool):Prop where
 asym:∀a b,lt a b=true→lt b a=false
 ntrans:∀a b c,lt a b=false→lt b c=false→lt a c=false
variable {α:Type} {lt:α→α→Bool}
theorem Swo.irr (h:Swo lt) (a:α):lt a a=false:=by
 cases hl:lt a a with
 |false=>rfl
 |true=>have:=h.asym a a hl;rw[hl] at this;cases this
def eqv (lt:α→α→Bool) (a b:α):Bool:= !lt a b&& !lt b a
theorem eqv_iff {a b:α}:eqv lt a b=true↔lt a b=false∧lt b a=false:=by simp[eqv]
theorem eqv_self (h:Swo lt) (a:α):eqv lt a a=true:=eqv_iff.2 ⟨h.irr a,h.irr a⟩
theorem eqv_symm {a b:α} (h:eqv lt a b=true):eqv lt b a=true:=eqv_iff.2 ⟨(eqv_iff.1 h).2,(eqv_iff.1 h).1⟩
theorem eqv_trans (h:Swo lt) {a b c:α} (h1:eqv lt a b=true) (h2:eqv lt b c=true):eqv lt a c=true:=
 eqv_iff.2 ⟨h.ntrans _ _ _ (eqv_iff.1 h1).1 (eqv_iff.1 h2).1,h.ntrans _ _ _ (eqv_iff.1 h2).2 (eqv_iff.1 h1).2⟩
def keepC (once:Bool) (l:List α):List α:=if once then l.take 1 else l
def Sd (lt:α→α→Bool) (once:Bool) (l:List α):Prop:=l.Pairwise fun a b=>if once then lt a b=true else lt b a=false
def Sp (lt:α→α→Bool) (once:Bool) (l1 l2:List α):Prop:=∀x,keepC once (l1.filter (eqv lt x))=keepC once (l2.filter (eqv lt x))
theorem Sp.refl (once:Bool) (l:List α):Sp lt once l l:=fun _=>rfl
theorem Sp.symm {once:Bool} {l1 l2:List α} (h:Sp lt once l1 l2):Sp lt once l2 l1:=fun x=>(h x).symm
theorem Sp.trans {once:Bool} {l1 l2 l3:List α} (h:Sp lt once l1 l2) (h2:Sp lt once l2 l3):Sp lt once l1 l3:=fun x=>(h x).trans (h2 x)
theorem keepC_app (once:Bool) (a b:List α):keepC once (a++b)=keepC once (keepC once a++keepC once b):=by
 cases once with
 |false=>rfl
 |true=>
  simp only[keepC,if_true]
  cases a with
  |nil=>cases b<;>simp
  |cons x a=>simp
theorem Sp.app {once:Bool} {a b c d:List α} (h1:Sp lt once a b) (h2:Sp lt once c d):Sp lt once (a++c) (b++d):=fun x=>by
 rw[List.filter_append,List.filter_append,keepC_app,h1 x,h2 x,←keepC_app]
theorem Sp.once_of {once:Bool} {a b:List α} (h:Sp lt false a b):Sp lt once a b:=fun x=>by
 have:=h x
 simp only[keepC] at this
 simp only[Bool.false_eq_true,if_false] at this
 rw[this]
theorem Sp.swap (h:Swo lt) {once:Bool} {v x:List α} (hx:∀b∈x,∀a∈v,lt b a=true):Sp lt once (v++x) (x++v):=fun c=>by
 rw[List.filter_append,List.filter_append]
 by_cases hv:v.filter (eqv lt c)=[]
 ·rw[hv];simp
 ·have:x.filter (eqv lt c)=[]:=by
   rw[List.filter_eq_nil_iff]
   intro b hb hcb
   obtain⟨a,ha⟩:=List.exists_mem_of_ne_nil _ hv
   obtain⟨ha1,ha2⟩:=List.mem_filter.1 ha
   have h1:=eqv_trans h (eqv_symm hcb) ha2
   have h2:=hx b hb a ha1
   rw[(eqv_iff.1 h1).1] at h2;cases h2
  rw[this];simp
theorem sd_class (h:Swo lt) {once:Bool} {l:List α} (hs:Sd lt once l) (x:α):keepC once (l.filter (eqv lt x))=l.filter (eqv lt x):=by
 cases once with
 |false=>rfl
 |true=>
  have:(l.filter (eqv lt x)).Pairwise fun a b=>lt a b=true:=by
   have:=hs.sublist (List.filter_sublist (p:=eqv lt x))
   simpa using this
  have hm:∀a∈l.filter (eqv lt x),eqv lt x a=true:=fun a ha=>(List.mem_filter.1 ha).2
  simp only[keepC,if_true]
  revert this hm
  generalize l.filter (eqv lt x)=m
  intro h1 h2
  match m,h1,h2 with
  |[],_,_=>rfl
  |[_],_,_=>rfl
  |a::b::m,h1,h2=>
   exfalso
   have h3:=List.rel_of_pairwise_cons h1 (List.mem_cons_self (a:=b) (l:=m))
   have h4:=eqv_trans h (eqv_symm (h2 a (by simp))) (h2 b (by simp))
   rw[(eqv_iff.1 h4).1] at h3;cases h3
theorem Sd.weak (h:Swo lt) {once:Bool} {l:List α} (hs:Sd lt once l):Sd lt false l:=by
 cases once with
 |false=>exact hs
 |true=>exact List.Pairwise.imp (fun {a b} hab=>by simpa using h.asym a b (by simpa using hab)) hs
theorem unique (h:Swo lt):∀{l1 l2:List α},Sd lt false l1→Sd lt false l2→Sp lt false l1 l2→l1=l2
 |[],[],_,_,_=>rfl
 |[],b::l2,_,_,hp=>by have:=hp b;simp[keepC,eqv_self h] at this
 |a::l1,[],_,_,hp=>by have:=hp a;simp[keepC,eqv_self h] at this
 |a::l1,b::l2,h1,h2,hp=>by
  have hp':∀x,(a::l1).filter (eqv lt x)=(b::l2).filter (eqv lt x):=fun x=>by have:=hp x;simpa[keepC] using this
  have mem:∀x,x∈a::l1↔x∈b::l2:=fun x=>by
   have e:=hp' x
   constructor
   ·intro hm
    exact(List.mem_filter.1 (e▸List.mem_filter.2 ⟨hm,eqv_self h x⟩)).1
   ·intro hm
    exact(List.mem_filter.1 (e.symm▸List.mem_filter.2 ⟨hm,eqv_self h x⟩)).1
  have hba:lt b a=false:=by
   rcases List.mem_cons.1 ((mem b).2 List.mem_cons_self) with rfl|hm
   ·exact h.irr _
   ·simpa using List.rel_of_pairwise_cons h1 hm
  have hab:lt a b=false:=by
   rcases List.mem_cons.1 ((mem a).1 List.mem_cons_self) with rfl|hm
   ·exact h.irr _
   ·simpa using List.rel_of_pairwise_cons h2 hm
  have e1:eqv lt a b=true:=eqv_iff.2 ⟨hab,hba⟩
  have e:=hp' a
  simp only[List.filter_cons,eqv_self h,e1,if_true,List.cons.injEq] at e
  obtain⟨rfl,_⟩:=e
  congr 1
  refine unique h (List.Pairwise.of_cons h1) (List.Pairwise.of_cons h2) fun x=> ?_
  have:=hp' x
  simp only[List.filter_cons] at this
  simp only[keepC,Bool.false_eq_true,if_false]
  split at this
  ·exact(List.cons.inj this).2
  ·exact this
theorem unique1 (h:Swo lt) {once:Bool} {l1 l2:List α} (h1:Sd lt once l1) (h2:Sd lt once l2) (hp:Sp lt once l1 l2):l1=l2:=
 unique h (h1.weak h) (h2.weak h) fun x=>by
  have:=hp x
  rw[sd_class h h1,sd_class h h2] at this
  simpa[keepC] using this
variable [Inhabited α]
def sw (l:List α) (i j:Nat):List α:=(l.set i (l.getD j default)).set j (l.getD i default)
@[simp] theorem sw_length (l:List α) (i j:Nat):(sw l i j).length=l.length:=by simp[sw]
theorem getD_app_left (P S:List α) (i:Nat) (h:i<P.length):(P++S).getD i default=P.getD i default:=by
 simp[List.getD_eq_getElem?_getD,List.getElem?_append_left h]
theorem getD_app_right (P S:List α) (i:Nat) (h:P.length≤i):(P++S).getD i default=S.getD (i-P.length) default:=by
 simp[List.getD_eq_getElem?_getD,List.getElem?_append_right h]
abbrev at_ (l:List α) (k:Nat):α:=l.getD k default
theorem sw_at (l:List α) (i j k:Nat) (hi:i<l.length) (hj:j<l.length):at_ (sw l i j) k=if k=j then at_ l i else if k=i then at_ l j else at_ l k:=by
 unfold sw at_
 simp only[List.getD_eq_getElem?_getD,List.getElem?_set,List.length_set]
 by_cases h1:k=j
 ·subst h1;simp[hj]
 ·rw[if_neg (fun e=>h1 e.symm),if_neg h1]
  by_cases h2:k=i
  ·subst h2;simp[hi]
  ·rw[if_neg (fun e=>h2 e.symm),if_neg h2]
theorem ext_at {l1 l2:List α} (hl:l1.length=l2.length) (h:∀k,at_ l1 k=at_ l2 k):l1=l2:=by
 apply List.ext_getElem hl
 intro k h1 h2
 have:=h k
 simpa[at_,List.getD_eq_getElem?_getD,h1,h2] using this
def rotF (l:List α) (a m b k:Nat):α:=if a≤k∧k<a+(b-m) then at_ l (k+(m-a)) else if a+(b-m)≤k∧k<b then at_ l (k-(b-m)) else at_ l k
def swrF (l:List α) (a b n k:Nat):α:=if a≤k∧k<a+n then at_ l (k+(b-a)) else if b≤k∧k<b+n then at_ l (k-(b-a)) else at_ l k
theorem swr_step {l c:List α} {a b n i:Nat} (hab:a+n≤b) (hn:b+n≤l.length) (hc:c.length=l.length) (h:∀k,at_ c k=swrF l a b i k) (hi:i<n):∀k,at_ (sw c (a+i) (b+i)) k=swrF l a b (i+1) k:=by
 intro k
 rw[sw_at _ _ _ _ (by omega) (by omega)]
 simp only[h,swrF]
 (repeat' split)<;>first|rfl|(exfalso;omega)|(congr 1;omega)
theorem rot_stepL {c c':List α} {m i j:Nat} (hi:i≤m) (hij:j<i) (h:∀k,at_ c' k=swrF c (m-i) m j k):∀k,rotF c' (m-(i-j)) m (m+j) k=rotF c (m-i) m (m+j) k:=by
 intro k
 simp only[rotF,h,swrF]
 (repeat' split)<;>first|rfl|(exfalso;omega)|(congr 1;omega)
theorem rot_stepR {c c':List α} {m i j:Nat} (hi:i≤m) (hij:i<j) (h:∀k,at_ c' k=swrF c (m-i) (m+j-i) i k):∀k,rotF c' (m-i) m (m+(j-i)) k=rotF c (m-i) m (m+j) k:=by
 intro k
 simp only[rotF,h,swrF]
 (repeat' split)<;>first|rfl|(exfalso;omega)|(congr 1;omega)
theorem rot_last {c c':List α} {m i:Nat} (hi:i≤m) (h:∀k,at_ c' k=swrF c (m-i) m i k):∀k,at_ c' k=rotF c (m-i) m (m+i) k:=by
 intro k
 simp only[rotF,h,swrF]
 (repeat' split)<;>first|rfl|(exfalso;omega)|(congr 1;omega)
theorem rot_id (l:List α) {a m b:Nat} (h:a=m∨m=b) (h1:a≤m) (h2:m≤b):∀k,rotF l a m b k=at_ l k:=by
 intro k
 simp only[rotF]
 split
 ·congr 1;omega
 ·split
  ·congr 1;omega
  ·rfl
theorem slice_mem {l:List α} {a n:Nat} {x:α} (h:x∈(l.drop a).take n):∃k,a≤k∧k<a+n∧x=at_ l k:=by
 obtain⟨i,hi⟩:=List.getElem?_of_mem h
 rw[List.getElem?_take] at hi
 split at hi
 ·rename_i hin
  rw[List.getElem?_drop] at hi
  exact⟨a+i,by omega,by omega,by simp[at_,List.getD_eq_getElem?_getD,hi]⟩
 ·cases hi
theorem slice_at (l:List α) (a n k:Nat) (h:k<n):at_ ((l.drop a).take n) k=at_ l (a+k):=by
 simp[at_,List.getD_eq_getElem?_getD,List.getElem?_take,h]
theorem at_app (P S:List α) (k:Nat):at_ (P++S) k=if k<P.length then at_ P k else at_ S (k-P.length):=by
 split
 ·exact getD_app_left P S k (by assumption)
 ·exact getD_app_right P S k (by omega)
theorem cut4 (l:List α) {a m b:Nat} (h1:a≤m) (h2:m≤b) (hb:b≤l.length):l=l.take a++((l.drop a).take (m-a)++((l.drop m).take (b-m)++l.drop b)):=by
 have e1:(l.drop m).take (b-m)++l.drop b=l.drop m:=by
  have:=List.take_append_drop (b-m) (l.drop m)
  rwa[List.drop_drop,show m+(b-m)=b by omega] at this
 have e2:(l.drop a).take (m-a)++l.drop m=l.drop a:=by
  have:=List.take_append_drop (m-a) (l.drop a)
  rwa[List.drop_drop,show a+(m-a)=m by omega] at this
 rw[e1,e2,List.take_append_drop]
theorem rot_eq {l l':List α} {a m b:Nat} (h1:a≤m) (h2:m≤b) (hb:b≤l.length) (hl:l'.length=l.length) (hr:∀k,at_ l' k=rotF l a m b k):
  l'=l.take a++((l.drop m).take (b-m)++((l.drop a).take (m-a)++l.drop b)):=by
 apply ext_at
 ·simp;omega
 ·intro k
  rw[hr,at_app,at_app,at_app]
  simp only[rotF,List.length_take,List.length_drop]
  have e1:min a l.length=a:=by omega
  have e2:min (b-m) (l.length-m)=b-m:=by omega
  have e3:min (m-a) (l.length-a)=m-a:=by omega
  rw[e1,e2,e3]
  by_cases k1:k<a
  ·rw[if_neg (by omega),if_neg (by omega),if_pos k1]
   simp[at_,List.getD_eq_getElem?_getD,List.getElem?_take,k1]
  ·rw[if_neg k1]
   by_cases k2:k-a<b-m
   ·rw[if_pos (by omega),if_pos k2,slice_at _ _ _ _ k2]
    congr 1;omega
   ·rw[if_neg k2,if_neg (by omega)]
    by_cases k3:k-a-(b-m)<m-a
    ·rw[if_pos (by omega),if_pos k3,slice_at _ _ _ _ k3]
     congr 1;omega
    ·rw[if_neg (by omega),if_neg k3]
     simp[at_,List.getD_eq_getElem?_getD]
     congr 2;omega
theorem rot_sp (h:Swo lt) {l l':List α} {a m b:Nat} (h1:a≤m) (h2:m≤b) (hb:b≤l.length) (hl:l'.length=l.length) (hr:∀k,at_ l' k=rotF l a m b k)
  (hc:∀i j,a≤i→i<m→m≤j→j<b→lt (at_ l j) (at_ l i)=true):Sp lt false l l':=by
 rw[rot_eq h1 h2 hb hl hr]
 conv=>lhs;rw[cut4 l h1 h2 hb]
 refine Sp.app (Sp.refl _ _) ?_
 rw[←List.append_assoc,←List.append_assoc]
 refine Sp.app (Sp.swap h ?_) (Sp.refl _ _)
 intro x hx v hv
 obtain⟨j,j1,j2,rfl⟩:=slice_mem hx
 obtain⟨i,i1,i2,rfl⟩:=slice_mem hv
 exact hc i j i1 (by omega) j1 (by omega)
def Seg (lt:α→α→Bool) (l:List α) (a b:Nat):Prop:=∀i j,a≤i→i<j→j<b→lt (at_ l j) (at_ l i)=false
def Ins (l l':List α) (a b:Nat):Prop:=(∀k,a≤k→k<b→∃k',a≤k'∧k'<b∧at_ l' k=at_ l k')∧(∀k,k<a∨b≤k→at_ l' k=at_ l k)∧l'.length=l.length
theorem Ins.refl (l:List α) (a b:Nat):Ins l l a b:=⟨fun k h1 h2=>⟨k,h1,h2,rfl⟩,fun _ _=>rfl,rfl⟩
theorem Ins.trans {l1 l2 l3:List α} {a b:Nat} (h:Ins l1 l2 a b) (h2:Ins l2 l3 a b):Ins l1 l3 a b:=
 ⟨fun k k1 k2=>by
  obtain⟨k',e1,e2,e3⟩:=h2.1 k k1 k2
  obtain⟨k'',f1,f2,f3⟩:=h.1 k' e1 e2
  exact⟨k'',f1,f2,e3.trans f3⟩,fun k hk=>(h2.2.1 k hk).trans (h.2.1 k hk),h2.2.2.trans h.2.2⟩
theorem Ins.wide {l l':List α} {a b c d:Nat} (h:Ins l l' a b) (h1:c≤a) (h2:b≤d):Ins l l' c d:=
 ⟨fun k k1 k2=>by
  by_cases hk:a≤k∧k<b
  ·obtain⟨k',e1,e2,e3⟩:=h.1 k hk.1 hk.2
   exact⟨k',by omega,by omega,e3⟩
  ·exact⟨k,k1,k2,h.2.1 k (by omega)⟩,fun k hk=>h.2.1 k (by omega),h.2.2⟩
theorem Ins.rot {l l':List α} {a m b:Nat} (h1:a≤m) (h2:m≤b) (hl:l'.length=l.length) (hr:∀k,at_ l' k=rotF l a m b k):Ins l l' a b:=by
 refine⟨fun k k1 k2=> ?_,fun k hk=> ?_,hl⟩
 ·rw[hr];unfold rotF
  split
  ·exact⟨_,by omega,by omega,rfl⟩
  ·split
   ·exact⟨_,by omega,by omega,rfl⟩
   ·exact⟨k,k1,k2,rfl⟩
 ·rw[hr];unfold rotF
  rw[if_neg (by omega),if_neg (by omega)]
theorem Seg.out {l l':List α} {a b c d:Nat} (h:Seg lt l c d) (hi:Ins l l' a b) (hd:d≤a∨b≤c):Seg lt l' c d:=fun i j h1 h2 h3=>by
 rw[hi.2.1 i (by omega),hi.2.1 j (by omega)]
 exact h i j h1 h2 h3
theorem sym_facts (h:Swo lt) {l l1:List α} {a m b mid n start e low high:Nat} (ham:a<m) (hmb:m<b)
  (s1:Seg lt l a m) (s2:Seg lt l m b) (hmid:mid=(a+b)/2) (hn:n=mid+m) (he:e=n-start)
  (hlow:low=if mid<m then n-b else a) (hhigh:high=if mid<m then mid else m) (hls:low≤start) (hsh:start≤high)
  (f1:start=low∨lt (at_ l (n-start)) (at_ l (start-1))=false) (f2:start=high∨lt (at_ l (n-1-start)) (at_ l start)=true)
  (hr:∀k,at_ l1 k=rotF l start m e k):
  (∀i j,start≤i→i<m→m≤j→j<e→lt (at_ l j) (at_ l i)=true)∧
  (Seg lt l1 a start∧Seg lt l1 start mid∧Seg lt l1 mid e∧Seg lt l1 e b)∧
  (∀i j,a≤i→i<mid→mid≤j→j<b→lt (at_ l1 j) (at_ l1 i)=false)∧a≤start∧start≤m∧m≤e∧e≤b∧start≤mid∧mid≤e:=by
 have hb0:a≤start∧start≤m∧m≤e∧e≤b∧start≤mid∧mid≤e∧mid-start=e-m:=by
  split at hlow<;>split at hhigh<;>omega
 obtain⟨b1,b2,b3,b4,b5,b6,b7⟩:=hb0
 have hC1:∀i j,start≤i→i<m→m≤j→j<e→lt (at_ l j) (at_ l i)=true:=by
  intro i j i1 i2 j1 j2
  rcases f2 with f2|f2
  ·exfalso
   split at hhigh<;>omega
  ·rw[show n-1-start=e-1 by omega] at f2
   cases hlt:lt (at_ l j) (at_ l i) with
   |true=>rfl
   |false=>
    exfalso
    have g1:lt (at_ l (e-1)) (at_ l j)=false:=by
     by_cases hj:j=e-1
     ·subst hj;exact h.irr _
     ·exact s2 j (e-1) j1 (by omega) (by omega)
    have g2:lt (at_ l i) (at_ l start)=false:=by
     by_cases hj:i=start
     ·subst hj;exact h.irr _
     ·exact s1 start i b1 (by omega) i2
    have:=h.ntrans _ _ _ g1 (h.ntrans _ _ _ hlt g2)
    rw[f2] at this;cases this
 have r1:∀k,k<start→at_ l1 k=at_ l k:=fun k hk=>by rw[hr,rotF,if_neg (by omega),if_neg (by omega)]
 have r2:∀k,start≤k→k<mid→at_ l1 k=at_ l (k+(m-start)):=fun k h1 h2=>by rw[hr,rotF,if_pos (by omega)]
 have r3:∀k,mid≤k→k<e→at_ l1 k=at_ l (k-(e-m)):=fun k h1 h2=>by rw[hr,rotF,if_neg (by omega),if_pos (by omega)]
 have r4:∀k,e≤k→at_ l1 k=at_ l k:=fun k hk=>by rw[hr,rotF,if_neg (by omega),if_neg (by omega)]
 refine⟨hC1,⟨?_,?_,?_,?_⟩,?_,b1,b2,b3,b4,b5,b6⟩
 ·intro i j i1 i2 i3
  rw[r1 i (by omega),r1 j i3]
  exact s1 i j i1 i2 (by omega)
 ·intro i j i1 i2 i3
  rw[r2 i i1 (by omega),r2 j (by omega) i3]
  exact s2 _ _ (by omega) (by omega) (by omega)
 ·intro i j i1 i2 i3
  rw[r3 i i1 (by omega),r3 j (by omega) i3]
  exact s1 _ _ (by omega) (by omega) (by omega)
 ·intro i j i1 i2 i3
  rw[r4 i i1,r4 j (by omega)]
  exact s2 _ _ (by omega) (by omega) (by omega)
 ·intro i j i1 i2 j1 j2
  by_cases hi:i<start
  ·rw[r1 i hi]
   by_cases hj:j<e
   ·rw[r3 j j1 hj]
    exact s1 _ _ i1 (by omega) (by omega)
   ·rw[r4 j (by omega)]
    rcases f1 with f1|f1
    ·exfalso
     split at hlow<;>omega
    ·rw[←he] at f1
     have g1:lt (at_ l (start-1)) (at_ l i)=false:=by
      by_cases hh:i=start-1
      ·subst hh;exact h.irr _
      ·exact s1 _ _ i1 (by omega) (by omega)
     have g2:lt (at_ l j) (at_ l e)=false:=by
      by_cases hh:j=e
      ·subst hh;exact h.irr _
      ·exact s2 _ _ (by omega) (by omega) (by omega)
     exact h.ntrans _ _ _ g2 (h.ntrans _ _ _ f1 g1)
  ·rw[r2 i (by omega) i2]
   by_cases hj:j<e
   ·rw[r3 j j1 hj]
    exact h.asym _ _ (hC1 _ _ (by omega) (by omega) (by omega) (by omega))
   ·rw[r4 j (by omega)]
    exact s2 _ _ (by omega) (by omega) (by omega)
theorem seg_join {l:List α} {a mid b:Nat} (h1:Seg lt l a mid) (h2:Seg lt l mid b) (hc:∀i j,a≤i→i<mid→mid≤j→j<b→lt (at_ l j) (at_ l i)=false):Seg lt l a b:=by
 intro i j i1 i2 i3
 by_cases hi:j<mid
 ·exact h1 i j i1 i2 hi
 ·by_cases hj:i<mid
  ·exact hc i j i1 hj (by omega) i3
  ·exact h2 i j (by omega) i2 i3
theorem cross_keep {l l':List α} {a mid b:Nat} (hc:∀i j,a≤i→i<mid→mid≤j→j<b→lt (at_ l j) (at_ l i)=false) (h:Ins l l' a mid):
  ∀i j,a≤i→i<mid→mid≤j→j<b→lt (at_ l' j) (at_ l' i)=false:=by
 intro i j i1 i2 j1 j2
 obtain⟨k,k1,k2,k3⟩:=h.1 i i1 i2
 rw[k3,h.2.1 j (by omega)]
 exact hc k j k1 k2 j1 j2
theorem cross_keepR {l l':List α} {a mid b:Nat} (hc:∀i j,a≤i→i<mid→mid≤j→j<b→lt (at_ l j) (at_ l i)=false) (h:Ins l l' mid b):
  ∀i j,a≤i→i<mid→mid≤j→j<b→lt (at_ l' j) (at_ l' i)=false:=by
 intro i j i1 i2 j1 j2
 obtain⟨k,k1,k2,k3⟩:=h.1 j j1 j2
 rw[k3,h.2.1 i (by omega)]
 exact hc i k i1 i2 k1 k2
theorem sw_sp (h:Swo lt) {l:List α} {j:Nat} (hj:0<j) (hl:j<l.length) (hlt:lt (at_ l j) (at_ l (j-1))=true):Sp lt false l (sw l j (j-1)):=by
 refine rot_sp h (a:=j-1) (m:=j) (b:=j+1) (by omega) (by omega) (by omega) (by simp) ?_ ?_
 ·intro k
  rw[sw_at _ _ _ _ (by omega) (by omega)]
  unfold rotF
  by_cases h1:k=j-1
  ·rw[if_pos h1,if_pos (by omega)];congr 1;omega
  ·rw[if_neg h1]
   by_cases h2:k=j
   ·rw[if_pos h2,if_neg (by omega),if_pos (by omega)];congr 1;omega
   ·rw[if_neg h2,if_neg (by omega),if_neg (by omega)]
 ·intro i k i1 i2 k1 k2
  rw[show i=j-1 by omega,show k=j by omega];exact hlt
theorem sw_ins {l:List α} {i j a b:Nat} (hi:a≤i∧i<b) (hj:a≤j∧j<b) (hb:b≤l.length):Ins l (sw l i j) a b:=by
 refine⟨fun k k1 k2=> ?_,fun k hk=> ?_,by simp⟩
 ·rw[sw_at _ _ _ _ (by omega) (by omega)]
  split
  ·exact⟨i,hi.1,hi.2,rfl⟩
  ·split
   ·exact⟨j,hj.1,hj.2,rfl⟩
   ·exact⟨k,k1,k2,rfl⟩
 ·rw[sw_at _ _ _ _ (by omega) (by omega),if_neg (by omega),if_neg (by omega)]
def Down (lt:α→α→Bool) (l:List α) (a i j:Nat):Prop:=(∀p q,a≤p→p<q→q≤i→p≠j→q≠j→lt (at_ l q) (at_ l p)=false)∧(∀q,j<q→q≤i→lt (at_ l q) (at_ l j)=false)
theorem Down.start {l:List α} {a i:Nat} (h:Seg lt l a i):Down lt l a i i:=⟨fun p q h1 h2 h3 h4 h5=>h p q h1 h2 (by omega),fun q h1 h2=>by omega⟩
theorem Down.step (h:Swo lt) {l:List α} {a i j:Nat} (hd:Down lt l a i j) (haj:a<j) (hji:j≤i) (hl:i<l.length) (hlt:lt (at_ l j) (at_ l (j-1))=true):Down lt (sw l j (j-1)) a i (j-1):=by
 obtain⟨h1,h2⟩:=hd
 refine⟨fun p q p1 p2 p3 p4 p5=> ?_,fun q q1 q2=> ?_⟩
 ·rw[sw_at _ _ _ _ (by omega) (by omega),sw_at _ _ _ _ (by omega) (by omega),if_neg p5,if_neg p4]
  by_cases e1:q=j
  ·subst e1
   rw[if_pos rfl,if_neg (by omega)]
   exact h1 p (q-1) p1 (by omega) (by omega) (by omega) (by omega)
  ·rw[if_neg e1]
   by_cases e2:p=j
   ·subst e2
    rw[if_pos rfl]
    exact h1 (p-1) q (by omega) (by omega) p3 (by omega) e1
   ·rw[if_neg e2]
    exact h1 p q p1 p2 p3 e2 e1
 ·rw[sw_at _ _ _ _ (by omega) (by omega),sw_at _ _ _ _ (by omega) (by omega),if_neg (by omega),if_pos rfl]
  by_cases e1:q=j
  ·subst e1
   rw[if_pos rfl]
   exact h.asym _ _ hlt
  ·rw[if_neg e1]
   exact h2 q (by omega) q2
theorem Down.stop (h:Swo lt) {l:List α} {a i j:Nat} (hd:Down lt l a i j) (hs:j=a∨lt (at_ l j) (at_ l (j-1))=false) (haj:a≤j):Seg lt l a (i+1):=by
 obtain⟨h1,h2⟩:=hd
 intro p q p1 p2 p3
 by_cases e1:p=j
 ·subst e1;exact h2 q p2 (by omega)
 ·by_cases e2:q=j
  ·subst e2
   rcases hs with hs|hs
   ·omega
   ·by_cases e3:p=q-1
    ·subst e3;exact hs
    ·exact h.ntrans _ _ _ hs (h1 p (q-1) p1 (by omega) (by omega) (by omega) (by omega))
  ·exact h1 p q p1 p2 (by omega) e1 e2
theorem seg_sd {l:List α} (h:Seg lt l 0 l.length):Sd lt false l:=by
 unfold Sd
 rw[List.pairwise_iff_getElem]
 intro i j hi hj hij
 have:=h i j (by omega) hij hj
 simpa[at_,List.getD_eq_getElem?_getD,hi,hj] using this
end Go.Srt
namespace Go.Proofs.YtammjnjpheobaaaGreat
open Go.SL Go.Spc Go.Tup Go.Srt
instance:Inhabited T5:=⟨⟨0,0,0,0,0⟩⟩
def oCells (o:T5):List Value:=[.int .i64 o.c0,.int .i64 o.c1,.int .i64 o.c2,.int .i64 o.c3,.int .i64 o.c4]
def runCells (bb k n:Nat) (o:T5):List Value:=[pv bb,.int .i64 (k:Int),.int .i64 (n:Int),.int .i64 o.c0,.int .i64 o.c1,.int .i64 o.c2,.int .i64 o.c3,.int .i64 o.c4]
def RunH (bx:Nat) (g:Gr) (k:Nat) (o:T5) (ts:List T5) (rest:List Int):Hp:=
 [[(bx,row (runCells g.bb k ts.length o) 211)],[g.obj],[(g.br,row (wcells (words k ts++rest)) 158)]]
def T5.setCol (t:T5) (c:Nat) (v:Int):T5:=
 match c with
 |0=>{t with c0:=v}
 |1=>{t with c1:=v}
 |2=>{t with c2:=v}
 |3=>{t with c3:=v}
 |4=>{t with c4:=v}
 |_=>t
theorem setCol_list (t:T5) (c:Nat) (v:Int) (h:c<5):(T5.setCol t c v).toList=t.toList.set c v:=by
 match c,h with
 |0,_=>rfl
 |1,_=>rfl
 |2,_=>rfl
 |3,_=>rfl
 |4,_=>rfl
theorem tw_set (t:T5) (k c:Nat) (v:Int) (h:c<k) (hk:k≤5):tw k (T5.setCol t c v)=(tw k t).set c (wd v):=by
 unfold tw
 rw[setCol_list t c v (by omega),List.take_set,List.map_set]
theorem words_set (k c:Nat) (v:Int) (hc:c<k) (hk:k≤5):∀(ts:List T5) (i:Nat),i<ts.length→(words k ts).set (i*k+c) (wd v)=words k (ts.set i (T5.setCol (at_ ts i) c v))
 |[],_,h=>by simp at h
 |t::ts,0,_=>by
  simp only[words,List.flatMap_cons,Nat.zero_mul,Nat.zero_add,List.set_cons_zero]
  rw[List.set_append_left _ _ (by rw[tw_length t hk];exact hc)]
  show _=tw k (T5.setCol t c v)++_
  rw[tw_set t k c v hc hk]
 |t::ts,i+1,h=>by
  have ih:=words_set k c v hc hk ts i (by simpa using h)
  simp only[words,List.flatMap_cons,List.set_cons_succ] at ih⊢
  rw[List.set_append_right _ _ (by rw[tw_length t hk,Nat.succ_mul];omega),tw_length t hk,show(i+1)*k+c-k=i*k+c by rw[Nat.succ_mul];omega,ih]
  rfl
theorem wordsk_get (k c:Nat) (hc:c<k) (hk:k≤5):∀(ts:List T5) (i:Nat),i<ts.length→(words k ts)[i*k+c]? =some (wd ((at_ ts i).col c))
 |[],_,h=>by simp at h
 |t::ts,0,_=>by
  simp only[words,List.flatMap_cons,Nat.zero_mul,Nat.zero_add]
  rw[List.getElem?_append_left (by rw[tw_length t hk];exact hc),tw_get t k c hc hk]
  rfl
 |t::ts,i+1,h=>by
  have ih:=wordsk_get k c hc hk ts i (by simpa using h)
  simp only[words,List.flatMap_cons] at ih⊢
  rw[List.getElem?_append_right (by rw[tw_length t hk,Nat.succ_mul];omega),tw_length t hk,show(i+1)*k+c-k=i*k+c by rw[Nat.succ_mul];omega,ih]
  rfl
theorem idx_lt {i n k c:Nat} (hi:i<n) (hc:c<k):i*k+c<n*k:=by
 have:(i+1)*k≤n*k:=Nat.mul_le_mul_right _ hi
 rw[Nat.succ_mul] at this;omega
theorem rw_get {k c:Nat} (hc:c<k) (hk:k≤5) {ts:List T5} {i:Nat} (hi:i<ts.length) {rest:List Int}:(wcells (words k ts++rest))[i*k+c]? =some (.int .u64 (wd ((at_ ts i).col c))):=by
 unfold wcells
 rw[List.getElem?_map,List.getElem?_append_left (by rw[words_length hk];exact idx_lt hi hc),wordsk_get k c hc hk ts i hi]
 rfl
theorem rw_set {k c:Nat} (hc:c<k) (hk:k≤5) {ts:List T5} {i:Nat} (hi:i<ts.length) {rest:List Int} (v:Int):(wcells (words k ts++rest)).set (i*k+c) (.int .u64 (wd v))=wcells (words k (ts.set i (T5.setCol (at_ ts i) c v))++rest):=by
 rw[wcells_set,List.set_append_left _ _ (by rw[words_length hk];exact idx_lt hi hc),words_set k c v hc hk ts i hi]
theorem At_ct (bx:Nat) (g:Gr) (k:Nat) (o:T5) (ts:List T5) (rest:List Int) (h1:1≤k) (h2:k≤5) (hg:g.n≤1000000000) (hgn:ts.length*k≤g.n) (hok:∀t∈ts,okT k t) (i:Nat) (hi:i<ts.length):
  CtQ Tryz.prog 182 [pv bx,.int .i64 (i:Int)] (RunH bx g k o ts rest) (tv (at_ ts i)):=by
 have hm:at_ ts i∈ts:=by
  unfold at_;rw[List.getD_eq_getElem?_getD,List.getElem?_eq_getElem hi];exact List.getElem_mem hi
 have hokt:=hok _ hm
 have hback:∀c,c<k→IntKind.wrap .i64 (wd ((at_ ts i).col c))=(at_ ts i).col c:=fun c hc=>wrap_back (okT_col hokt c (by omega))
 have htz:=tpart_zero (at_ ts i)
 have htp:=tpart_length (at_ ts i)
 have htset:=tpart_set (at_ ts i)
 have htall:=tpart_all (at_ ts i) k h2 hokt
 have hik:i*k≤ts.length*k:=Nat.mul_le_mul_right _ (by omega)
 have hmul:IntKind.wrap .i64 ((i:Int)*(k:Int))=((i*k:Nat):Int):=by rw[←Int.natCast_mul];exact wrap_i64 (by omega)
 have hget:∀c,c<k→(wcells (words k ts++rest))[i*k+c]? =some (.int .u64 (wd ((at_ ts i).col c))):=fun c hc=>rw_get hc h2 hi
 have hidx:∀c,c<k→i*k+c<ts.length*k:=fun c hc=>idx_lt hi hc
 generalize hcells:wcells (words k ts++rest)=cells at*
 generalize at_ ts i=t at*
 generalize hn:ts.length=n at*
 unfold RunH runCells Gr.obj
 rw[hcells,hn]
 generalize hik2:i*k=ik at*
 refine Ct.intro Tryz.func182 rfl Tryz.ntmps182 (nle rfl) fun w0=> ?_;dsimp only[argSlots,Nat.reduceAdd]
 repeat(first|(refine st ?_;intros)|refine G.draw [] (h:= ?_))
 rename_i b4 b5
 refine G.loop (X:=Nat) (fun c=>c≤k) (fun c=>[(11,.int .i64 (c:Int)),(10,.int .i64 (k:Int)),(0,pv bx),(1,.int .i64 (i:Int)),(5,.pointer (some ⟨b5,0,none⟩)),(4,.pointer (some ⟨b4,0,none⟩))])
  (fun c=>[[(b4,row (tpart t 0) 49)],[(b5,row (tpart t c) 49)],[(bx,row [pv g.bb,.int .i64 (k:Int),.int .i64 (n:Int),.int .i64 o.c0,.int .i64 o.c1,.int .i64 o.c2,.int .i64 o.c3,.int .i64 o.c4] 211)],[(g.bb,row [.slice (some ⟨g.br,0,none⟩) g.n g.n] 161)],[(g.br,row cells 158)]])
  (fun c=>k-c) 0 (by omega) (body:= ?_)
 intro c hc
 by_cases hck:c<k
 ·have hgi:=hget c hck
  have hbi:=hback c hck
  have hti:=htset c (by omega)
  have htl:=htp c (by omega)
  have hid:=hidx c hck
  have hai:((ik:Int)+(c:Int)).toNat=ik+c:=by omega
  repeat(first|(refine st ?_;intros)|refine G.draw [] (h:= ?_))
  exact Dn.round (c+1) (by omega) (by omega)
 ·have hki:k=c:=by omega
  subst hki
  rw[htall,htz]
  unfold tcells
  repeat(first|(refine st ?_;intros)|refine G.draw [] (h:= ?_))
  (refine Dn.post (Hr:=[[(bx,row [pv g.bb,.int .i64 (k:Int),.int .i64 (n:Int),.int .i64 o.c0,.int .i64 o.c1,.int .i64 o.c2,.int .i64 o.c3,.int .i64 o.c4] 211)],[(g.bb,row [.slice (some ⟨g.br,0,none⟩) g.n g.n] 161)],[(g.br,row cells 158)]]) Tryz.results182 (hR:= ?_);exact⟨rfl,rfl⟩)
theorem RLen_ct (bx:Nat) (g:Gr) (k:Nat) (o:T5) (ts:List T5) (rest:List Int):CtQ Tryz.prog 220 [pv bx] (RunH bx g k o ts rest) (.int .i64 (ts.length:Int)):=by
 unfold RunH runCells
 refine Ct.intro Tryz.func220 rfl Tryz.ntmps220 (nle rfl) fun w0=> ?_;dsimp only[argSlots,Nat.reduceAdd]
 repeat(refine st ?_;intros)
 (refine Dn.post (Hr:=[[(bx,row [pv g.bb,.int .i64 (k:Int),.int .i64 (ts.length:Int),.int .i64 o.c0,.int .i64 o.c1,.int .i64 o.c2,.int .i64 o.c3,.int .i64 o.c4] 211)],[g.obj],[(g.br,row (wcells (words k ts++rest)) 158)]]) Tryz.results220 (hR:= ?_);exact⟨rfl,rfl⟩)
def ltO (o:T5) (a b:T5):Bool:=decide (cmpT o a b<0)
theorem ltO_swo (o:T5):Swo (ltO o) where
 asym:=fun a b h=>by
  simp only[ltO,decide_eq_true_eq,decide_eq_false_iff_not] at*
  have:=cmpT_swap o a b;omega
 ntrans:=fun a b c h1 h2=>by
  simp only[ltO,decide_eq_false_iff_not] at*
  have e1:=cmpT_swap o a b
  have e2:=cmpT_swap o b c
  have e3:=cmpT_swap o a c
  have:=cmpT_trans o c b a (by omega) (by omega)
  omega
theorem RLess_ct (bx:Nat) (g:Gr) (k:Nat) (o:T5) (ts:List T5) (rest:List Int) (h1:1≤k) (h2:k≤5) (hg:g.n≤1000000000) (hgn:ts.length*k≤g.n) (hok:∀t∈ts,okT k t) (i j:Nat) (hi:i<ts.length) (hj:j<ts.length):
  CtQ Tryz.prog 221 [pv bx,.int .i64 (i:Int),.int .i64 (j:Int)] (RunH bx g k o ts rest) (.bool (ltO o (at_ ts i) (at_ ts j))):=by
 have hA:=At_ct bx g k o ts rest h1 h2 hg hgn hok i hi
 have hB:=At_ct bx g k o ts rest h1 h2 hg hgn hok j hj
 have hC:CtQ Tryz.prog 193 [tv (at_ ts i),tv (at_ ts j),.agg (oCells o).toArray] [] (.int .i64 (cmpT o (at_ ts i) (at_ ts j))):=Compare_ct _ _ _ _ _ _ _ _ _ _ _ _ _ _ _
 generalize tv (at_ ts i)=va at*
 generalize tv (at_ ts j)=vb at*
 have hlt:ltO o (at_ ts i) (at_ ts j)=dec (cmpT o (at_ ts i) (at_ ts j)<0):=by rw[dec_eq];rfl
 rw[hlt]
 generalize cmpT o (at_ ts i) (at_ ts j)=c at*
 unfold RunH runCells at*
 unfold oCells at hC
 refine Ct.intro Tryz.func221 rfl Tryz.ntmps221 (nle rfl) fun w0=> ?_;dsimp only[argSlots,Nat.reduceAdd]
 repeat(first|(refine st ?_;intros)|refine G.draw (id:=1) [(2,.quiet),(5,.quiet),(10,.quiet)] (h:= ?_)|(refine cq hA ?_)|(refine cq hB ?_)|(refine cq hC ?_))
 (refine Dn.post (Hr:=[[(bx,row [pv g.bb,.int .i64 (k:Int),.int .i64 (ts.length:Int),.int .i64 o.c0,.int .i64 o.c1,.int .i64 o.c2,.int .i64 o.c3,.int .i64 o.c4] 211)],[g.obj],[(g.br,row (wcells (words k ts++rest)) 158)]]) Tryz.results221 (hR:= ?_);exact⟨rfl,rfl⟩)
def mix (c:Nat) (a b:T5):T5:=⟨if 0<c then a.c0 else b.c0,if 1<c then a.c1 else b.c1,if 2<c then a.c2 else b.c2,if 3<c then a.c3 else b.c3,if 4<c then a.c4 else b.c4⟩
theorem mix_zero (a b:T5):mix 0 a b=b:=rfl
theorem mix_succ (c:Nat) (a b:T5) (h:c<5):T5.setCol (mix c a b) c (a.col c)=mix (c+1) a b:=by
 match c,h with
 |0,_=>rfl
 |1,_=>rfl
 |2,_=>rfl
 |3,_=>rfl
 |4,_=>rfl
theorem mix_col (c:Nat) (a b:T5) (h:c<5):(mix c a b).col c=b.col c:=by
 match c,h with
 |0,_=>rfl
 |1,_=>rfl
 |2,_=>rfl
 |3,_=>rfl
 |4,_=>rfl
theorem mix_all (k:Nat) (a b:T5) (h:k≤5) (ha:∀i,k≤i→a.col i=0) (hb:∀i,k≤i→b.col i=0):mix k a b=a:=by
 have a0:=ha 0;have a1:=ha 1;have a2:=ha 2;have a3:=ha 3;have a4:=ha 4
 have b0:=hb 0;have b1:=hb 1;have b2:=hb 2;have b3:=hb 3;have b4:=hb 4
 obtain⟨x0,x1,x2,x3,x4⟩:=a
 obtain⟨y0,y1,y2,y3,y4⟩:=b
 simp only[T5.col] at*
 match k,h with
 |0,_=>simp_all [mix]
 |1,_=>simp_all [mix]
 |2,_=>simp_all [mix]
 |3,_=>simp_all [mix]
 |4,_=>simp_all [mix]
 |5,_=>simp[mix]
theorem at_set (ts:List T5) (i j:Nat) (t:T5) (hi:i<ts.length):at_ (ts.set i t) j=if j=i then t else at_ ts j:=by
 unfold at_
 simp only[List.getD_eq_getElem?_getD,List.getElem?_set]
 by_cases h:i=j
 ·subst h;simp[hi]
 ·rw[if_neg h,if_neg (fun e=>h e.symm)]
def swc (ts:List T5) (i j c:Nat):List T5:=(ts.set i (mix c (at_ ts j) (at_ ts i))).set j (mix c (at_ ts i) (at_ ts j))
theorem RSwap_ct (bx:Nat) (g:Gr) (k:Nat) (o:T5) (ts:List T5) (rest:List Int) (h1:1≤k) (h2:k≤5) (hg:g.n≤1000000000) (hgn:ts.length*k≤g.n) (hok:∀t∈ts,okT k t) (i j:Nat) (hi:i<ts.length) (hj:j<ts.length) (hij:i≠j):
  Ct Tryz.prog 222 [pv bx,.int .i64 (i:Int),.int .i64 (j:Int)] (RunH bx g k o ts rest) fun v H'=>v= .tuple #[]∧H'=RunH bx g k o (sw ts i j) rest:=by
 have hik:i*k≤ts.length*k:=Nat.mul_le_mul_right _ (by omega)
 have hjk:j*k≤ts.length*k:=Nat.mul_le_mul_right _ (by omega)
 have hmi:IntKind.wrap .i64 ((i:Int)*(k:Int))=((i*k:Nat):Int):=by rw[←Int.natCast_mul];exact wrap_i64 (by omega)
 have hmj:IntKind.wrap .i64 ((j:Int)*(k:Int))=((j*k:Nat):Int):=by rw[←Int.natCast_mul];exact wrap_i64 (by omega)
 have hmem:∀q,q<ts.length→at_ ts q∈ts:=fun q hq=>by
  unfold at_;rw[List.getD_eq_getElem?_getD,List.getElem?_eq_getElem hq];exact List.getElem_mem hq
 have hend:swc ts i j k=sw ts i j:=by
  unfold swc sw
  rw[mix_all k _ _ h2 (hok _ (hmem j hj)).2 (hok _ (hmem i hi)).2,mix_all k _ _ h2 (hok _ (hmem i hi)).2 (hok _ (hmem j hj)).2]
 have hbeg:swc ts i j 0=ts:=by
  unfold swc
  rw[mix_zero,mix_zero]
  apply ext_at
  ·simp
  ·intro q
   rw[at_set _ _ _ _ (by simpa using hj),at_set _ _ _ _ hi]
   split
   ·rename_i e;rw[e]
   ·split
    ·rename_i e;rw[e]
    ·rfl
 have hlen:∀c,(swc ts i j c).length=ts.length:=fun c=>by simp[swc]
 have hati:∀c,at_ (swc ts i j c) i=mix c (at_ ts j) (at_ ts i):=fun c=>by
  unfold swc;rw[at_set _ _ _ _ (by simpa using hj),if_neg hij,at_set _ _ _ _ hi,if_pos rfl]
 have hatj:∀c,at_ (swc ts i j c) j=mix c (at_ ts i) (at_ ts j):=fun c=>by
  unfold swc;rw[at_set _ _ _ _ (by simpa using hj),if_pos rfl]
 have hgi:∀c,c<k→(wcells (words k (swc ts i j c)++rest))[i*k+c]? =some (.int .u64 (wd ((at_ ts i).col c))):=fun c hc=>by
  rw[rw_get hc h2 (by rw[hlen];exact hi),hati,mix_col _ _ _ (by omega)]
 have hgj:∀c,c<k→(wcells (words k (swc ts i j c)++rest))[j*k+c]? =some (.int .u64 (wd ((at_ ts j).col c))):=fun c hc=>by
  rw[rw_get hc h2 (by rw[hlen];exact hj),hatj,mix_col _ _ _ (by omega)]
 obtain⟨M,hM⟩:∃M:Nat→List Value,∀c,c<k→(wcells (words k (swc ts i j c)++rest)).set (i*k+c) (.int .u64 (wd ((at_ ts j).col c)))=M c∧(M c).set (j*k+c) (.int .u64 (wd ((at_ ts i).col c)))=wcells (words k (swc ts i j (c+1))++rest):=by
  refine⟨fun c=>(wcells (words k (swc ts i j c)++rest)).set (i*k+c) (.int .u64 (wd ((at_ ts j).col c))),fun c hc=>⟨rfl,?_⟩⟩
  dsimp only
  rw[rw_set hc h2 (by rw[hlen];exact hi),rw_set hc h2 (by simp[hlen];exact hj)]
  congr 2
  congr 1
  rw[at_set _ _ _ _ (by rw[hlen];exact hi),if_neg (fun e=>hij e.symm),hati,hatj,mix_succ _ _ _ (by omega),mix_succ _ _ _ (by omega)]
  have e:∀(l:List T5) (A B A' B':T5),(((l.set i A).set j B).set i A').set j B'=(l.set i A').set j B':=fun l A B A' B'=>by
   rw[List.set_comm (l:=l.set i A) B A' (fun e=>hij e.symm),List.set_set,List.set_set]
  exact e ts _ _ _ _
 have hcl:∀c,(wcells (words k (swc ts i j c)++rest)).length=ts.length*k+rest.length:=fun c=>by
  rw[wcells_length,List.length_append,words_length h2,hlen]
 have hMl:∀c,c<k→(M c).length=ts.length*k+rest.length:=fun c hc=>by rw[←(hM c hc).1,List.length_set,hcl]
 have hidi:∀c,c<k→i*k+c<ts.length*k:=fun c hc=>idx_lt hi hc
 have hidj:∀c,c<k→j*k+c<ts.length*k:=fun c hc=>idx_lt hj hc
 have hH0:RunH bx g k o ts rest=RunH bx g k o (swc ts i j 0) rest:=by rw[hbeg]
 have hH1:RunH bx g k o (sw ts i j) rest=RunH bx g k o (swc ts i j k) rest:=by rw[hend]
 rw[hH0,hH1]
 unfold RunH runCells Gr.obj
 simp only[hlen]
 generalize hC:(fun c=>wcells (words k (swc ts i j c)++rest))=C at*
 have hCe:∀c,wcells (words k (swc ts i j c)++rest)=C c:=fun c=>by rw[←hC]
 simp only[hCe] at*
 generalize i*k=ik at*
 generalize j*k=jk at*
 generalize hn:ts.length=n at*
 refine Ct.intro Tryz.func222 rfl Tryz.ntmps222 (nle rfl) fun w0=> ?_;dsimp only[argSlots,Nat.reduceAdd]
 repeat(first|(refine st ?_;intros)|refine G.draw [] (h:= ?_))
 refine G.loop (X:=Nat) (fun c=>c≤k) (fun c=>[(13,.int .i64 (c:Int)),(12,.int .i64 (k:Int)),(0,pv bx),(1,.int .i64 (i:Int)),(2,.int .i64 (j:Int))])
  (fun c=>[[(bx,row [pv g.bb,.int .i64 (k:Int),.int .i64 (n:Int),.int .i64 o.c0,.int .i64 o.c1,.int .i64 o.c2,.int .i64 o.c3,.int .i64 o.c4] 211)],[(g.bb,row [.slice (some ⟨g.br,0,none⟩) g.n g.n] 161)],[(g.br,row (C c) 158)]])
  (fun c=>k-c) 0 (by omega) (body:= ?_)
 intro c hc
 by_cases hck:c<k
 ·have h3:=hgi c hck
  have h4:=hgj c hck
  obtain⟨h5,h6⟩:=hM c hck
  have h7:=hMl c hck
  have h8:=hcl c
  have h9:=hidi c hck
  have h10:=hidj c hck
  have e1:((ik:Int)+(c:Int)).toNat=ik+c:=by omega
  have e2:((jk:Int)+(c:Int)).toNat=jk+c:=by omega
  repeat(first|(refine st ?_;intros)|refine G.draw [] (h:= ?_))
  exact Dn.round (c+1) (by omega) (by omega)
 ·have hki:k=c:=by omega
  subst hki
  repeat(first|(refine st ?_;intros)|refine G.draw [] (h:= ?_))
  (refine Dn.postEnd (Hr:=[[(bx,row [pv g.bb,.int .i64 (k:Int),.int .i64 (n:Int),.int .i64 o.c0,.int .i64 o.c1,.int .i64 o.c2,.int .i64 o.c3,.int .i64 o.c4] 211)],[(g.bb,row [.slice (some ⟨g.br,0,none⟩) g.n g.n] 161)],[(g.br,row (C k) 158)]]) Tryz.results222 (hR:= ?_);exact⟨rfl,rfl⟩)
instance:Meth Tryz.prog 209 "Less" 221:=Meth.of (by kernel_rfl)
instance:Meth Tryz.prog 209 "Swap" 222:=Meth.of (by kernel_rfl)
instance:Meth Tryz.prog 209 "Len" 220:=Meth.of (by kernel_rfl)
abbrev runV (bx:Nat):Value:= .iface 209 (pv bx)
structure TsOk (g:Gr) (k n:Nat) (ts:List T5):Prop where
 k1:1≤k
 k5:k≤5
 gn:g.n≤1000000000
 fit:n*k≤g.n
 len:ts.length=n
 ok:∀t∈ts,okT k t
theorem sw_mem {ts:List T5} {i j:Nat} (hi:i<ts.length) (hj:j<ts.length) {t:T5} (h:t∈sw ts i j):t∈ts:=by
 have hm:∀q,q<ts.length→at_ ts q∈ts:=fun q hq=>by
  unfold at_;rw[List.getD_eq_getElem?_getD,List.getElem?_eq_getElem hq];exact List.getElem_mem hq
 unfold sw at h
 rcases List.mem_or_eq_of_mem_set h with h|h
 ·rcases List.mem_or_eq_of_mem_set h with h|h
  ·exact h
  ·rw[h];exact hm j hj
 ·rw[h];exact hm i hi
theorem TsOk.sw {g:Gr} {k n:Nat} {ts:List T5} (h:TsOk g k n ts) {i j:Nat} (hi:i<n) (hj:j<n):TsOk g k n (sw ts i j):=
 {h with len:=(by rw[sw_length];exact h.len),ok:=fun t ht=>h.ok t (sw_mem (by rw[h.len];exact hi) (by rw[h.len];exact hj) ht)}
theorem TsOk.n_le {g:Gr} {k n:Nat} {ts:List T5} (h:TsOk g k n ts):n≤1000000000:=Nat.le_trans (Nat.le_mul_of_pos_right n h.k1) (Nat.le_trans h.fit h.gn)
theorem less_of {g:Gr} {k n:Nat} {ts:List T5} (h:TsOk g k n ts) (bx:Nat) (o:T5) (rest:List Int) (i j:Nat) (hi:i<n) (hj:j<n):
  CtQ Tryz.prog 221 [pv bx,.int .i64 (i:Int),.int .i64 (j:Int)] (RunH bx g k o ts rest) (.bool (ltO o (at_ ts i) (at_ ts j))):=
 RLess_ct bx g k o ts rest h.k1 h.k5 h.gn (by rw[h.len];exact h.fit) h.ok i j (by rw[h.len];exact hi) (by rw[h.len];exact hj)
theorem swap_of {g:Gr} {k n:Nat} {ts:List T5} (h:TsOk g k n ts) (bx:Nat) (o:T5) (rest:List Int) (i j:Nat) (hi:i<n) (hj:j<n) (hij:i≠j):
  Ct Tryz.prog 222 [pv bx,.int .i64 (i:Int),.int .i64 (j:Int)] (RunH bx g k o ts rest) fun v H'=>v= .tuple #[]∧H'=RunH bx g k o (sw ts i j) rest:=
 RSwap_ct bx g k o ts rest h.k1 h.k5 h.gn (by rw[h.len];exact h.fit) h.ok i j (by rw[h.len];exact hi) (by rw[h.len];exact hj) hij
theorem Seg.mono {α:Type} [Inhabited α] {lt:α→α→Bool} {l:List α} {a b c d:Nat} (h:Seg lt l a b) (h1:a≤c) (h2:d≤b):Seg lt l c d:=fun i j i1 i2 i3=>h i j (by omega) i2 (by omega)
section
variable (bx:Nat) (g:Gr) (k n:Nat) (o:T5) (rest:List Int)
theorem swapRange_ct (ts:List T5) (h:TsOk g k n ts) (a b m:Nat) (hab:a+m≤b) (hb:b+m≤n):
  Ct Tryz.prog 202 [runV bx,.int .i64 (a:Int),.int .i64 (b:Int),.int .i64 (m:Int)] (RunH bx g k o ts rest) fun v H'=>
   v= .tuple #[]∧∃ts',H'=RunH bx g k o ts' rest∧TsOk g k n ts'∧∀q,at_ ts' q=swrF ts a b m q:=by
 have hnn:=h.n_le
 refine Ct.intro Tryz.func202 rfl Tryz.ntmps202 (nle rfl) fun w0=> ?_;dsimp only[argSlots,Nat.reduceAdd]
 repeat(refine st ?_;intros)
 refine G.loop (X:=Nat×List T5) (fun x=>x.1≤m∧TsOk g k n x.2∧∀q,at_ x.2 q=swrF ts a b x.1 q) (fun x=>[(8,.int .i64 (x.1:Int)),(0,runV bx),(1,.int .i64 (a:Int)),(2,.int .i64 (b:Int)),(3,.int .i64 (m:Int))])
  (fun x=>RunH bx g k o x.2 rest) (fun x=>m-x.1) (0,ts) ⟨Nat.zero_le _,h,fun q=>by unfold swrF;rw[if_neg (by omega),if_neg (by omega)]⟩ (body:= ?_)
 rintro⟨i,us⟩ ⟨hi,hok,hq⟩
 dsimp only at hi hok hq⊢
 by_cases him:i<m
 ·have hS:=swap_of hok bx o rest (a+i) (b+i) (by omega) (by omega) (by omega)
  have e1:IntKind.wrap .i64 ((a:Int)+(i:Int))=((a+i:Nat):Int):=by rw[←Int.natCast_add];exact wrap_i64 (by omega)
  have e2:IntKind.wrap .i64 ((b:Int)+(i:Int))=((b+i:Nat):Int):=by rw[←Int.natCast_add];exact wrap_i64 (by omega)
  repeat(refine st ?_;intros)
  refine R.invoke (hct:=hS) (h:= ?_)
  rintro _ _ ⟨rfl,rfl⟩
  try dsimp only[List.cons_append,List.nil_append]
  repeat(refine st ?_;intros)
  exact Dn.round (i+1,sw us (a+i) (b+i)) ⟨him,hok.sw (by omega) (by omega),swr_step hab (by rw[h.len];exact hb) (by rw[hok.len,h.len]) hq him⟩ (by dsimp only;omega)
 ·obtain rfl:i=m:=by omega
  repeat(refine st ?_;intros)
  (refine Dn.postEnd (Hr:=RunH bx g k o us rest) Tryz.results202 (hR:= ?_);exact⟨rfl,us,rfl,hok,hq⟩)
theorem rotate_ct (ts:List T5) (h:TsOk g k n ts) (a m b:Nat) (ham:a<m) (hmb:m<b) (hb:b≤n):
  Ct Tryz.prog 200 [runV bx,.int .i64 (a:Int),.int .i64 (m:Int),.int .i64 (b:Int)] (RunH bx g k o ts rest) fun v H'=>
   v= .tuple #[]∧∃ts',H'=RunH bx g k o ts' rest∧TsOk g k n ts'∧∀q,at_ ts' q=rotF ts a m b q:=by
 have hnn:=h.n_le
 have e1:IntKind.wrap .i64 ((m:Int)-(a:Int))=((m-a:Nat):Int):=by rw[wrap_i64 (by omega)];omega
 have e2:IntKind.wrap .i64 ((b:Int)-(m:Int))=((b-m:Nat):Int):=by rw[wrap_i64 (by omega)];omega
 refine Ct.intro Tryz.func200 rfl Tryz.ntmps200 (nle rfl) fun w0=> ?_;dsimp only[argSlots,Nat.reduceAdd]
 repeat(refine st ?_;intros)
 refine G.loop (X:=Nat×Nat×List T5) (fun x=>0<x.1∧x.1≤m∧0<x.2.1∧m+x.2.1≤n∧TsOk g k n x.2.2∧∀q,rotF x.2.2 (m-x.1) m (m+x.2.1) q=rotF ts a m b q)
  (fun x=>[(9,.int .i64 (x.2.1:Int)),(8,.int .i64 (x.1:Int)),(0,runV bx),(2,.int .i64 (m:Int))])
  (fun x=>RunH bx g k o x.2.2 rest) (fun x=>x.1+x.2.1) (m-a,b-m,ts) ⟨by dsimp only;omega,by dsimp only;omega,by dsimp only;omega,by dsimp only;omega,h,fun q=>by dsimp only;rw[show m-(m-a)=a by omega,show m+(b-m)=b by omega]⟩ (body:= ?_)
 rintro⟨i,j,us⟩ ⟨hi0,him,hj0,hjn,hok,hq⟩
 dsimp only at hi0 him hj0 hjn hok hq⊢
 have e3:IntKind.wrap .i64 ((m:Int)-(i:Int))=((m-i:Nat):Int):=by rw[wrap_i64 (by omega)];omega
 by_cases hij:i=j
 ·subst hij
  have hS:=swapRange_ct bx g k n o rest us hok (m-i) m i (by omega) (by omega)
  repeat(refine st ?_;intros)
  refine R.call (hct:=hS) (h:= ?_)
  rintro _ _ ⟨rfl,us',rfl,hok',hq'⟩
  try dsimp only[List.cons_append,List.nil_append]
  repeat(refine st ?_;intros)
  (refine Dn.postEnd (Hr:=RunH bx g k o us' rest) Tryz.results200 (hR:= ?_);exact⟨rfl,us',rfl,hok',fun q=>by rw[←hq];exact rot_last him hq' q⟩)
 ·by_cases hgt:j<i
  ·have hS:=swapRange_ct bx g k n o rest us hok (m-i) m j (by omega) (by omega)
   have e4:IntKind.wrap .i64 ((i:Int)-(j:Int))=((i-j:Nat):Int):=by rw[wrap_i64 (by omega)];omega
   repeat(refine st ?_;intros)
   refine R.call (hct:=hS) (h:= ?_)
   rintro _ _ ⟨rfl,us',rfl,hok',hq'⟩
   try dsimp only[List.cons_append,List.nil_append]
   repeat(refine st ?_;intros)
   exact Dn.round (i-j,j,us') ⟨by omega,by omega,by omega,by omega,hok',fun q=>by rw[←hq];exact rot_stepL him hgt hq' q⟩ (by dsimp only;omega)
  ·have hS:=swapRange_ct bx g k n o rest us hok (m-i) (m+j-i) i (by omega) (by omega)
   have e4:IntKind.wrap .i64 ((j:Int)-(i:Int))=((j-i:Nat):Int):=by rw[wrap_i64 (by omega)];omega
   have e5:IntKind.wrap .i64 ((m:Int)+(j:Int))=((m+j:Nat):Int):=by rw[←Int.natCast_add];exact wrap_i64 (by omega)
   have e6:IntKind.wrap .i64 (((m+j:Nat):Int)-(i:Int))=((m+j-i:Nat):Int):=by rw[wrap_i64 (by omega)];omega
   repeat(refine st ?_;intros)
   refine R.call (hct:=hS) (h:= ?_)
   rintro _ _ ⟨rfl,us',rfl,hok',hq'⟩
   try dsimp only[List.cons_append,List.nil_append]
   repeat(refine st ?_;intros)
   exact Dn.round (i,j-i,us') ⟨by dsimp only;omega,by dsimp only;omega,by dsimp only;omega,by dsimp only;omega,hok',fun q=>by rw[←hq];exact rot_stepR him (by omega) hq' q⟩ (by dsimp only;omega)
def Srt (o:T5) (ts ts':List T5) (a b:Nat):Prop:=Go.Srt.Sp (ltO o) false ts ts'∧Ins ts ts' a b
theorem insSort_ct (ts:List T5) (h:TsOk g k n ts) (a b:Nat) (hab:a≤b) (hb:b≤n):
  Ct Tryz.prog 197 [runV bx,.int .i64 (a:Int),.int .i64 (b:Int)] (RunH bx g k o ts rest) fun v H'=>
   v= .tuple #[]∧∃ts',H'=RunH bx g k o ts' rest∧TsOk g k n ts'∧Srt o ts ts' a b∧Seg (ltO o) ts' a b:=by
 have hnn:=h.n_le
 have hsw:=ltO_swo o
 refine Ct.intro Tryz.func197 rfl Tryz.ntmps197 (nle rfl) fun w0=> ?_;dsimp only[argSlots,Nat.reduceAdd]
 repeat(first|(refine st ?_;intros)|(refine cq hL ?_))
 refine G.loop (X:=Nat×List T5) (fun x=>a<x.1∧(x.1≤b∨x.1=a+1)∧TsOk g k n x.2∧Srt o ts x.2 a b∧Seg (ltO o) x.2 a x.1)
  (fun x=>[(6,.int .i64 (x.1:Int)),(0,runV bx),(1,.int .i64 (a:Int)),(2,.int .i64 (b:Int))])
  (fun x=>RunH bx g k o x.2 rest) (fun x=>b+1-x.1) (a+1,ts) ⟨Nat.lt_succ_self _,.inr rfl,h,⟨Go.Srt.Sp.refl _ _,Ins.refl _ _ _⟩,fun i j i1 i2 i3=>by dsimp only at i3;omega⟩ (body:= ?_)
 rintro⟨i,us⟩ ⟨hai,hib,hok,⟨hsp,hins⟩,hseg⟩
 dsimp only at hai hib hok hsp hins hseg⊢
 by_cases hi:i<b
 ·repeat(first|(refine st ?_;intros)|(refine cq hL ?_))
  refine G.loop (X:=Nat×List T5) (fun x=>a≤x.1∧x.1≤i∧TsOk g k n x.2∧Srt o ts x.2 a b∧Down (ltO o) x.2 a i x.1)
   (fun x=>[(7,.int .i64 (x.1:Int)),(6,.int .i64 (i:Int)),(0,runV bx),(1,.int .i64 (a:Int)),(2,.int .i64 (b:Int))])
   (fun x=>RunH bx g k o x.2 rest) (fun x=>x.1) (i,us) ⟨by dsimp only;omega,Nat.le_refl _,hok,⟨hsp,hins⟩,Down.start hseg⟩ (body:= ?_)
  rintro⟨j,vs⟩ ⟨haj,hji,hok2,⟨hsp2,hins2⟩,hdown⟩
  dsimp only at haj hji hok2 hsp2 hins2 hdown⊢
  by_cases hja:a<j
  ·have hL:=less_of hok2 bx o rest j (j-1) (by omega) (by omega)
   have e1:IntKind.wrap .i64 ((j:Int)-1)=((j-1:Nat):Int):=by rw[wrap_i64 (by omega)];omega
   cases hlt:ltO o (at_ vs j) (at_ vs (j-1)) with
   |true=>
    rw[hlt] at hL
    have hS:=swap_of hok2 bx o rest j (j-1) (by omega) (by omega) (by omega)
    repeat(first|(refine st ?_;intros)|(refine cq hL ?_))
    refine R.invoke (hct:=hS) (h:= ?_)
    rintro _ _ ⟨rfl,rfl⟩
    try dsimp only[List.cons_append,List.nil_append]
    repeat(first|(refine st ?_;intros)|(refine cq hL ?_))
    refine Dn.round (j-1,sw vs j (j-1)) ⟨by omega,by omega,hok2.sw (by omega) (by omega),⟨hsp2.trans (sw_sp hsw (by omega) (by rw[hok2.len];omega) hlt),hins2.trans (sw_ins (by omega) (by omega) (by rw[hok2.len];omega))⟩,hdown.step hsw hja hji (by rw[hok2.len];omega) hlt⟩ (by dsimp only;omega)
   |false=>
    rw[hlt] at hL
    repeat(first|(refine st ?_;intros)|(refine cq hL ?_))
    exact Dn.round (i+1,vs) ⟨by omega,.inl (by omega),hok2,⟨hsp2,hins2⟩,hdown.stop hsw (.inr hlt) haj⟩ (by dsimp only;omega)
  ·repeat(first|(refine st ?_;intros)|(refine cq hL ?_))
   exact Dn.round (i+1,vs) ⟨by omega,.inl (by omega),hok2,⟨hsp2,hins2⟩,hdown.stop hsw (.inl (by omega)) haj⟩ (by dsimp only;omega)
 ·repeat(first|(refine st ?_;intros)|(refine cq hL ?_))
  (refine Dn.postEnd (Hr:=RunH bx g k o us rest) Tryz.results197 (hR:= ?_);exact⟨rfl,us,rfl,hok,⟨hsp,hins⟩,Seg.mono hseg (Nat.le_refl _) (by omega)⟩)
end
end Go.Proofs.YtammjnjpheobaaaGreat
namespace Go.Srt
variable {α:Type} {lt:α→α→Bool} [Inhabited α]
theorem rot_up {l c:List α} {a k:Nat} (hk:a≤k) (hl:k+1<c.length) (h:∀q,at_ c q=rotF l a (a+1) (k+1) q):∀q,at_ (sw c k (k+1)) q=rotF l a (a+1) (k+2) q:=by
 intro q
 rw[sw_at _ _ _ _ (by omega) (by omega)]
 simp only[h,rotF]
 (repeat' split)<;>first|rfl|(exfalso;omega)|(congr 1;omega)
theorem rot_down {l c:List α} {m k:Nat} (hk:0<k) (hkm:k≤m) (hl:m<c.length) (h:∀q,at_ c q=rotF l k m (m+1) q):∀q,at_ (sw c k (k-1)) q=rotF l (k-1) m (m+1) q:=by
 intro q
 rw[sw_at _ _ _ _ (by omega) (by omega)]
 simp only[h,rotF]
 (repeat' split)<;>first|rfl|(exfalso;omega)|(congr 1;omega)
theorem ins1 (h:Swo lt) {l l1:List α} {a m b i:Nat} (hm:m=a+1) (h1:m≤i) (h2:i≤b) (s2:Seg lt l m b) (f1:i=m∨lt (at_ l (i-1)) (at_ l a)=true) (f2:i=b∨lt (at_ l i) (at_ l a)=false)
  (hr:∀q,at_ l1 q=rotF l a m i q):(∀x y,a≤x→x<m→m≤y→y<i→lt (at_ l y) (at_ l x)=true)∧Seg lt l1 a b:=by
 subst hm
 have hC:∀y,a+1≤y→y<i→lt (at_ l y) (at_ l a)=true:=by
  intro y y1 y2
  rcases f1 with f1|f1
  ·omega
  ·cases hlt:lt (at_ l y) (at_ l a) with
   |true=>rfl
   |false=>
    exfalso
    have g1:lt (at_ l (i-1)) (at_ l y)=false:=by
     by_cases hy:y=i-1
     ·subst hy;exact h.irr _
     ·exact s2 _ _ y1 (by omega) (by omega)
    have:=h.ntrans _ _ _ g1 hlt
    rw[f1] at this;cases this
 have hD:∀y,i≤y→y<b→lt (at_ l y) (at_ l a)=false:=by
  intro y y1 y2
  rcases f2 with f2|f2
  ·omega
  ·by_cases hy:y=i
   ·subst hy;exact f2
   ·exact h.ntrans _ _ _ (s2 _ _ h1 (by omega) y2) f2
 refine⟨fun x y x1 x2 y1 y2=>by rw[show x=a by omega];exact hC y y1 y2,?_⟩
 intro p q p1 p2 p3
 rw[hr,hr]
 unfold rotF
 by_cases c1:q<i-1
 ·rw[if_pos (by omega),if_pos (by omega)]
  exact s2 _ _ (by omega) (by omega) (by omega)
 ·by_cases c2:q=i-1
  ·rw[if_neg (by omega),if_pos (by omega),if_pos (by omega)]
   rw[show q-(i-(a+1))=a by omega]
   exact h.asym _ _ (hC _ (by omega) (by omega))
  ·rw[if_neg (by omega),if_neg (by omega)]
   by_cases c3:p<i-1
   ·rw[if_pos (by omega)]
    exact s2 _ _ (by omega) (by omega) (by omega)
   ·by_cases c4:p=i-1
    ·rw[if_neg (by omega),if_pos (by omega),show p-(i-(a+1))=a by omega]
     exact hD _ (by omega) p3
    ·rw[if_neg (by omega),if_neg (by omega)]
     exact s2 _ _ (by omega) (by omega) (by omega)
theorem ins2 (h:Swo lt) {l l1:List α} {a m b i:Nat} (hb:b=m+1) (h1:a≤i) (h2:i≤m) (s1:Seg lt l a m) (f1:i=a∨lt (at_ l m) (at_ l (i-1))=false) (f2:i=m∨lt (at_ l m) (at_ l i)=true)
  (hr:∀q,at_ l1 q=rotF l i m b q):(∀x y,i≤x→x<m→m≤y→y<b→lt (at_ l y) (at_ l x)=true)∧Seg lt l1 a b:=by
 subst hb
 have hC:∀x,i≤x→x<m→lt (at_ l m) (at_ l x)=true:=by
  intro x x1 x2
  rcases f2 with f2|f2
  ·omega
  ·cases hlt:lt (at_ l m) (at_ l x) with
   |true=>rfl
   |false=>
    exfalso
    have g1:lt (at_ l x) (at_ l i)=false:=by
     by_cases hy:x=i
     ·subst hy;exact h.irr _
     ·exact s1 _ _ h1 (by omega) x2
    have:=h.ntrans _ _ _ hlt g1
    rw[f2] at this;cases this
 have hD:∀x,a≤x→x<i→lt (at_ l m) (at_ l x)=false:=by
  intro x x1 x2
  rcases f1 with f1|f1
  ·omega
  ·by_cases hy:x=i-1
   ·subst hy;exact f1
   ·exact h.ntrans _ _ _ f1 (s1 _ _ x1 (by omega) (by omega))
 refine⟨fun x y x1 x2 y1 y2=>by rw[show y=m by omega];exact hC x x1 x2,?_⟩
 intro p q p1 p2 p3
 rw[hr,hr]
 unfold rotF
 by_cases c1:q<i
 ·rw[if_neg (by omega),if_neg (by omega),if_neg (by omega),if_neg (by omega)]
  exact s1 _ _ p1 p2 (by omega)
 ·by_cases c2:q=i
  ·rw[if_pos (by omega),if_neg (by omega),if_neg (by omega),show q+(m-i)=m by omega]
   exact hD _ p1 (by omega)
  ·rw[if_neg (by omega),if_pos (by omega)]
   by_cases c3:p<i
   ·rw[if_neg (by omega),if_neg (by omega)]
    exact s1 _ _ p1 (by omega) (by omega)
   ·by_cases c4:p=i
    ·rw[if_pos (by omega),show p+(m-i)=m by omega]
     exact h.asym _ _ (hC _ (by omega) (by omega))
    ·rw[if_neg (by omega),if_pos (by omega)]
     exact s1 _ _ (by omega) (by omega) (by omega)
end Go.Srt
