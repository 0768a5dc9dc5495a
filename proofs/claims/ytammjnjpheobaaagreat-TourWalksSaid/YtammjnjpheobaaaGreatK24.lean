/-
  Parts of the proof, put together: Comps15, Arcs16, Tour16, TourP, Tours16, ForN. No condition.
-/
import Derived.Test.YtammjnjpheobaaaGreatK23
set_option linter.unusedVariables false
set_option linter.unusedSimpArgs false
set_option linter.unnecessarySimpa false
set_option maxHeartbeats 4000000
namespace Go.Proofs.YtammjnjpheobaaaGreat
open Go.SL Go.Tup Go.Gr
def labT (l:List Int):List T5:=(List.range l.length).map fun (v:Nat)=>⟨(v:Int),l.getD v 0,0,0,0⟩
def forT (sl:List T5) (fl:List Bool):List T5:=(sl.zip fl).filterMap fun x=>if x.2 then some ⟨x.1.c0,x.1.c1,x.1.c2,0,0⟩ else none
def compSpec (N:Nat) (ts a b:List T5):Prop:=∃sl fl lab,sl.Perm ts∧Sn sl∧LabOk (gE (sl.map eOf)) (fun i=>i<sl.length) N (-1) lab∧forestOk (sl.map eOf) fl∧a=labT lab∧b=forT sl fl
theorem labT_take {l:List Int} {v:Nat} {x:Int} (h:l[v]? =some x):(labT l).take (v+1)=(labT l).take v++[⟨(v:Int),x,0,0,0⟩]:=by
 obtain⟨hv,rfl⟩:=List.getElem?_eq_some_iff.1 h
 unfold labT
 rw[List.take_add_one,List.getElem?_map,List.getElem?_range hv]
 simp[hv]
theorem forT_take {sl:List T5} {fl:List Bool} {i:Nat} {t:T5} {b:Bool} (h1:sl[i]? =some t) (h2:fl[i]? =some b):
  forT (sl.take (i+1)) (fl.take (i+1))=forT (sl.take i) (fl.take i)++(if b then[⟨t.c0,t.c1,t.c2,0,0⟩] else[]):=by
 obtain⟨ha,rfl⟩:=List.getElem?_eq_some_iff.1 h1
 obtain⟨hb,rfl⟩:=List.getElem?_eq_some_iff.1 h2
 unfold forT
 rw[List.take_add_one,List.take_add_one,List.getElem?_eq_getElem ha,List.getElem?_eq_getElem hb,List.zip_append (by simp;omega),List.filterMap_append]
 congr 1
 simp only[Option.toList_some,List.zip_cons_cons,List.zip_nil_left,List.filterMap_cons,List.filterMap_nil]
 cases fl[i]<;>rfl
theorem flat_append (a b:List T5):flat (a++b)=flat a++flat b:=by rw[flat_fm,flat_fm,flat_fm,List.flatMap_append]
structure CoX where
 i:Nat
 p:Option Addr
 k:Nat
 cap:Nat
 ch:Chunk
theorem Comp15ct (N:Nat) (hN:N≤1000000) (p:Option Addr) (m cap:Nat) (ts:List T5) (c:Chunk) (hv:RV p m ts c) (hm:m≤1000000) (ho:edgesOk N ts):
  Ct Tryz.prog 56 [.int .i64 (N:Int),.slice p m cap] [c] fun v H'=>∃pa na ka ca pb nb kb cb a b,v= .tuple #[.slice pa na ka,.slice pb nb kb,.bool true]∧H'=[c,ca,cb]∧RV pa na a ca∧RV pb nb b cb∧nb≤m∧compSpec N ts a b:=by
 have hE:=Edges15ct N (by omega) p m cap ts c hv hm
 rw[dec_true ho] at hE
 have hG:=Graph15ct N p m cap ts c hv hm
 refine Ct.intro Tryz.func56 rfl Tryz.ntmps56 (nle rfl) fun w0=> ?_;dsimp only[argSlots,Nat.reduceAdd]
 repeat(first|(refine st ?_;intros)|refine G.draw [] (h:= ?_)|(refine cq hE ?_))
 refine R.call (hct:=hG) (h:= ?_)
 rintro _ _ ⟨sl,pe,ce,he,pn,cn,hn,rfl,rfl,hVe,hVn,hp,hs⟩
 try dsimp only[List.cons_append,List.nil_append]
 have hsl:sl.length=m:=hp.length_eq.trans hv.1
 have hR:Rw ecl 2 pe m (sl.map eOf) he:=Rw.ofVec ecl_len hVe (by omega)
 have hin:∀e∈sl.map eOf,inE N e:=by
  intro e he
  obtain⟨t,ht,rfl⟩:=List.mem_map.1 he
  obtain⟨_,h1,h2,h3,h4⟩:=ho.1 t (hp.mem_iff.1 ht)
  exact⟨h1,h3,h2,h4⟩
 have hLb:=Labels_ct N hN pe m ce (sl.map eOf) he hR hm hin none 0 0 [] [] ⟨rfl,.inl ⟨rfl,rfl⟩⟩ (by omega) (-1)
 have hFo:=Forest15ct N hN pe m ce (sl.map eOf) he hR hm hin
 unfold gv at hLb hFo⊢
 repeat(first|(refine st ?_;intros)|refine G.draw [] (h:= ?_)|(refine cq hE ?_))
 refine R.call (hct:=hLb) (h:= ?_)
 rintro _ _ ⟨bl,lab,rfl,rfl,hL⟩
 try dsimp only[List.cons_append,List.nil_append]
 repeat(first|(refine st ?_;intros)|refine G.draw [] (h:= ?_)|(refine cq hE ?_))
 rename_i b7
 have hLl:=hL.len
 have hL2:LabOk (gE (sl.map eOf)) (fun i=>i<sl.length) N (-1) lab:=by
  have hact:∀i,actE (sl.map eOf) [] (-1) i↔i<sl.length:=fun i=>by
   constructor
   ·rintro⟨e,h1,_⟩
    have:=(List.getElem?_eq_some_iff.1 h1).1
    rwa[List.length_map] at this
   ·intro hi
    have h1:(sl.map eOf)[i]? =some (eOf sl[i]):=by simp[hi]
    have h2:=hin _ (List.mem_of_getElem? h1)
    unfold inE at h2
    exact⟨_,h1,by omega,by omega,by simp⟩
  refine⟨hL.len,fun v hv hvw=> ?_,hL.out⟩
  obtain⟨x,a1,a2,a3,a4⟩:=hL.at_ v hv hvw
  exact⟨x,a1,(Cn.congr hact).1 a2,a3,fun u hu=>a4 u ((Cn.congr hact).2 hu)⟩
 have hmx:∀x:Nat,x≤1000000→x+1≤maxLen:=fun x hx=>by simp only[maxLen];omega
 refine G.loop (X:=CoX) (fun x=>x.i≤N∧Vec 49 5 x.p x.i x.cap (flat ((labT lab).take x.i)) x.ch)
  (fun x=>[(12,.int .i64 (x.i:Int)),(11,.slice (some ⟨bl,0,none⟩) N N),(10,.slice none 0 0),(9,.slice x.p x.i x.cap),(8,.slice pn m cn),(7,pv b7),(0,.int .i64 (N:Int))])
  (fun x=>[[(b7,row [.int .i64 (N:Int),.slice pe m ce] 37)],[(bl,row (rcells lab) 3)],c,he,hn,x.ch]) (fun x=>N-x.i) ⟨0,none,0,0,[]⟩ ⟨Nat.zero_le _,Vec.nil _ _⟩ (by repeat(first|exact trivial|refine⟨rfl,?_⟩)) (by repeat(first|exact Split.nil|(apply Split.cons;·(first|exact Take.nil|(repeat(first|exact Take.here|apply Take.there)))))) ?_
 rintro⟨i,p1,_,c1,ch⟩ ⟨hi,hV⟩
 dsimp only at hi hV⊢
 by_cases hlt:i<N
 ·obtain⟨x,hx⟩:∃x,lab[i]? =some x:=⟨lab[i]'(by omega),List.getElem?_eq_getElem (by omega)⟩
  have hcx:=rcells_get hx
  have hm1:=hmx i (by omega)
  repeat(first|(refine st ?_;intros)|refine G.draw [] (h:= ?_)|(refine cq hE ?_))
  rename_i p' cap' ch' hV'
  refine Dn.round ⟨i+1,p',0,cap',ch'⟩ ⟨hlt,by rw[labT_take hx,flat_append];exact hV'⟩ (by dsimp only;omega)
 obtain rfl:i=N:=by omega
 have hla:(labT lab).length=i:=by simp[labT,hLl]
 rw[List.take_of_length_le (by omega)] at hV
 clear hlt
 repeat(first|(refine st ?_;intros)|refine G.draw [] (h:= ?_)|(refine cq hE ?_))
 refine R.call (hct:=hFo) (h:= ?_)
 rintro _ _ ⟨bi,fl,rfl,rfl,hF⟩
 try dsimp only[List.cons_append,List.nil_append]
 have hfl:=hF.1
 rw[List.length_map] at hfl
 repeat(first|(refine st ?_;intros)|refine G.draw [] (h:= ?_)|(refine cq hE ?_))
 refine G.loop (X:=CoX) (fun x=>x.i≤m∧x.k=(forT (sl.take x.i) (fl.take x.i)).length∧x.k≤x.i∧Vec 49 5 x.p x.k x.cap (flat (forT (sl.take x.i) (fl.take x.i))) x.ch)
  (fun x=>[(14,.int .i64 (x.i:Int)),(13,.slice (some ⟨bi,0,none⟩) m m),(10,.slice x.p x.k x.cap),(9,.slice p1 i c1),(8,.slice pn m cn),(7,pv b7)])
  (fun x=>[[(b7,row [.int .i64 (i:Int),.slice pe m ce] 37)],[(bi,row (bcells fl) 4)],c,he,hn,ch,x.ch]) (fun x=>m-x.i) ⟨0,none,0,0,[]⟩ ⟨Nat.zero_le _,by simp[forT],Nat.le_refl _,by simpa[forT,flat] using Vec.nil 49 5⟩ (by repeat(first|exact trivial|refine⟨rfl,?_⟩)) (by repeat(first|exact Split.nil|(apply Split.cons;·(first|exact Take.nil|(repeat(first|exact Take.here|apply Take.there)))))) ?_
 rintro⟨j,p2,k,c2,ch2⟩ ⟨hj,hk,hkj,hV2⟩
 dsimp only at hj hk hkj hV2⊢
 by_cases hlt:j<m
 ·have hjt:sl[j]? =some sl[j]:=List.getElem?_eq_getElem (by omega)
  have hjf:fl[j]? =some fl[j]:=List.getElem?_eq_getElem (by omega)
  have htk:=forT_take hjt hjf
  have hcb:(bcells fl)[j]? =some (.bool fl[j]):=by unfold bcells;rw[List.getElem?_map,hjf];rfl
  obtain⟨eb,re,rfl,rfl,hre,hce,hcm⟩:=vpos1 hVe (by omega)
  obtain⟨nb,rn,rfl,rfl,hrn,hcn,hcm2⟩:=vpos1 hVn (by omega)
  obtain⟨l1,l2,hspl,hl1⟩:∃l1 l2,sl=l1++sl[j]::l2∧l1.length=j:=⟨sl.take j,sl.drop (j+1),by rw[←List.drop_eq_getElem_cons (by omega),List.take_append_drop],by simp;omega⟩
  have g0:=n_get l1 l2 sl[j] rn hl1
  have g1:=e_cut l1 l2 sl[j] re hl1
  rw[←hspl] at g0 g1
  generalize sl[j]'(by omega)=t at*
  generalize fl[j]'(by omega)=o at*
  have ga:(ecells5 sl++re)[j*2]? =some (.int .i64 t.c1):=by have:=congrArg (fun l=>l[0]?) g1;simpa[List.getElem?_take,List.getElem?_drop] using this
  have gb:(ecells5 sl++re)[j*2+1]? =some (.int .i64 t.c2):=by have:=congrArg (fun l=>l[1]?) g1;simpa[List.getElem?_take,List.getElem?_drop] using this
  have hm1:=hmx k (by omega)
  cases o with
  |true=>
   simp only[if_true] at htk
   repeat(first|(refine st ?_;intros)|refine G.draw [] (h:= ?_)|(refine cq hE ?_))
   rename_i p' cap' ch' hV'
   refine Dn.round ⟨j+1,p',k+1,cap',ch'⟩ ⟨hlt,by rw[htk,List.length_append,←hk];rfl,by dsimp only;omega,by rw[htk,flat_append];exact hV'⟩ (by dsimp only;omega)
  |false=>
   simp only[Bool.false_eq_true,if_false,List.append_nil] at htk
   repeat(first|(refine st ?_;intros)|refine G.draw [] (h:= ?_)|(refine cq hE ?_))
   refine Dn.round ⟨j+1,p2,k,c2,ch2⟩ ⟨hlt,by rw[htk];exact hk,by dsimp only;omega,by rw[htk];exact hV2⟩ (by dsimp only;omega)
 ·obtain rfl:j=m:=by omega
  rw[List.take_of_length_le (by omega),List.take_of_length_le (by omega)] at hV2
  repeat(first|(refine st ?_;intros)|refine G.draw [] (h:= ?_)|(refine cq hE ?_))
  (refine Dn.post (Hr:=[c,ch,ch2]) Tryz.results56 (hR:= ?_);exact⟨p1,i,c1,ch,p2,k,c2,ch2,_,_,rfl,rfl,RV.vec hV,RV.vec hV2,hkj,sl,fl,lab,hp,hs,hL2,hF,rfl,rfl⟩)
def lessB (a b:T5):Bool:=decide (a.c1<b.c1∨a.c1=b.c1∧(a.c2<b.c2∨a.c2=b.c2∧a.c0<b.c0))
theorem lessB_iff {a b:T5}:lessB a b=true↔a.c1<b.c1∨a.c1=b.c1∧(a.c2<b.c2∨a.c2=b.c2∧a.c0<b.c0):=decide_eq_true_iff
theorem lessB_swo:Go.Srt.Swo lessB where
 asym a b h:=by
  rw[lessB_iff] at h
  cases hb:lessB b a with
  |false=>rfl
  |true=>rw[lessB_iff] at hb;omega
 ntrans a b c h1 h2:=by
  cases hc:lessB a c with
  |false=>rfl
  |true=>
   have n1:¬(lessB a b=true):=by rw[h1];decide
   have n2:¬(lessB b c=true):=by rw[h2];decide
   rw[lessB_iff] at n1 n2 hc
   omega
theorem less16ct (a b:T5):CtQ Tryz.prog 153 [tv a,tv b] [] (.bool (lessB a b)):=by
 have htv:∀t:T5,tv t= .agg #[.int .i64 t.c0,.int .i64 t.c1,.int .i64 t.c2,.int .i64 t.c3,.int .i64 t.c4]:=fun _=>rfl
 rw[htv,htv]
 by_cases h1:a.c1=b.c1
 ·by_cases h2:a.c2=b.c2
  ·have e:dec (a.c0<b.c0)=lessB a b:=by rw[dec_eq];unfold lessB;exact decide_eq_decide.2 (by omega)
   refine Ct.intro Tryz.func153 rfl Tryz.ntmps153 (nle rfl) fun w0=> ?_;dsimp only[argSlots,Nat.reduceAdd]
   repeat(refine st ?_;intros)
   (refine Dn.post (Hr:=[]) Tryz.results153 (hR:= ?_);exact⟨congrArg Value.bool e,rfl⟩)
  ·have e:dec (a.c2<b.c2)=lessB a b:=by rw[dec_eq];unfold lessB;exact decide_eq_decide.2 (by omega)
   refine Ct.intro Tryz.func153 rfl Tryz.ntmps153 (nle rfl) fun w0=> ?_;dsimp only[argSlots,Nat.reduceAdd]
   repeat(refine st ?_;intros)
   (refine Dn.post (Hr:=[]) Tryz.results153 (hR:= ?_);exact⟨congrArg Value.bool e,rfl⟩)
 ·have e:dec (a.c1<b.c1)=lessB a b:=by rw[dec_eq];unfold lessB;exact decide_eq_decide.2 (by omega)
  refine Ct.intro Tryz.func153 rfl Tryz.ntmps153 (nle rfl) fun w0=> ?_;dsimp only[argSlots,Nat.reduceAdd]
  repeat(refine st ?_;intros)
  (refine Dn.post (Hr:=[]) Tryz.results153 (hR:= ?_);exact⟨congrArg Value.bool e,rfl⟩)
def PutR (l:List T5) (t:T5) (r:List T5):Prop:=∃A B,l=A++B∧r=A++t::B∧(∀b∈B,lessB t b=true)∧∀x,A.getLast? =some x→lessB t x=false
def Sa (l:List T5):Prop:=l.Pairwise fun a b=>lessB b a=false
theorem PutR.perm {l r:List T5} {t:T5} (h:PutR l t r):r.Perm (t::l):=by
 obtain⟨A,B,rfl,rfl,_⟩:=h
 exact List.perm_middle
theorem PutR.sa {l r:List T5} {t:T5} (h:PutR l t r) (hs:Sa l):Sa r:=by
 obtain⟨A,B,rfl,rfl,hB,hA⟩:=h
 unfold Sa at hs⊢
 rw[List.pairwise_append] at hs⊢
 have hAt:∀a∈A,lessB t a=false:=by
  intro a ha
  rcases List.eq_nil_or_concat A with rfl|⟨A',x,rfl⟩
  ·simp at ha
  ·rw[List.concat_eq_append] at*
   have hx:=hA x (by simp)
   rcases List.mem_append.1 ha with h|h
   ·have h1:=(List.pairwise_append.1 hs.1).2.2 a h x (by simp)
    exact lessB_swo.ntrans _ _ _ hx h1
   ·simp only[List.mem_singleton] at h;subst h;exact hx
 rw[List.pairwise_cons]
 exact⟨hs.1,⟨fun b hb=>lessB_swo.asym _ _ (hB b hb),hs.2.1⟩,fun a ha b hb=>by
  rcases List.mem_cons.1 hb with rfl|hb
  ·exact hAt a ha
  ·exact hs.2.2 a ha b hb⟩
structure PutX where
 kz:Int
 A:List T5
 B:List T5
theorem put16ct (p:Option Addr) (m cap:Nat) (l:List T5) (c:Chunk) (hV:Vec 49 5 p m cap (flat l) c) (hm:m≤1000000) (t:T5):
  Ct Tryz.prog 119 [.slice p m cap,tv t] [c] fun v H'=>∃p' cap' c' r,v= .slice p' (m+1) cap'∧H'=[c']∧Vec 49 5 p' (m+1) cap' (flat r) c'∧PutR l t r:=by
 have htv:∀t:T5,tv t= .agg #[.int .i64 t.c0,.int .i64 t.c1,.int .i64 t.c2,.int .i64 t.c3,.int .i64 t.c4]:=fun _=>rfl
 have hLs:=fun a b=>less16ct a b
 have hl:l.length=m:=by have:=hV.1;rw[flat_len5] at this;omega
 have hmx:m+1≤maxLen:=by simp only[maxLen];omega
 simp only[htv] at hLs
 rw[htv]
 refine Ct.intro Tryz.func119 rfl Tryz.ntmps119 (nle rfl) fun w0=> ?_;dsimp only[argSlots,Nat.reduceAdd]
 repeat(first|(refine st ?_;intros)|refine G.draw (id:=3) [(12,.quiet)] (h:= ?_)|(refine cq hL ?_))
 rename_i b3 b9 p' cap' c' hV'
 have hV2:Vec 49 5 p' (m+1) cap' (flat (l++[t])) c':=by rw[flat_append];exact hV'
 obtain⟨rb,re,rfl,rfl,hre,hce,hcm⟩:=vpos1 hV2 (Nat.succ_pos _)
 clear hV hV'
 rw[flat_len5,List.length_append,List.length_singleton,hl] at hre
 have hw:((m+1:Nat):Int)-1=(m:Int):=by omega
 refine G.loop (X:=PutX) (fun x=>x.A++x.B=l∧x.kz=(x.A.length:Int)∧∀u∈x.B,lessB t u=true)
  (fun x=>[(5,.int .i64 x.kz),(0,.slice (some ⟨rb,0,none⟩) (m+1) cap')])
  (fun x=>[[(rb,row (flat (x.A++t::x.B)++re) 49)]]) (fun x=>x.A.length) ⟨((m+1:Nat):Int)-1,l,[]⟩ ⟨by simp,by dsimp only;omega,by simp⟩ (body:= ?_)
 rintro⟨kz,A,B⟩ ⟨hAB,hkz,hB⟩
 dsimp only at hAB hkz hB⊢
 have hABl:A.length+B.length=m:=by rw[←hl,←hAB,List.length_append]
 have hend:Vec 49 5 (some ⟨rb,0,none⟩) (m+1) cap' (flat (A++t::B)) [(rb,row (flat (A++t::B)++re) 49)]:=
  Vec.mk' rfl (by rw[flat_len5];simp;omega) (by rw[List.length_append,flat_len5];simp;omega) hce hcm
 rcases List.eq_nil_or_concat A with rfl|⟨A',x,rfl⟩
 ·have hk0:kz=0:=by simpa using hkz
  repeat(first|(refine st ?_;intros)|refine G.draw (id:=3) [(12,.quiet)] (h:= ?_)|(refine cq hL ?_))
  (refine Dn.post (Hr:=[[(rb,row (flat ([]++t::B)++re) 49)]]) Tryz.results119 (hR:= ?_);exact⟨_,cap',_,_,rfl,rfl,hend,[],B,hAB.symm,rfl,hB,by simp⟩)
 ·have hkA:kz=((A'.length+1:Nat):Int):=by simpa using hkz
  have ek:kz.toNat=A'.length+1:=by omega
  have ek1:(kz-1).toNat=A'.length:=by omega
  have hA1:A'.length+1+B.length=m:=by simpa using hABl
  have hform:∀u v:T5,(A'++[u])++v::B=A'++u::v::B:=fun u v=>by simp
  rw[List.concat_eq_append] at*
  rw[hform] at hend⊢
  have c1:=t_cut (A'++[x]) B t re (k:=A'.length+1) (by simp)
  have c2:=t_cut A' (t::B) x re rfl
  have s1:=t_set (A'++[x]) B t x re (k:=A'.length+1) (by simp)
  have s2:=t_set A' (x::B) x t re rfl
  simp only[hform] at c1 s1
  have l1:(A'.length+1)*5+5≤(flat (A'++x::t::B)++re).length:=by rw[List.length_append,flat_len5];simp;omega
  have l2:(A'.length+1)*5+5≤(flat (A'++x::x::B)++re).length:=by rw[List.length_append,flat_len5];simp;omega
  have hL:=hLs t x
  cases hxt:lessB t x with
  |true=>
   rw[hxt] at hL
   generalize hr0:flat (A'++x::t::B)++re=r0 at*
   generalize hr1:flat (A'++x::x::B)++re=r1 at*
   repeat(first|(refine st ?_;intros)|refine G.draw (id:=3) [(12,.quiet)] (h:= ?_)|(refine cq hL ?_))
   refine Dn.round ⟨kz-1,A',x::B⟩ ⟨by rw[←hAB];simp,by dsimp only;omega,fun u hu=> ?_⟩ (by simp)
   rcases List.mem_cons.1 hu with rfl|hu
   ·exact hxt
   ·exact hB u hu
  |false=>
   rw[hxt] at hL
   generalize hr0:flat (A'++x::t::B)++re=r0 at*
   repeat(first|(refine st ?_;intros)|refine G.draw (id:=3) [(12,.quiet)] (h:= ?_)|(refine cq hL ?_))
   (refine Dn.post (Hr:=[[(rb,row r0 49)]]) Tryz.results119 (hR:= ?_);exact⟨_,cap',_,A'++x::t::B,rfl,rfl,hend,A'++[x],B,hAB.symm,by simp,hB,fun y hy=>by simp at hy;subst hy;exact hxt⟩)
def arcs2 (a:List T5) (t:T5):List T5:=[⟨2*t.c0,t.c1,t.c2,(at5 a t.c1.toNat).c1,0⟩,⟨2*t.c0+1,t.c2,t.c1,(at5 a t.c1.toNat).c1,0⟩]
def arcsL (a f:List T5):List T5:=f.flatMap (arcs2 a)
theorem arcsL_take {a f:List T5} {i:Nat} {t:T5} (h:f[i]? =some t):arcsL a (f.take (i+1))=arcsL a (f.take i)++arcs2 a t:=by
 unfold arcsL;rw[List.take_add_one,h];simp
structure ArX where
 i:Nat
 n:Nat
 p:Option Addr
 cap:Nat
 ch:Chunk
 r:List T5
theorem Arcs16ct (pa:Option Addr) (na ka:Nat) (a:List T5) (ca:Chunk) (hva:RV pa na a ca) (pf:Option Addr) (nf kf:Nat) (f:List T5) (cf:Chunk) (hvf:RV pf nf f cf) (hn:nf≤100000) (hna:na≤1000000)
  (hf:∀t∈f,0≤t.c0∧t.c0≤1099511627776∧0≤t.c1∧t.c1<na):
  Ct Tryz.prog 69 [.slice pa na ka,.slice pf nf kf] [ca,cf] fun v H'=>∃p cap c r,v= .slice p (2*nf) cap∧H'=[ca,cf,c]∧Vec 49 5 p (2*nf) cap (flat r) c∧r.Perm (arcsL a f)∧Sa r:=by
 have hfl:=hvf.1
 have hal:=hva.1
 have htv:∀t:T5,tv t= .agg #[.int .i64 t.c0,.int .i64 t.c1,.int .i64 t.c2,.int .i64 t.c3,.int .i64 t.c4]:=fun _=>rfl
 refine Ct.intro Tryz.func69 rfl Tryz.ntmps69 (nle rfl) fun w0=> ?_;dsimp only[argSlots,Nat.reduceAdd]
 repeat(first|(refine st ?_;intros)|refine G.draw [] (h:= ?_))
 refine G.loop (X:=ArX) (fun x=>x.i≤nf∧x.n=2*x.i∧Vec 49 5 x.p x.n x.cap (flat x.r) x.ch∧x.r.Perm (arcsL a (f.take x.i))∧Sa x.r)
  (fun x=>[(6,.int .i64 (x.i:Int)),(5,.slice x.p x.n x.cap),(1,.slice pf nf kf),(0,.slice pa na ka)])
  (fun x=>[ca,cf,x.ch]) (fun x=>nf-x.i) ⟨0,0,none,0,[],[]⟩ ⟨Nat.zero_le _,rfl,Vec.nil _ _,by simp[arcsL],List.Pairwise.nil⟩ (by repeat(first|exact trivial|refine⟨rfl,?_⟩)) (by repeat(first|exact Split.nil|(apply Split.cons;·(first|exact Take.nil|(repeat(first|exact Take.here|apply Take.there)))))) ?_
 rintro⟨i,n,p,cap,ch,r⟩ ⟨hi,hni,hV,hp,hs⟩
 dsimp only at hi hni hV hp hs⊢
 by_cases hlt:i<nf
 ·obtain⟨b,off,cs,T,fz,rfl,rfl,_,hget⟩:=(RV.rw hvf).pos tcells_len (by omega)
  have hit:f[i]? =some f[i]:=List.getElem?_eq_getElem (by omega)
  have q0:=hget i 0 _ _ hit rfl
  have q1:=hget i 1 _ _ hit rfl
  have q2:=hget i 2 _ _ hit rfl
  rw[Nat.add_zero] at q0
  obtain⟨f1,f2,f3,f4⟩:=hf _ (List.mem_of_getElem? hit)
  have htk:=arcsL_take (a:=a) hit
  generalize ht:f[i]=t at*
  obtain⟨u,hu⟩:∃u:Nat,t.c1=(u:Int):=⟨t.c1.toNat,by omega⟩
  have hut:t.c1.toNat=u:=by omega
  obtain⟨b2,off2,cs2,T2,fz2,rfl,rfl,_,hget2⟩:=(RV.rw hva).pos tcells_len (by omega)
  have hat:a[u]? =some a[u]:=List.getElem?_eq_getElem (by omega)
  have r1:=hget2 u 1 _ _ hat rfl
  have hat5:at5 a t.c1.toNat=a[u]:=by rw[hut];unfold at5;rw[List.getD_eq_getElem?_getD,hat];rfl
  generalize ha:a[u]=w at*
  have e1:IntKind.wrap .i64 (2*t.c0)=2*t.c0:=wrap_i64 (by omega)
  have e2:IntKind.wrap .i64 (2*t.c0+1)=2*t.c0+1:=wrap_i64 (by omega)
  have hP:=put16ct p n cap r ch hV (by omega) ⟨2*t.c0,t.c1,t.c2,w.c1,0⟩
  rw[htv] at hP
  repeat(first|(refine st ?_;intros)|refine G.draw [] (h:= ?_))
  refine R.call (hct:=hP) (h:= ?_)
  rintro _ _ ⟨p1,cap1,ch1,r1',rfl,rfl,hV1,hR1⟩
  try dsimp only[List.cons_append,List.nil_append]
  have hP2:=put16ct p1 (n+1) cap1 r1' ch1 hV1 (by omega) ⟨2*t.c0+1,t.c2,t.c1,w.c1,0⟩
  rw[htv] at hP2
  repeat(first|(refine st ?_;intros)|refine G.draw [] (h:= ?_))
  refine R.call (hct:=hP2) (h:= ?_)
  rintro _ _ ⟨p2,cap2,ch2,r2,rfl,rfl,hV2,hR2⟩
  try dsimp only[List.cons_append,List.nil_append]
  repeat(first|(refine st ?_;intros)|refine G.draw [] (h:= ?_))
  refine Dn.round ⟨i+1,n+1+1,p2,cap2,ch2,r2⟩ ⟨hlt,by dsimp only;omega,hV2,?_,hR2.sa (hR1.sa hs)⟩ (by dsimp only;omega)
  dsimp only
  rw[htk]
  unfold arcs2
  rw[hat5]
  refine hR2.perm.trans (((hR1.perm.trans (hp.cons _)).cons _).trans ?_)
  refine(List.Perm.swap _ _ _).trans ?_
  exact List.perm_append_comm (l₁:=[_,_])
 ·obtain rfl:i=nf:=by omega
  rw[List.take_of_length_le (by omega)] at hp
  obtain rfl:=hni
  repeat(first|(refine st ?_;intros)|refine G.draw [] (h:= ?_))
  (refine Dn.post (Hr:=[ca,cf,ch]) Tryz.results69 (hR:= ?_);exact⟨p,cap,ch,r,rfl,rfl,hV,hp,hs⟩)
def headF (r:List T5):Nat→Nat
 |0=>0
 |k+1=>if(at5 r k).c1=(at5 r (k+1)).c1 then headF r k else k+1
def behindF (r:List T5) (k:Nat):Nat:=if k+1<r.length∧(at5 r (k+1)).c1=(at5 r k).c1 then k+1 else headF r k
theorem at5get {r:List T5} {k:Nat} (h:k<r.length):r[k]? =some (at5 r k):=by unfold at5;rw[List.getD_eq_getElem?_getD,List.getElem?_eq_getElem h];rfl
theorem headF_le (r:List T5):∀k,headF r k≤k
 |0=>Nat.le_refl _
 |k+1=>by unfold headF;split;exact Nat.le_succ_of_le (headF_le r k);exact Nat.le_refl _
theorem behindF_lt {r:List T5} {k:Nat} (h:k<r.length):behindF r k<r.length:=by
 unfold behindF;split
 ·omega
 ·have:=headF_le r k;omega
theorem behind16ct (p:Option Addr) (m cap:Nat) (r:List T5) (c:Chunk) (hv:RV p m r c) (hm:m≤1000000) (k:Nat) (hk:k<m):
  CtQ Tryz.prog 70 [.slice p m cap,.int .i64 (k:Int)] [c] (.int .i64 (behindF r k:Int)):=by
 have hl:=hv.1
 obtain⟨b,off,cs,T,fz,rfl,rfl,_,hget⟩:=(RV.rw hv).pos tcells_len (by omega)
 have hg:∀j,j<m→cs[off+j*5+1]? =some (.int .i64 (at5 r j).c1):=fun j hj=>hget j 1 _ _ (at5get (by omega)) rfl
 have q0:=hg k hk
 have ek:((k:Int)+1).toNat=k+1:=by omega
 by_cases h1:k+1<m
 ·have q1:=hg (k+1) h1
  by_cases h2:(at5 r (k+1)).c1=(at5 r k).c1
  ·have hb:behindF r k=k+1:=by unfold behindF;rw[if_pos ⟨by omega,h2⟩]
   have hb2:((behindF r k:Nat):Int)=(k:Int)+1:=by omega
   rw[hb2]
   refine Ct.intro Tryz.func70 rfl Tryz.ntmps70 (nle rfl) fun w0=> ?_;dsimp only[argSlots,Nat.reduceAdd]
   repeat(first|(refine st ?_;intros)|refine G.draw [] (h:= ?_))
   (refine Dn.post (Hr:=[[(b,rowf cs T fz)]]) Tryz.results70 (hR:= ?_);exact⟨rfl,rfl⟩)
  ·have hb:behindF r k=headF r k:=by unfold behindF;rw[if_neg (fun h=>h2 h.2)]
   rw[hb]
   refine Ct.intro Tryz.func70 rfl Tryz.ntmps70 (nle rfl) fun w0=> ?_;dsimp only[argSlots,Nat.reduceAdd]
   repeat(first|(refine st ?_;intros)|refine G.draw [] (h:= ?_))
   refine G.loop (X:=Int) (fun z=>0≤z∧z<(m:Int)∧headF r z.toNat=headF r k) (fun z=>[(1,.int .i64 z),(0,.slice (some ⟨b,off,none⟩) m cap)])
    (fun _=>[[(b,rowf cs T fz)]]) (fun z=>z.toNat) (k:Int) ⟨by omega,by omega,by rw[Int.toNat_natCast]⟩ (body:= ?_)
   rintro z ⟨z0,zm,hz⟩
   obtain⟨j,rfl⟩:∃j:Nat,z=(j:Int):=⟨z.toNat,by omega⟩
   have ej:((j:Int)).toNat=j:=Int.toNat_natCast j
   rw[ej] at hz
   cases j with
   |zero=>
    have hh:headF r k=0:=by rw[←hz];rfl
    repeat(first|(refine st ?_;intros)|refine G.draw [] (h:= ?_))
    (refine Dn.post (Hr:=[[(b,rowf cs T fz)]]) Tryz.results70 (hR:= ?_);exact⟨congrArg (Value.int .i64) (by omega),rfl⟩)
   |succ j=>
    have w0:=hg (j+1) (by omega)
    have w1:=hg j (by omega)
    have ej1:(((j+1:Nat):Int)-1).toNat=j:=by omega
    have ej2:((j+1:Nat):Int)-1=(j:Int):=by omega
    by_cases h3:(at5 r j).c1=(at5 r (j+1)).c1
    ·have hs:headF r (j+1)=headF r j:=by rw[headF,if_pos h3]
     repeat(first|(refine st ?_;intros)|refine G.draw [] (h:= ?_))
     refine Dn.round (((j+1:Nat):Int)-1) ⟨by omega,by omega,by rw[ej1,←hz,hs]⟩ (by omega)
    ·have hs:headF r (j+1)=j+1:=by rw[headF,if_neg h3]
     repeat(first|(refine st ?_;intros)|refine G.draw [] (h:= ?_))
     (refine Dn.post (Hr:=[[(b,rowf cs T fz)]]) Tryz.results70 (hR:= ?_);exact⟨congrArg (Value.int .i64) (by omega),rfl⟩)
 ·have hb:behindF r k=headF r k:=by unfold behindF;rw[if_neg (fun h=>h1 (by omega))]
  rw[hb]
  refine Ct.intro Tryz.func70 rfl Tryz.ntmps70 (nle rfl) fun w0=> ?_;dsimp only[argSlots,Nat.reduceAdd]
  repeat(first|(refine st ?_;intros)|refine G.draw [] (h:= ?_))
  refine G.loop (X:=Int) (fun z=>0≤z∧z<(m:Int)∧headF r z.toNat=headF r k) (fun z=>[(1,.int .i64 z),(0,.slice (some ⟨b,off,none⟩) m cap)])
   (fun _=>[[(b,rowf cs T fz)]]) (fun z=>z.toNat) (k:Int) ⟨by omega,by omega,by rw[Int.toNat_natCast]⟩ (body:= ?_)
  rintro z ⟨z0,zm,hz⟩
  obtain⟨j,rfl⟩:∃j:Nat,z=(j:Int):=⟨z.toNat,by omega⟩
  have ej:((j:Int)).toNat=j:=Int.toNat_natCast j
  rw[ej] at hz
  cases j with
  |zero=>
   have hh:headF r k=0:=by rw[←hz];rfl
   repeat(first|(refine st ?_;intros)|refine G.draw [] (h:= ?_))
   (refine Dn.post (Hr:=[[(b,rowf cs T fz)]]) Tryz.results70 (hR:= ?_);exact⟨congrArg (Value.int .i64) (by omega),rfl⟩)
  |succ j=>
   have w0:=hg (j+1) (by omega)
   have w1:=hg j (by omega)
   have ej1:(((j+1:Nat):Int)-1).toNat=j:=by omega
   have ej2:((j+1:Nat):Int)-1=(j:Int):=by omega
   by_cases h3:(at5 r j).c1=(at5 r (j+1)).c1
   ·have hs:headF r (j+1)=headF r j:=by rw[headF,if_pos h3]
    repeat(first|(refine st ?_;intros)|refine G.draw [] (h:= ?_))
    refine Dn.round (((j+1:Nat):Int)-1) ⟨by omega,by omega,by rw[ej1,←hz,hs]⟩ (by omega)
   ·have hs:headF r (j+1)=j+1:=by rw[headF,if_neg h3]
    repeat(first|(refine st ?_;intros)|refine G.draw [] (h:= ?_))
    (refine Dn.post (Hr:=[[(b,rowf cs T fz)]]) Tryz.results70 (hR:= ?_);exact⟨congrArg (Value.int .i64) (by omega),rfl⟩)
def itF (f:Nat→Nat):Nat→Nat→Nat
 |0,x=>x
 |n+1,x=>f (itF f n x)
theorem itF_lt {m:Nat} {f:Nat→Nat} (hf:∀k,k<m→f k<m) {i:Nat} (hi:i<m):∀n,itF f n i<m
 |0=>hi
 |n+1=>hf _ (itF_lt hf hi n)
theorem itF_add (f:Nat→Nat) (b x:Nat):∀a,itF f (a+b) x=itF f a (itF f b x)
 |0=>by rw[Nat.zero_add];rfl
 |a+1=>by rw[Nat.succ_add];show f _=f _;rw[itF_add f b x a]
theorem itF_inj {m:Nat} {f:Nat→Nat} (hf:∀k,k<m→f k<m) (hj:∀a b,a<m→b<m→f a=f b→a=b) {x y:Nat} (hx:x<m) (hy:y<m):∀n,itF f n x=itF f n y→x=y
 |0,h=>h
 |n+1,h=>itF_inj hf hj hx hy n (hj _ _ (itF_lt hf hx n) (itF_lt hf hy n) h)
theorem two_of_not_nodup {g:Nat→Nat}:∀{n:Nat},¬((List.range n).map g).Nodup→∃a b,a<b∧b<n∧g a=g b
 |0,h=>(h (by simp)).elim
 |n+1,h=>by
  rw[List.range_succ,List.map_append,List.nodup_append] at h
  by_cases h1:((List.range n).map g).Nodup
  ·by_cases h2:g n∈(List.range n).map g
   ·obtain⟨a,ha,he⟩:=List.mem_map.1 h2
    exact⟨a,n,List.mem_range.1 ha,Nat.lt_succ_self n,he⟩
   ·refine(h ⟨h1,by simp,?_⟩).elim
    intro x hx y hy e
    simp only[List.map_cons,List.map_nil,List.mem_singleton] at hy
    subst hy;subst e;exact h2 hx
  ·obtain⟨a,b,h1,h2,h3⟩:=two_of_not_nodup h1
   exact⟨a,b,h1,Nat.lt_succ_of_lt h2,h3⟩
theorem comes_round {m:Nat} {f:Nat→Nat} (hf:∀k,k<m→f k<m) (hj:∀a b,a<m→b<m→f a=f b→a=b) {i:Nat} (hi:i<m):∃P,0<P∧P≤m∧itF f P i=i:=by
 have hn:¬((List.range (m+1)).map fun n=>itF f n i).Nodup:=by
  intro h
  have:=h.length_le_of_subset (l₂:=List.range m) (by
   intro x hx
   obtain⟨n,_,rfl⟩:=List.mem_map.1 hx
   exact List.mem_range.2 (itF_lt hf hi n))
  simp at this
  omega
 obtain⟨a,b,h1,h2,h3⟩:=two_of_not_nodup hn
 refine⟨b-a,by omega,by omega,?_⟩
 have h4:b=a+(b-a):=by omega
 rw[h4,itF_add] at h3
 exact(itF_inj hf hj hi (itF_lt hf hi _) a h3).symm
def perF (f:Nat→Nat) (m i:Nat):Nat:=((List.range m).find? fun n=>itF f (n+1) i==i).getD 0+1
theorem perF_spec {m:Nat} {f:Nat→Nat} {i:Nat} (h:∃P,0<P∧P≤m∧itF f P i=i):0<perF f m i∧perF f m i≤m∧itF f (perF f m i) i=i∧∀n,0<n→n<perF f m i→itF f n i≠i:=by
 obtain⟨P,h0,hP,hi⟩:=h
 unfold perF
 cases hf:(List.range m).find? fun n=>itF f (n+1) i==i with
 |none=>
  rw[List.find?_eq_none] at hf
  refine(hf (P-1) (List.mem_range.2 (by omega)) ?_).elim
  rw[show P-1+1=P by omega,hi];simp
 |some q=>
  rw[List.find?_range_eq_some] at hf
  obtain⟨h1,h2,h3⟩:=hf
  rw[List.mem_range] at h2
  refine⟨Nat.succ_pos _,h2,by simpa using h1,?_⟩
  intro n hn hq he
  have:=h3 (n-1) (by simp only[Option.getD_some] at hq;omega)
  rw[show n-1+1=n by omega,he] at this
  simp at this
theorem at5mem {r:List T5} {k:Nat} (h:k<r.length):at5 r k∈r:=List.mem_of_getElem? (at5get h)
theorem mem_at5 {r:List T5} {t:T5} (h:t∈r):∃k,k<r.length∧at5 r k=t:=by
 obtain⟨k,hk,rfl⟩:=List.mem_iff_getElem.1 h
 exact⟨k,hk,Option.some.inj ((at5get hk).symm.trans (List.getElem?_eq_getElem hk))⟩
theorem at5sorted {r:List T5} (hs:Sa r) {i j:Nat} (hij:i<j) (hj:j<r.length):lessB (at5 r j) (at5 r i)=false:=by
 have h1:=at5get (Nat.lt_trans hij hj)
 have h2:=at5get hj
 rw[List.getElem?_eq_some_iff] at h1 h2
 obtain⟨_,h1⟩:=h1
 obtain⟨_,h2⟩:=h2
 rw[←h1,←h2]
 exact List.pairwise_iff_getElem.1 hs i j _ _ hij
theorem at5le {r:List T5} (hs:Sa r) {i j:Nat} (hij:i≤j) (hj:j<r.length):(at5 r i).c1≤(at5 r j).c1:=by
 rcases Nat.eq_or_lt_of_le hij with rfl|h
 ·exact Int.le_refl _
 ·have h1:=at5sorted hs h hj
  have h2:¬(lessB (at5 r j) (at5 r i)=true):=by rw[h1];decide
  rw[lessB_iff] at h2
  omega
theorem headF_same (r:List T5):∀k,(at5 r (headF r k)).c1=(at5 r k).c1
 |0=>rfl
 |k+1=>by
  unfold headF
  split
  next h=>rw[headF_same r k,h]
  next=>rfl
theorem headF_head (r:List T5):∀{k j:Nat},headF r k=j+1→(at5 r j).c1≠(at5 r (j+1)).c1
 |0,j,h=>by unfold headF at h;omega
 |k+1,j,h=>by
  unfold headF at h
  split at h
  next=>exact headF_head r h
  next hne=>
        obtain rfl:k=j:=by omega
        exact hne
theorem behindF_from (r:List T5) (k:Nat):(at5 r (behindF r k)).c1=(at5 r k).c1:=by
 unfold behindF;split
 next h=>exact h.2
 next=>exact headF_same r k
theorem behindF_inj {r:List T5} (hs:Sa r) {a b:Nat} (ha:a<r.length) (hb:b<r.length) (h:behindF r a=behindF r b):a=b:=by
 have hc:(at5 r a).c1=(at5 r b).c1:=by rw[←behindF_from r a,←behindF_from r b,h]
 unfold behindF at h
 split at h
 next h1=>
  split at h
  next h2=>omega
  next h2=>exact absurd h1.2.symm (headF_head r h.symm)
 next h1=>
  split at h
  next h2=>exact absurd h2.2.symm (headF_head r h)
  next h2=>
   rcases Nat.lt_trichotomy a b with h3|h3|h3
   ·have e1:=at5le hs (show a≤a+1 by omega) (show a+1<r.length by omega)
    have e2:=at5le hs (show a+1≤b from h3) hb
    exact absurd ⟨by omega,by omega⟩ h1
   ·exact h3
   ·have e1:=at5le hs (show b≤b+1 by omega) (show b+1<r.length by omega)
    have e2:=at5le hs (show b+1≤a from h3) ha
    exact absurd ⟨by omega,by omega⟩ h2
def brotherF (r:List T5) (k:Nat):Nat:=((List.range r.length).find? fun i=>decide (i≠k∧(at5 r i).c0.tdiv 2=(at5 r k).c0.tdiv 2)).getD k
theorem brotherF_lt {r:List T5} {k:Nat} (h:k<r.length):brotherF r k<r.length:=by
 unfold brotherF
 cases hf:(List.range r.length).find? fun i=>decide (i≠k∧(at5 r i).c0.tdiv 2=(at5 r k).c0.tdiv 2) with
 |none=>exact h
 |some q=>exact List.mem_range.1 (List.mem_of_find?_eq_some hf)
structure Arcs (a f r:List T5):Prop where
 perm:r.Perm (arcsL a f)
 sa:Sa r
 nd:(f.map (·.c0)).Nodup
 pos:∀t∈f,0≤t.c0
def flipF (x:Int):Int:=if x%2=0 then x+1 else x-1
theorem nodup_two:∀{f:List T5},(f.map (·.c0)).Nodup→∀(a:List T5),((arcsL a f).map (·.c0)).Nodup
 |[],_,_=>by simp[arcsL]
 |t::f,h,a=>by
  rw[List.map_cons,List.nodup_cons] at h
  have ih:=nodup_two h.2 a
  have hm:∀x∈arcsL a f,∃e∈f,x.c0=2*e.c0∨x.c0=2*e.c0+1:=by
   intro x hx
   obtain⟨e,he,hx⟩:=List.mem_flatMap.1 hx
   refine⟨e,he,?_⟩
   simp only[arcs2,List.mem_cons,List.not_mem_nil,or_false] at hx
   rcases hx with rfl|rfl
   ·exact .inl rfl
   ·exact .inr rfl
  have hno:∀e∈f,e.c0≠t.c0:=fun e he hq=>h.1 (List.mem_map.2 ⟨e,he,hq⟩)
  unfold arcsL at ih hm⊢
  rw[List.flatMap_cons,List.map_append,List.nodup_append]
  refine⟨by simp[arcs2];omega,ih,?_⟩
  intro x hx y hy e
  subst e
  obtain⟨z,hz,hzx⟩:=List.mem_map.1 hy
  obtain⟨e,he,h1⟩:=hm z hz
  have:=hno e he
  simp only[arcs2,List.map_cons,List.map_nil,List.mem_cons,List.not_mem_nil,or_false] at hx
  omega
namespace Arcs
variable {a f r:List T5}
theorem edge (A:Arcs a f r) {k:Nat} (h:k<r.length):∃e∈f,at5 r k=⟨2*e.c0,e.c1,e.c2,(at5 a e.c1.toNat).c1,0⟩∨at5 r k=⟨2*e.c0+1,e.c2,e.c1,(at5 a e.c1.toNat).c1,0⟩:=by
 obtain⟨e,he,hx⟩:=List.mem_flatMap.1 (A.perm.mem_iff.1 (at5mem h))
 refine⟨e,he,?_⟩
 simpa only[arcs2,List.mem_cons,List.not_mem_nil,or_false] using hx
theorem arc (A:Arcs a f r) {e t:T5} (he:e∈f) (ht:t∈arcs2 a e):∃k,k<r.length∧at5 r k=t:=mem_at5 (A.perm.mem_iff.2 (List.mem_flatMap.2 ⟨e,he,ht⟩))
theorem num (A:Arcs a f r) {i j:Nat} (hi:i<r.length) (hj:j<r.length) (h:(at5 r i).c0=(at5 r j).c0):i=j:=by
 have hn:(r.map (·.c0)).Nodup:=(A.perm.map _).nodup_iff.2 (nodup_two A.nd a)
 have h1:=at5get hi
 have h2:=at5get hj
 rw[List.getElem?_eq_some_iff] at h1 h2
 obtain⟨_,h1⟩:=h1
 obtain⟨_,h2⟩:=h2
 refine(List.getElem_inj (h₀:=by simpa using hi) (h₁:=by simpa using hj) hn).1 ?_
 rw[List.getElem_map,List.getElem_map,h1,h2,h]
theorem bro (A:Arcs a f r) {k:Nat} (h:k<r.length):(at5 r (brotherF r k))=⟨flipF (at5 r k).c0,(at5 r k).c2,(at5 r k).c1,(at5 r k).c3,0⟩:=by
 obtain⟨e,he,hk⟩:=A.edge h
 have he0:=A.pos e he
 have htd:∀x:Int,0≤x→x.tdiv 2=x/2:=fun x hx=>Int.tdiv_eq_ediv_of_nonneg hx
 have hpos:∀{j:Nat},j<r.length→0≤(at5 r j).c0:=by
  intro j hj
  obtain⟨e',he',hj'⟩:=A.edge hj
  have:=A.pos e' he'
  rcases hj' with hj'|hj'<;>rw[hj']<;>dsimp only<;>omega
 obtain⟨j,hj,hjt⟩:∃j,j<r.length∧at5 r j=⟨flipF (at5 r k).c0,(at5 r k).c2,(at5 r k).c1,(at5 r k).c3,0⟩:=by
  rcases hk with hk|hk
  ·obtain⟨j,hj,hjt⟩:=A.arc he (t:=⟨2*e.c0+1,e.c2,e.c1,(at5 a e.c1.toNat).c1,0⟩) (by simp[arcs2])
   refine⟨j,hj,?_⟩
   have:flipF (2*e.c0)=2*e.c0+1:=by unfold flipF;rw[if_pos (by omega)]
   rw[hjt,hk];dsimp only;rw[this]
  ·obtain⟨j,hj,hjt⟩:=A.arc he (t:=⟨2*e.c0,e.c1,e.c2,(at5 a e.c1.toNat).c1,0⟩) (by simp[arcs2])
   refine⟨j,hj,?_⟩
   have:flipF (2*e.c0+1)=2*e.c0:=by unfold flipF;rw[if_neg (by omega)];omega
   rw[hjt,hk];dsimp only;rw[this]
 have hfl:(at5 r j).c0=flipF (at5 r k).c0:=by rw[hjt]
 have hk0:=hpos h
 have hj0:=hpos hj
 have hne:j≠k:=by rintro rfl;unfold flipF at hfl;split at hfl<;>omega
 have hdiv:(at5 r j).c0.tdiv 2=(at5 r k).c0.tdiv 2:=by
  rw[htd _ hk0,htd _ hj0,hfl];unfold flipF;split<;>omega
 have huniq:∀i,i<r.length→i≠k→(at5 r i).c0.tdiv 2=(at5 r k).c0.tdiv 2→i=j:=by
  intro i hi hik hd
  rw[htd _ hk0,htd _ (hpos hi)] at hd
  refine A.num hi hj ?_
  have hn:(at5 r i).c0≠(at5 r k).c0:=fun hq=>hik (A.num hi h hq)
  rw[hfl];unfold flipF;split<;>omega
 have hb:brotherF r k=j:=by
  unfold brotherF
  cases hf:(List.range r.length).find? fun i=>decide (i≠k∧(at5 r i).c0.tdiv 2=(at5 r k).c0.tdiv 2) with
  |none=>
   rw[List.find?_eq_none] at hf
   exact(hf j (List.mem_range.2 hj) (decide_eq_true ⟨hne,hdiv⟩)).elim
  |some q=>
   have h1:=List.find?_some hf
   have h2:=List.mem_range.1 (List.mem_of_find?_eq_some hf)
   have h3:=of_decide_eq_true h1
   exact huniq q h2 h3.1 h3.2
 rw[hb,hjt]
theorem bro_inj (A:Arcs a f r) {x y:Nat} (hx:x<r.length) (hy:y<r.length) (h:brotherF r x=brotherF r y):x=y:=by
 have h1:=A.bro hx
 have h2:=A.bro hy
 rw[h,h2] at h1
 have h3:=congrArg T5.c0 h1
 dsimp only at h3
 refine A.num hx hy ?_
 unfold flipF at h3
 split at h3<;>split at h3<;>omega
end Arcs
def sigF (r:List T5) (k:Nat):Nat:=behindF r (brotherF r k)
theorem sigF_lt {r:List T5} (k:Nat) (h:k<r.length):sigF r k<r.length:=behindF_lt (brotherF_lt h)
theorem Arcs.sig_inj {a f r:List T5} (A:Arcs a f r) (x y:Nat) (hx:x<r.length) (hy:y<r.length) (h:sigF r x=sigF r y):x=y:=A.bro_inj hx hy (behindF_inj A.sa (brotherF_lt hx) (brotherF_lt hy) h)
theorem Arcs.sig_from {a f r:List T5} (A:Arcs a f r) {k:Nat} (h:k<r.length):(at5 r (sigF r k)).c1=(at5 r k).c2:=by
 unfold sigF;rw[behindF_from,A.bro h]
def perA (r:List T5) (i:Nat):Nat:=perF (sigF r) r.length i
def arcAt (r:List T5) (i n:Nat):T5:={at5 r (itF (sigF r) n i) with c4:=(n:Int)}
def tourL (r:List T5) (i:Nat):List T5:=(List.range (perA r i)).map (arcAt r i)
def rootB (r:List T5) (i:Nat):Bool:=decide ((at5 r i).c1=(at5 r i).c3∧(0<i→(at5 r (i-1)).c1≠(at5 r i).c1))
def toursTo (r:List T5) (n:Nat):List T5:=(List.range n).flatMap fun i=>if rootB r i then tourL r i else[]
def toursF (r:List T5):List T5:=toursTo r r.length
theorem toursTo_succ (r:List T5) (n:Nat):toursTo r (n+1)=toursTo r n++if rootB r n then tourL r n else[]:=by
 unfold toursTo;rw[List.range_succ,List.flatMap_append];simp
theorem Arcs.per {a f r:List T5} (A:Arcs a f r) {i:Nat} (h:i<r.length):0<perA r i∧perA r i≤r.length∧itF (sigF r) (perA r i) i=i∧∀n,0<n→n<perA r i→itF (sigF r) n i≠i:=perF_spec (comes_round sigF_lt A.sig_inj h)
theorem tourL_len (r:List T5) (i:Nat):(tourL r i).length=perA r i:=by unfold tourL;simp
theorem Arcs.to_len {a f r:List T5} (A:Arcs a f r):∀{n:Nat},n≤r.length→(toursTo r n).length≤n*r.length
 |0,_=>by simp[toursTo]
 |n+1,h=>by
  have ih:=A.to_len (n:=n) (by omega)
  have hp:=(A.per (i:=n) (by omega)).2.1
  rw[toursTo_succ,List.length_append,Nat.succ_mul]
  split
  ·rw[tourL_len];omega
  ·simp only[List.length_nil];omega
def idxTo (r:List T5) (n:Nat):List Nat:=(List.range n).flatMap fun i=>if rootB r i then(List.range (perA r i)).map fun k=>itF (sigF r) k i else[]
theorem idxTo_succ (r:List T5) (n:Nat):idxTo r (n+1)=idxTo r n++if rootB r n then(List.range (perA r n)).map (fun k=>itF (sigF r) k n) else[]:=by
 unfold idxTo;rw[List.range_succ,List.flatMap_append];simp
theorem idxTo_len (r:List T5):∀n,(idxTo r n).length=(toursTo r n).length
 |0=>rfl
 |n+1=>by
  rw[idxTo_succ,toursTo_succ,List.length_append,List.length_append,idxTo_len r n]
  split
  ·rw[tourL_len];simp
  ·rfl
theorem idxTo_mem {r:List T5} {n x:Nat} (h:x∈idxTo r n):∃i,i<n∧rootB r i=true∧∃k,k<perA r i∧x=itF (sigF r) k i:=by
 obtain⟨i,hi,hx⟩:=List.mem_flatMap.1 h
 split at hx
 next hr=>
  obtain⟨k,hk,rfl⟩:=List.mem_map.1 hx
  exact⟨i,List.mem_range.1 hi,hr,k,List.mem_range.1 hk,rfl⟩
 next=>simp at hx
namespace Arcs
variable {a f r:List T5}
theorem lab (A:Arcs a f r) (hl:∀e∈f,(at5 a e.c1.toNat).c1=(at5 a e.c2.toNat).c1) {k:Nat} (h:k<r.length):(at5 r k).c3=(at5 a (at5 r k).c1.toNat).c1:=by
 obtain⟨e,he,hk|hk⟩:=A.edge h
 ·rw[hk]
 ·rw[hk];exact hl e he
theorem sig_lab (A:Arcs a f r) (hl:∀e∈f,(at5 a e.c1.toNat).c1=(at5 a e.c2.toNat).c1) {k:Nat} (h:k<r.length):(at5 r (sigF r k)).c3=(at5 r k).c3:=by
 have h1:=A.lab hl (sigF_lt k h)
 have h2:=A.lab hl (brotherF_lt h)
 rw[A.bro h] at h2
 dsimp only at h2
 rw[h1,A.sig_from h,h2]
theorem it_lab (A:Arcs a f r) (hl:∀e∈f,(at5 a e.c1.toNat).c1=(at5 a e.c2.toNat).c1) {i:Nat} (h:i<r.length):∀k,(at5 r (itF (sigF r) k i)).c3=(at5 r i).c3
 |0=>rfl
 |k+1=>by
  show(at5 r (sigF r (itF (sigF r) k i))).c3=_
  rw[A.sig_lab hl (itF_lt sigF_lt h k),A.it_lab hl h k]
theorem root_uniq (A:Arcs a f r) {i j:Nat} (hij:i<j) (hj:j<r.length) (hri:rootB r i=true) (hrj:rootB r j=true):(at5 r i).c3≠(at5 r j).c3:=by
 intro h
 unfold rootB at hri hrj
 obtain⟨i1,_⟩:=of_decide_eq_true hri
 obtain⟨j1,j2⟩:=of_decide_eq_true hrj
 have e1:=at5le A.sa (show i≤j-1 by omega) (by omega)
 have e2:=at5le A.sa (show j-1≤j by omega) hj
 exact j2 (by omega) (by omega)
theorem idx_nodup (A:Arcs a f r) (hl:∀e∈f,(at5 a e.c1.toNat).c1=(at5 a e.c2.toNat).c1):∀{n:Nat},n≤r.length→(idxTo r n).Nodup
 |0,_=>by simp[idxTo]
 |n+1,h=>by
  rw[idxTo_succ,List.nodup_append]
  obtain⟨P0,P1,P2,P3⟩:=A.per (i:=n) (by omega)
  refine⟨A.idx_nodup hl (by omega),?_,?_⟩
  ·split
   ·by_cases hn:((List.range (perA r n)).map fun k=>itF (sigF r) k n).Nodup
    ·exact hn
    ·obtain⟨x,y,h1,h2,h3⟩:=two_of_not_nodup hn
     rw[show y=x+(y-x) by omega,itF_add] at h3
     have:=itF_inj (f:=sigF r) sigF_lt A.sig_inj (show n<r.length by omega) (itF_lt sigF_lt (by omega) _) x h3
     exact(P3 (y-x) (by omega) (by omega) this.symm).elim
   ·simp
  ·intro x hx y hy hxy
   subst hxy
   split at hy
   next hr=>
    obtain⟨k,_,hk⟩:=List.mem_map.1 hy
    obtain⟨i,hi,hri,k2,_,hk2⟩:=idxTo_mem hx
    refine A.root_uniq hi (by omega) hri hr ?_
    rw[←A.it_lab hl (show i<r.length by omega) k2,←hk2,←hk,A.it_lab hl (by omega) k]
   next=>simp at hy
theorem tours_len (A:Arcs a f r) (hl:∀e∈f,(at5 a e.c1.toNat).c1=(at5 a e.c2.toNat).c1):(toursF r).length≤r.length:=by
 unfold toursF
 rw[←idxTo_len]
 have:=(A.idx_nodup hl (Nat.le_refl _)).length_le_of_subset (l₂:=List.range r.length) (by
  intro x hx
  obtain⟨i,hi,_,k,_,rfl⟩:=idxTo_mem hx
  exact List.mem_range.2 (itF_lt sigF_lt hi k))
 simpa using this
end Arcs
theorem brotherF_eq {r:List T5} {k i:Nat} (hi:i<r.length) (hno:∀j,j<i→¬(j≠k∧(at5 r j).c0.tdiv 2=(at5 r k).c0.tdiv 2)) (h:i≠k∧(at5 r i).c0.tdiv 2=(at5 r k).c0.tdiv 2):brotherF r k=i:=by
 unfold brotherF
 have:(List.range r.length).find? (fun i=>decide (i≠k∧(at5 r i).c0.tdiv 2=(at5 r k).c0.tdiv 2))=some i:=by
  rw[List.find?_range_eq_some]
  refine⟨decide_eq_true h,List.mem_range.2 hi,fun j hj=> ?_⟩
  have h2:=hno j hj
  rw[Bool.not_eq_true']
  exact decide_eq_false h2
 rw[this];rfl
theorem brotherF_no {r:List T5} {k:Nat} (hno:∀j,j<r.length→¬(j≠k∧(at5 r j).c0.tdiv 2=(at5 r k).c0.tdiv 2)):brotherF r k=k:=by
 unfold brotherF
 have:(List.range r.length).find? (fun i=>decide (i≠k∧(at5 r i).c0.tdiv 2=(at5 r k).c0.tdiv 2))=none:=by
  rw[List.find?_eq_none]
  intro j hj hd
  exact hno j (List.mem_range.1 hj) (of_decide_eq_true hd)
 rw[this];rfl
theorem brother16ct (p:Option Addr) (m cap:Nat) (r:List T5) (c:Chunk) (hv:RV p m r c) (hm:m≤1000000) (hc:∀t∈r,0≤t.c0∧t.c0≤4398046511104) (k:Nat) (hk:k<m):
  CtQ Tryz.prog 71 [.slice p m cap,.int .i64 (k:Int)] [c] (.int .i64 (brotherF r k:Int)):=by
 have hl:=hv.1
 obtain⟨b,off,cs,T,fz,rfl,rfl,_,hget⟩:=(RV.rw hv).pos tcells_len (by omega)
 have hg:∀j,j<m→cs[off+j*5]? =some (.int .i64 (at5 r j).c0):=fun j hj=>by have:=hget j 0 _ _ (at5get (by omega)) rfl;rwa[Nat.add_zero] at this
 have hd:∀j,j<m→IntKind.wrap .i64 ((at5 r j).c0.tdiv 2)=(at5 r j).c0.tdiv 2:=fun j hj=>by
  have:=hc _ (at5mem (r:=r) (k:=j) (by omega))
  have e:=Int.tdiv_eq_ediv_of_nonneg (b:=2) this.1
  rw[e];exact wrap_i64 (by omega)
 have q0:=hg k hk
 have d0:=hd k hk
 refine Ct.intro Tryz.func71 rfl Tryz.ntmps71 (nle rfl) fun w0=> ?_;dsimp only[argSlots,Nat.reduceAdd]
 repeat(first|(refine st ?_;intros)|refine G.draw [] (h:= ?_))
 refine G.loop (X:=Nat) (fun i=>i≤m∧∀j,j<i→¬(j≠k∧(at5 r j).c0.tdiv 2=(at5 r k).c0.tdiv 2)) (fun i=>[(5,.int .i64 (i:Int)),(1,.int .i64 (k:Int)),(0,.slice (some ⟨b,off,none⟩) m cap)])
  (fun _=>[[(b,rowf cs T fz)]]) (fun i=>m-i) 0 ⟨Nat.zero_le _,fun j hj=>absurd hj (Nat.not_lt_zero j)⟩ (body:= ?_)
 rintro i ⟨hi,hno⟩
 by_cases hlt:i<m
 ·have q1:=hg i hlt
  have d1:=hd i hlt
  by_cases hik:i=k
  ·subst hik
   repeat(first|(refine st ?_;intros)|refine G.draw [] (h:= ?_))
   refine Dn.round (i+1) ⟨hlt,fun j hj h=> ?_⟩ (by omega)
   by_cases hji:j=i
   ·exact h.1 hji
   ·exact hno j (by omega) h
  ·by_cases hq:(at5 r i).c0.tdiv 2=(at5 r k).c0.tdiv 2
   ·have hb:=brotherF_eq (by omega) hno ⟨hik,hq⟩
    repeat(first|(refine st ?_;intros)|refine G.draw [] (h:= ?_))
    (refine Dn.post (Hr:=[[(b,rowf cs T fz)]]) Tryz.results71 (hR:= ?_);exact⟨congrArg (Value.int .i64) (by omega),rfl⟩)
   ·repeat(first|(refine st ?_;intros)|refine G.draw [] (h:= ?_))
    refine Dn.round (i+1) ⟨hlt,fun j hj h=> ?_⟩ (by omega)
    by_cases hji:j=i
    ·subst hji;exact hq h.2
    ·exact hno j (by omega) h
 ·obtain rfl:i=m:=by omega
  have hb:=brotherF_no (r:=r) (k:=k) (fun j hj=>hno j (by omega))
  repeat(first|(refine st ?_;intros)|refine G.draw [] (h:= ?_))
  (refine Dn.post (Hr:=[[(b,rowf cs T fz)]]) Tryz.results71 (hR:= ?_);exact⟨congrArg (Value.int .i64) (by omega),rfl⟩)
structure ToX where
 i:Nat
 n:Nat
 p:Option Addr
 cap:Nat
 ch:Chunk
structure TuX where
 k:Nat
 n:Nat
 p:Option Addr
 cap:Nat
 ch:Chunk
theorem Arcs.c0le {a f r:List T5} (A:Arcs a f r) {M:Int} (hf:∀t∈f,t.c0≤M):∀t∈r,0≤t.c0∧t.c0≤2*M+1:=by
 intro t ht
 obtain⟨k,hk,rfl⟩:=mem_at5 ht
 obtain⟨e,he,h⟩:=A.edge hk
 have h1:=hf e he
 have h2:=A.pos e he
 rcases h with h|h<;>rw[h]<;>dsimp only<;>omega
theorem Tours16ct (pa:Option Addr) (na ka:Nat) (a:List T5) (ca:Chunk) (hva:RV pa na a ca) (pf:Option Addr) (nf kf:Nat) (f:List T5) (cf:Chunk) (hvf:RV pf nf f cf) (hn:nf≤1000) (hna:na≤1000000)
  (hf:∀t∈f,0≤t.c0∧t.c0≤1099511627776∧0≤t.c1∧t.c1<na) (hnd:(f.map (·.c0)).Nodup):
  Ct Tryz.prog 30 [.slice pa na ka,.slice pf nf kf] [ca,cf] fun v H'=>∃p n cap c r,v= .slice p n cap∧H'=[ca,cf,c]∧n=(toursF r).length∧Vec 49 5 p n cap (flat (toursF r)) c∧Arcs a f r∧r.length=2*nf:=by
 have htv:∀t:T5,tv t= .agg #[.int .i64 t.c0,.int .i64 t.c1,.int .i64 t.c2,.int .i64 t.c3,.int .i64 t.c4]:=fun _=>rfl
 have hA:=Arcs16ct pa na ka a ca hva pf nf kf f cf hvf (by omega) hna hf
 refine Ct.intro Tryz.func30 rfl Tryz.ntmps30 (nle rfl) fun w0=> ?_;dsimp only[argSlots,Nat.reduceAdd]
 repeat(first|(refine st ?_;intros)|refine G.draw [] (h:= ?_)|(refine cq hBr ?_)|(refine cq hBe ?_))
 refine R.call (hct:=hA) (h:= ?_)
 rintro _ _ ⟨q,qcap,qc,r,rfl,rfl,hQ,hp,hs⟩
 try dsimp only[List.cons_append,List.nil_append]
 have A:Arcs a f r:=⟨hp,hs,hnd,fun t ht=>(hf t ht).1⟩
 have hrv:RV q (2*nf) r qc:=RV.vec hQ
 have hrl:r.length=2*nf:=hrv.1
 have hc0:=A.c0le (M:=1099511627776) (fun t ht=>(hf t ht).2.1)
 clear hQ
 repeat(first|(refine st ?_;intros)|refine G.draw [] (h:= ?_)|(refine cq hBr ?_)|(refine cq hBe ?_))
 refine G.loop (X:=ToX) (fun x=>x.i≤2*nf∧x.n=(toursTo r x.i).length∧Vec 49 5 x.p x.n x.cap (flat (toursTo r x.i)) x.ch)
  (fun x=>[(7,.int .i64 (x.i:Int)),(6,.slice x.p x.n x.cap),(5,.slice q (2*nf) qcap)])
  (fun x=>[ca,cf,qc,x.ch]) (fun x=>2*nf-x.i) ⟨0,0,none,0,[]⟩ ⟨Nat.zero_le _,rfl,Vec.nil _ _⟩ (by repeat(first|exact trivial|refine⟨rfl,?_⟩)) (by repeat(first|exact Split.nil|(apply Split.cons;·(first|exact Take.nil|(repeat(first|exact Take.here|apply Take.there)))))) ?_
 rintro⟨i,n,p,cap,ch⟩ ⟨hi,hni,hV⟩
 dsimp only at hi hni hV⊢
 by_cases hlt:i<2*nf
 rotate_left
 ·obtain rfl:i=2*nf:=by omega
  have hall:toursTo r (2*nf)=toursF r:=by unfold toursF;rw[hrl]
  rw[hall] at hV hni
  repeat(first|(refine st ?_;intros)|refine G.draw [] (h:= ?_)|(refine cq hBr ?_)|(refine cq hBe ?_))
  (refine Dn.post (Hr:=[ca,cf,ch]) Tryz.results30 (hR:= ?_);exact⟨p,n,cap,ch,r,rfl,rfl,hni,hV,A,hrl⟩)
 obtain⟨b,off,cs,T,fz,rfl,rfl,hcut,hget⟩:=(RV.rw hrv).pos tcells_len (by omega)
 have hg:∀j k v,j<2*nf→(tcells (at5 r j))[k]? =some v→cs[off+j*5+k]? =some v:=fun j k v hj hv=>hget j k _ _ (at5get (by omega)) hv
 have q1:=hg i 1 _ hlt rfl
 have q3:=hg i 3 _ hlt rfl
 have hto:=toursTo_succ r i
 have hlenT:=A.to_len (n:=i) (by omega)
 have hnb:n≤4000000:=by
  have h1:i*r.length≤2000*2000:=Nat.mul_le_mul (by omega) (by omega)
  omega
 by_cases hroot:rootB r i=true
 ·rw[if_pos hroot] at hto
  have hr:=hroot
  unfold rootB at hr
  obtain⟨hr1,hr2⟩:=of_decide_eq_true hr
  have hq:i=0∨(0<i∧cs[off+(i-1)*5+1]? =some (.int .i64 (at5 r (i-1)).c1)∧(at5 r (i-1)).c1≠(at5 r i).c1):=by
   rcases Nat.eq_zero_or_pos i with hz|hz
   ·exact .inl hz
   ·exact .inr ⟨hz,hg (i-1) 1 _ (by omega) rfl,hr2 hz⟩
  obtain⟨P0,P1,P2,P3⟩:=A.per (i:=i) (by omega)
  have hPd:perA r i=(tourL r i).length:=(tourL_len r i).symm
  have hBr:∀k,k<2*nf→CtQ Tryz.prog 71 [.slice (some ⟨b,off,none⟩) (2*nf) qcap,.int .i64 (k:Int)] [[(b,rowf cs T fz)]] (.int .i64 (brotherF r k:Int)):=fun k hk=>brother16ct _ _ _ r _ hrv (by omega) (fun t ht=>by have:=hc0 t ht;omega) k hk
  have hBe:∀k,k<2*nf→CtQ Tryz.prog 70 [.slice (some ⟨b,off,none⟩) (2*nf) qcap,.int .i64 (k:Int)] [[(b,rowf cs T fz)]] (.int .i64 (behindF r k:Int)):=fun k hk=>behind16ct _ _ _ r _ hrv (by omega) k hk
  have hbl:∀k,k<2*nf→brotherF r k<2*nf:=fun k hk=>by have:=brotherF_lt (r:=r) (k:=k) (by omega);omega
  have hsl:∀k,itF (sigF r) k i<2*nf:=fun k=>by have:=itF_lt (f:=sigF r) (m:=r.length) sigF_lt (i:=i) (by omega) k;omega
  have ei:((i:Int)-1).toNat=i-1:=by omega
  obtain hz|⟨hz,q1',hr3⟩:=hq
  all_goals
   repeat(first|(refine st ?_;intros)|refine G.draw [] (h:= ?_)|(refine cq hBr ?_)|(refine cq hBe ?_))
   refine G.loop (X:=TuX) (fun x=>x.k≤perA r i∧x.n=n+x.k∧Vec 49 5 x.p x.n x.cap (flat (toursTo r i++(List.range x.k).map (arcAt r i))) x.ch)
    (fun x=>[(9,.int .i64 (x.k:Int)),(8,.int .i64 (itF (sigF r) x.k i:Int)),(7,.int .i64 (i:Int)),(6,.slice x.p x.n x.cap),(5,.slice (some ⟨b,off,none⟩) (2*nf) qcap)])
    (fun x=>[ca,cf,[(b,rowf cs T fz)],x.ch]) (fun x=>perA r i-x.k) ⟨0,n,p,cap,ch⟩ ⟨Nat.zero_le _,rfl,by simpa using hV⟩ (body:= ?_)
   rintro⟨k,m,p2,cap2,ch2⟩ ⟨hk,hm,hV2⟩
   dsimp only at hk hm hV2⊢
   by_cases hkP:k<perA r i
   ·have hq2:k=0∨(0<k∧itF (sigF r) k i≠i):=by
     rcases Nat.eq_zero_or_pos k with h|h
     ·exact .inl h
     ·exact .inr ⟨h,P3 k h hkP⟩
    have hs1:=hsl k
    have hs2:=hbl _ hs1
    have c5:(cs.drop (off+itF (sigF r) k i*5)).take 5=[.int .i64 (at5 r (itF (sigF r) k i)).c0,.int .i64 (at5 r (itF (sigF r) k i)).c1,.int .i64 (at5 r (itF (sigF r) k i)).c2,.int .i64 (at5 r (itF (sigF r) k i)).c3,.int .i64 (at5 r (itF (sigF r) k i)).c4]:=hcut _ _ (at5get (by omega))
    have hmx:m+1≤maxLen:=by simp only[maxLen];omega
    have hsn:flat (toursTo r i++(List.range (k+1)).map (arcAt r i))=flat (toursTo r i++(List.range k).map (arcAt r i))++[.int .i64 (at5 r (itF (sigF r) k i)).c0,.int .i64 (at5 r (itF (sigF r) k i)).c1,.int .i64 (at5 r (itF (sigF r) k i)).c2,.int .i64 (at5 r (itF (sigF r) k i)).c3,.int .i64 (k:Int)]:=by
     rw[List.range_succ,List.map_append,←List.append_assoc,flat_append];rfl
    obtain hk0|⟨hk0,hne⟩:=hq2
    all_goals
     repeat(first|(refine st ?_;intros)|refine G.draw [] (h:= ?_)|(refine cq hBr ?_)|(refine cq hBe ?_))
     rename_i p' cap' c' hV'
     have hV3:Vec 49 5 p' (m+1) cap' (flat (toursTo r i++(List.range (k+1)).map (arcAt r i))) c':=by rw[hsn];exact hV'
     refine Dn.round ⟨k+1,m+1,p',cap',c'⟩ ⟨hkP,by dsimp only;omega,hV3⟩ (by dsimp only;omega)
   ·obtain rfl:k=perA r i:=by omega
    have hk0:perA r i≠0:=by omega
    subst hm
    repeat(first|(refine st ?_;intros)|refine G.draw [] (h:= ?_)|(refine cq hBr ?_)|(refine cq hBe ?_))
    refine Dn.round ⟨i+1,n+perA r i,p2,cap2,ch2⟩ ⟨hlt,by dsimp only;rw[hto,List.length_append,←hPd,←hni],?_⟩ (by dsimp only;omega)
    dsimp only
    rw[hto]
    exact hV2
 ·rw[if_neg hroot,List.append_nil] at hto
  have hr:¬((at5 r i).c1=(at5 r i).c3∧(0<i→(at5 r (i-1)).c1≠(at5 r i).c1)):=fun h=>hroot (by unfold rootB;exact decide_eq_true h)
  have hq:(at5 r i).c1≠(at5 r i).c3∨((at5 r i).c1=(at5 r i).c3∧0<i∧cs[off+(i-1)*5+1]? =some (.int .i64 (at5 r (i-1)).c1)∧(at5 r (i-1)).c1=(at5 r i).c1):=by
   by_cases h1:(at5 r i).c1=(at5 r i).c3
   ·refine .inr ⟨h1,?_⟩
    rcases Nat.eq_zero_or_pos i with hz|hz
    ·exact(hr ⟨h1,fun h=>by omega⟩).elim
    ·refine⟨hz,hg (i-1) 1 _ (by omega) rfl,?_⟩
     by_cases h2:(at5 r (i-1)).c1=(at5 r i).c1
     ·exact h2
     ·exact(hr ⟨h1,fun _=>h2⟩).elim
   ·exact .inl h1
  have ei:((i:Int)-1).toNat=i-1:=by omega
  obtain hz|⟨h0,hz,q1',hr3⟩:=hq
  all_goals
   repeat(first|(refine st ?_;intros)|refine G.draw [] (h:= ?_)|(refine cq hBr ?_)|(refine cq hBe ?_))
   refine Dn.round ⟨i+1,n,p,cap,ch⟩ ⟨hlt,by dsimp only;rw[hto,hni],by dsimp only;rw[hto];exact hV⟩ (by dsimp only;omega)
end Go.Proofs.YtammjnjpheobaaaGreat
namespace Go.Gr
variable {g:Nat→Ed} {S S':Nat→Prop}
def Mn (g:Nat→Ed) (S:Nat→Prop) (v:Nat):Prop:=∀u,u<v→¬Cn g S u v
theorem least_of {p:Nat→Prop}:∀{n:Nat},p n→∃m,m≤n∧p m∧∀k,k<m→¬p k:=by
 intro n
 induction n using Nat.strongRecOn with
 |ind n ih=>
  intro h
  by_cases hx:∃k,k<n∧p k
  ·obtain⟨k,hk,hpk⟩:=hx
   obtain⟨m,hm,h1,h2⟩:=ih k hk hpk
   exact⟨m,by omega,h1,h2⟩
  ·exact⟨n,Nat.le_refl _,h,fun k hk hp=>hx ⟨k,hk,hp⟩⟩
theorem Mn.of (g:Nat→Ed) (S:Nat→Prop) (x:Nat):∃m,m≤x∧Cn g S m x∧Mn g S m:=by
 obtain⟨m,h1,h2,h3⟩:=least_of (p:=fun u=>Cn g S u x) (n:=x) (.refl x)
 exact⟨m,h1,h2,fun u hu hc=>h3 u hu (hc.trans h2)⟩
theorem Mn.uniq {a b:Nat} (ha:Mn g S a) (hb:Mn g S b) (h:Cn g S a b):a=b:=by
 rcases Nat.lt_trichotomy a b with h1|h1|h1
 ·exact(hb a h1 h).elim
 ·exact h1
 ·exact(ha b h1 h.symm).elim
theorem Mn.le {a b:Nat} (ha:Mn g S a) (h:Cn g S a b):a≤b:=by
 rcases Nat.lt_or_ge b a with h1|h1
 ·exact(ha b h1 h.symm).elim
 ·exact h1
theorem count_less {p q:Nat→Bool} {c:Nat}:∀{n:Nat},(∀v,v<n→(q v=true↔p v=true∧v≠c))→p c=true→c<n→((List.range n).filter q).length+1=((List.range n).filter p).length:=by
 have same:∀{n:Nat},(∀v,v<n→(q v=true↔p v=true∧v≠c))→n≤c→((List.range n).filter q).length=((List.range n).filter p).length:=by
  intro n h hn
  congr 1
  refine List.filter_congr fun v hv=> ?_
  have h1:=List.mem_range.1 hv
  have h2:=h v h1
  rw[Bool.eq_iff_iff,h2]
  exact⟨fun h=>h.1,fun h=>⟨h,by omega⟩⟩
 intro n
 induction n with
 |zero=>intro _ _ h;omega
 |succ n ih=>
  intro h hc hn
  rw[List.range_succ,List.filter_append,List.filter_append,List.length_append,List.length_append]
  by_cases hcn:c=n
  ·subst hcn
   have h1:=same (n:=c) (fun v hv=>h v (by omega)) (Nat.le_refl _)
   have h2:q c=false:=by
    cases hq:q c with
    |false=>rfl
    |true=>exact((h c (by omega)).1 hq).2.elim rfl
   simp[h1,h2,hc]
  ·have h1:=ih (fun v hv=>h v (by omega)) hc (by omega)
   have h2:q n=p n:=by
    rw[Bool.eq_iff_iff,h n (by omega)]
    exact⟨fun h=>h.1,fun h=>⟨h,fun e=>hcn e.symm⟩⟩
   have h3:(List.filter q [n]).length=(List.filter p [n]).length:=by simp[List.filter_cons,h2]
   omega
theorem forest_count {n:Nat} (mb:Nat→Nat→Bool) (kb:Nat→Bool) (hm:∀k v,mb k v=true↔Mn g (fun j=>j<k) v) (hk:∀i,kb i=true↔¬Cn g (fun j=>j<i) (g i).1 (g i).2):
  ∀m,(∀j,j<m→(g j).1<n∧(g j).2<n)→((List.range n).filter (mb m)).length+((List.range m).filter kb).length=n
 |0,_=>by
  have:(List.range n).filter (mb 0)=List.range n:=by
   rw[List.filter_eq_self]
   intro v _
   rw[hm]
   intro u hu hc
   have:u=v:=hc.stay (X:=fun y=>u=y) rfl (fun j hj=>absurd hj (Nat.not_lt_zero j))
   omega
  rw[this];simp
 |m+1,hg=>by
  have ih:=forest_count mb kb hm hk m (fun j hj=>hg j (by omega))
  rw[List.range_succ,List.filter_append,List.length_append]
  have hmono:∀{a b},Cn g (fun j=>j<m) a b→Cn g (fun j=>j<m+1) a b:=fun h=>h.mono fun i hi=>Nat.lt_succ_of_lt hi
  have hadd:∀{a b},Cn g (fun j=>j<m+1) a b→Cn g (fun j=>j<m∨j=m) a b:=fun h=>h.mono fun i hi=>by
   rcases Nat.lt_or_ge i m with h|h
   ·exact .inl h
   ·exact .inr (by omega)
  by_cases hc:Cn g (fun j=>j<m) (g m).1 (g m).2
  ·have hkm:kb m=false:=by
    cases h:kb m with
    |false=>rfl
    |true=>exact((hk m).1 h hc).elim
   have hsame:(List.range n).filter (mb (m+1))=(List.range n).filter (mb m):=by
    refine List.filter_congr fun v _=> ?_
    rw[Bool.eq_iff_iff,hm,hm]
    refine⟨fun h u hu hx=>h u hu (hmono hx),fun h u hu hx=> ?_⟩
    refine h u hu ((hadd hx).sub fun i hi=> ?_)
    rcases hi with hi|rfl
    ·exact Cn.edge hi
    ·exact hc
   rw[hsame];simp[hkm];omega
  ·have hkm:kb m=true:=(hk m).2 hc
   obtain⟨a,a1,a2,a3⟩:=Mn.of g (fun j=>j<m) (g m).1
   obtain⟨b,b1,b2,b3⟩:=Mn.of g (fun j=>j<m) (g m).2
   have hab:a≠b:=by rintro rfl;exact hc (a2.symm.trans b2)
   have hgm:=hg m (by omega)
   have hedge:Cn g (fun j=>j<m+1) a b:=((hmono a2).trans (Cn.edge (Nat.lt_succ_self m))).trans (hmono b2).symm
   have hiff:∀v,Mn g (fun j=>j<m+1) v↔Mn g (fun j=>j<m) v∧v≠max a b:=by
    intro v
    constructor
    ·intro h
     refine⟨fun u hu hx=>h u hu (hmono hx),?_⟩
     rintro rfl
     rcases Nat.lt_or_ge a b with h1|h1
     ·refine h a (by omega) ?_
      rw[Nat.max_eq_right (by omega)];exact hedge
     ·refine h b (by omega) ?_
      rw[Nat.max_eq_left (by omega)];exact hedge.symm
    ·rintro⟨h,hne⟩ u hu hx
     rcases(hadd hx).add with h1|⟨h1,h2⟩|⟨h1,h2⟩
     ·exact h u hu h1
     ·have e1:=Mn.uniq b3 h (b2.trans h2)
      have e2:=Mn.le a3 (a2.trans h1.symm)
      refine hne ?_
      subst e1
      omega
     ·have e1:=Mn.uniq a3 h (a2.trans h2)
      have e2:=Mn.le b3 (b2.trans h1.symm)
      refine hne ?_
      subst e1
      omega
   have h1:=count_less (p:=mb m) (q:=mb (m+1)) (c:=max a b) (n:=n) (fun v _=>by rw[hm,hm,hiff]) (by
    rw[hm]
    rcases Nat.lt_or_ge a b with h|h
    ·rw[Nat.max_eq_right (by omega)];exact b3
    ·rw[Nat.max_eq_left (by omega)];exact a3) (by omega)
   simp[hkm]
   omega
end Go.Gr
