/-
  Parts of the proof, put together (14). No condition.
-/
import Derived.Test.YtammjnjpheobaaaGreatL13
set_option linter.unusedVariables false
set_option linter.unusedSimpArgs false
set_option linter.unnecessarySimpa false
set_option maxHeartbeats 4000000
open Bool renaming and_eq_true→DP
open Go.IntKind renaming wrap→AH
open Go.Proofs.Tryz renaming prog→AC
open Int renaming toNat_natCast→AP
open List renaming cons_append→AA,nil_append→AB,getElem?_eq_getElem→AE,length_append→AF,mem_cons_self→AI,mem_cons_of_mem→AJ,getElem?_eq_some_iff→AK,length_cons→AL,mem_cons→AM,mem_append→AO,append_nil→AQ,append_assoc→AR,mem_map→AT,length_nil→AU,map_append→AV,length_map→AX,mem_singleton→AY,mem_of_getElem?→AZ,map_cons→A0,take_of_length_le→A4,flatMap_cons→A6,getElem?_append_left→A7,getElem?_append_right→BB,getElem?_eq_none→BC,range→BE,mem_range→BF,pairwise_cons→BH,length_take→BK,mem_append_right→BL,drop_eq_getElem_cons→BM,take_add_one→BN,getElem?_map→BP,pairwise_iff_getElem→BQ,take_append_drop→BT,getElem?_take→BV,replicate→BW,pairwise_map→BX,nodup_append→B5,filter_append→B8,flatMap_append→B9,nodup_cons→CB,mem_iff_getElem→CC,ext_getElem?→CD,mem_flatMap→CF,pairwise_append→CG,singleton_append→CH,not_mem_nil→CJ,getElem?_set_ne→CR,getElem?_set_self→DG,length_set→DJ,getElem?_range→DT,take→DV,range_succ→DZ,map_map→EE
open List.Pairwise renaming imp_of_mem→DX
open Nat renaming reduceAdd→AD,le_refl→AG,zero_le→AS,mul_le_mul_right→A5,mul_le_mul_left→BU,lt_trichotomy→CV,lt_or_ge→DQ
open Option renaming map_some→DI
open Option.some renaming injEq→A9,inj→BG
namespace Go.Proofs.YtammjnjpheobaaaGreat
open Go.SL Go.Tup Go.Gr Go.Srt
theorem aJi {α β:Type} {f g:α→List β}:∀{l:List α},(∀x∈l,f x=g x)→l.flatMap f=l.flatMap g
 |[],_=>rfl
 |x::l,h=>by rw[A6,A6,h x AI,aJi fun y hy=>h y (AJ _ hy)]
def Je (es:List IE) (u:Int) (v:Nat):Prop:=0≤u∧Jn (gE es) (fun i=>i<es.length) u.toNat v
def aIe (b:List T5) (x:Int):List T5:=b.filter fun t=>decide (t.c3=x)
structure LabT (es:List IE) (lab:List Int) (b:List T5) (x:Nat) (T:Fo):Prop where
 vis:(aIe b x).map (aJm b)=trv x 0 x T
 nd:T.vs.Nodup
 vs:∀v,v∈T.vs↔lab[v]? =some (x:Int)∧v≠x
 jo:T.Jo (Je es) x
 root:lab[x]? =some (x:Int)
namespace aAm
variable {N:Nat} {es:List IE} {lab:List Int} {fl:List Bool} {r b:List T5}
theorem lab_cn (h:aAm N es lab fl r b) {v x:Nat} (hv:lab[v]? =some (x:Int)):v<N∧Cn (gE es) (Fs fl) v x:=by
 have hN:v<N:=by rw[←h.labs.len];exact(AK.1 hv).1
 obtain⟨y,h1,_,h3,_⟩:=h.labs.root hN
 have:=BG (hv.symm.trans h1)
 obtain rfl:x=y:=by omega
 exact⟨hN,h.cn_f.1 h3⟩
theorem lab_arc (h:aAm N es lab fl r b) (hf:∀e∈es,inE N e) {v x:Nat} (hv:lab[v]? =some (x:Int)) (hne:v≠x):∃k,k<r.length∧(at5 r k).c1=v∧(at5 r k).c3=x:=by
 obtain⟨hN,hc⟩:=h.lab_cn hv
 have hs:=hc.symm
 cases hs with
 |refl=>exact(hne rfl).elim
 |step _ hj=>
  obtain⟨k,hk,k1,_⟩:=h.arc_at hf hj.symm
  obtain⟨y,y1,_,y2,_⟩:=h.lab_at hf hk
  refine⟨k,hk,k1,?_⟩
  rw[k1,AP,hv] at y2
  rw[y1]
  exact(BG y2).symm
theorem ofLab_eq (h:aAm N es lab fl r b) (hf:∀e∈es,inE N e) (x:Int):aIe b x=(BE r.length).flatMap fun j=>if aFn r j then(if(at5 r j).c3=x then aMq r j else[]) else[]:=by
 unfold aIe
 conv=>lhs;rw[h.tours]
 unfold aGf aCw
 rw[List.filter_flatMap]
 refine aJi fun j hj=> ?_
 have hj:=BF.1 hj
 split
 next hr=>
  have hc:∀t∈aMq r j,t.c3=(at5 r j).c3:=fun t ht=>by
   obtain⟨n,_,rfl⟩:=AT.1 ht
   exact h.arcs.it_lab (h.hl hf) hj n
  split
  next hx=>exact List.filter_eq_self.2 fun t ht=>decide_eq_true (by rw[hc t ht,hx])
  next hx=>
   exact List.filter_eq_nil_iff.2 fun t ht=>by
    have:=hc t ht
    simp only[decide_eq_true_eq]
    rw[this];exact hx
 next=>rfl
theorem label_tree (h:aAm N es lab fl r b) (hf:∀e∈es,inE N e) {x:Nat} (hx:lab[x]? =some (x:Int)):∃T,LabT es lab b x T:=by
 by_cases hex:∃i,i<r.length∧aFn r i=true∧(at5 r i).c3=(x:Int)
 ·obtain⟨i,hi,hr,hc3⟩:=hex
  have huniq:∀j,j<r.length→aFn r j=true→(at5 r j).c3=(x:Int)→j=i:=by
   intro j hj hrj hcj
   rcases CV i j with h1|h1|h1
   ·exact(h.arcs.root_uniq h1 hj hr hrj (by rw[hc3,hcj])).elim
   ·exact h1.symm
   ·exact(h.arcs.root_uniq h1 hi hrj hr (by rw[hc3,hcj])).elim
  have hb:aIe b x=aMq r i:=by
   rw[h.ofLab_eq hf]
   have:=bAf (aMq r i) i (p:=fun j=>aFn r j&&decide ((at5 r j).c3=(x:Int))) (n:=r.length) (fun j hj hp=>by
    rw[DP,decide_eq_true_eq] at hp
    exact huniq j hj hp.1 hp.2)
   rw[if_pos ⟨hi,by rw[DP,decide_eq_true_eq];exact⟨hr,hc3⟩⟩] at this
   rw[←this]
   refine aJi fun j hj=> ?_
   have hj:=BF.1 hj
   by_cases h1:aFn r j=true
   ·by_cases h2:(at5 r j).c3=(x:Int)
    ·have:=huniq j hj h1 h2
     subst this
     simp[h1,h2]
    ·simp[h1,h2]
   ·simp[h1]
  have htw:=h.tw hf hi
  obtain⟨T,hT⟩:=htw.trees
  have hlen:=hT.len
  have hroot:=hr
  unfold aFn at hroot
  obtain⟨hroot,_⟩:=of_decide_eq_true hroot
  have hv0:vtA r i 0=x:=by show(at5 r i).c1.toNat=x;rw[hroot,hc3,AP]
  refine⟨T,?_,htw.vs_nodup (AG _) hT,?_,?_,hx⟩
  ·rw[hb]
   have hv:=hT.vis (x:=(x:Int)) (f:=fun n=>aJm b (aFd r i n)) (fun n hn=>by
    rw[h.vis_at hf hi hr,hc3])
   rw[hv0] at hv
   rw[←hv,show 2*T.sz=aHs r i by omega]
   unfold aMq
   rw[EE,List.range_eq_range'];rfl
  ·intro v
   rw[hT.vs_mem v]
   constructor
   ·rintro⟨k,_,k2,k3,rfl⟩
    refine⟨?_,fun hq=>htw.first k2 k3 (AS k) (by rw[hv0];exact hq.symm)⟩
    obtain⟨y,y1,_,y2,_⟩:=h.lab_at hf (aBy (f:=aDj r) aBj hi (k+1))
    rw[h.arcs.it_lab (h.hl hf) hi,hc3] at y1
    unfold vtA
    rw[y2,←y1]
   ·rintro⟨hv,hne⟩
    obtain⟨k,hk,k1,k2⟩:=h.lab_arc hf hv hne
    obtain⟨i',hi',hr',hc',hR⟩:=h.root_of hf hk
    have:=huniq i' hi' hr' (by rw[hc',k2])
    subst this
    obtain⟨n,hn,he⟩:=h.arcs.pos_of hi hR
    have hvn:vtA r i' n=v:=by unfold vtA;rw[he,k1,AP]
    obtain⟨p,p1,p2,p3⟩:=htw.down_of (j:=n) (by omega) (by rw[hvn,hv0];exact hne)
    exact⟨p,by omega,by omega,p2,by rw[p3,hvn]⟩
  ·have:=hT.jo (J:=Je es) (fun k hk=>by
    refine⟨by omega,edA r i k,?_,?_⟩
    ·have:=htw.mem k hk
     unfold Fs at this
     have:=(AK.1 this).1
     rw[←h.fors.1];exact this
    ·have:=htw.ends k hk
     rw[AP];exact this)
   rwa[hv0] at this
 ·have hb:aIe b x=[]:=by
   rw[h.ofLab_eq hf]
   refine List.flatMap_eq_nil_iff.2 fun j hj=> ?_
   have hj:=BF.1 hj
   split
   next h1=>
    split
    next h2=>exact(hex ⟨j,hj,h1,h2⟩).elim
    next=>rfl
   next=>rfl
  refine⟨.nil,by rw[hb];rfl,by simp[Fo.vs],?_,trivial,hx⟩
  intro v
  simp only[Fo.vs,CJ,false_iff]
  rintro⟨hv,hne⟩
  obtain⟨k,hk,k1,k2⟩:=h.lab_arc hf hv hne
  obtain⟨i',hi',hr',hc',_⟩:=h.root_of hf hk
  exact hex ⟨i',hi',hr',by rw[hc',k2]⟩
end aAm
def vsT (tl:List (Nat×Fo)):List T5:=tl.flatMap fun y=>⟨(y.1:Int),-1,(y.1:Int),-1,((y.2.sz+1:Nat):Int)⟩::trv y.1 0 y.1 y.2
def aCr:List (Nat×Fo)→Fo
 |[]=> .nil
 |y::tl=> .node y.1 y.2 (aCr tl)
theorem aJj (y:Nat×Fo) (tl:List (Nat×Fo)):vsT (y::tl)=⟨(y.1:Int),-1,(y.1:Int),-1,((y.2.sz+1:Nat):Int)⟩::(trv y.1 0 y.1 y.2++vsT tl):=by unfold vsT;rw[A6];rfl
theorem aPu {x:Int}:∀{T:Fo} {p:Nat} {u:Int} {e:T5},e∈trv x p u T→e.c0=x∧(p:Int)≤e.c1∧e.c1<((p+2*T.sz:Nat):Int)
 | .nil,_,_,_,h=>by simp[trv] at h
 | .node v s r,p,u,e,h=>by
  simp only[trv,AM,AO] at h
  simp only[Fo.sz]
  rcases h with rfl|h|rfl|h
  ·refine⟨rfl,by dsimp only;omega,by dsimp only;omega⟩
  ·have:=aPu h;exact⟨this.1,by omega,by omega⟩
  ·refine⟨rfl,by dsimp only;omega,by dsimp only;omega⟩
  ·have:=aPu h;exact⟨this.1,by omega,by omega⟩
theorem aMf {x:Int}:∀{T:Fo} {p:Nat} {u:Int},(trv x p u T).Pairwise fun a b=>ltO o12 a b=true
 | .nil,_,_=> .nil
 | .node v s r,p,u=>by
  simp only[trv,BH,CG,AO,AM]
  refine⟨?_,aMf,⟨?_,aMf⟩,?_⟩
  ·rintro e (h|rfl|h)<;>rw[aKd]
   ·have:=aPu h;dsimp only;omega
   ·dsimp only;omega
   ·have:=aPu h;dsimp only;omega
  ·intro e h
   have:=aPu h;rw[aKd];dsimp only;omega
  ·rintro a ha e (rfl|h)<;>rw[aKd]<;>have h1:=aPu ha
   ·dsimp only;omega
   ·have:=aPu h;omega
theorem bGv:∀{tl:List (Nat×Fo)} {e:T5},e∈vsT tl→∃y∈tl,e.c0=(y.1:Int)
 |[],_,h=>by simp[vsT] at h
 |y::tl,e,h=>by
  rw[aJj] at h
  simp only[AM,AO] at h
  rcases h with rfl|h|h
  ·exact⟨y,AI,rfl⟩
  ·exact⟨y,AI,(aPu h).1⟩
  ·obtain⟨z,hz,he⟩:=bGv h
   exact⟨z,AJ _ hz,he⟩
theorem aRf:∀{tl:List (Nat×Fo)},tl.Pairwise (fun a b=>a.1<b.1)→(vsT tl).Pairwise fun a b=>ltO o12 a b=true
 |[],_=> .nil
 |y::tl,h=>by
  rw[BH] at h
  rw[aJj]
  simp only[BH,CG,AO]
  refine⟨?_,aMf,aRf h.2,?_⟩
  ·rintro e (he|he)<;>rw[aKd]
   ·have:=aPu he;dsimp only;omega
   ·obtain⟨z,hz,hq⟩:=bGv he
    have:=h.1 z hz;dsimp only;omega
  ·intro a ha e he
   rw[aKd]
   obtain⟨z,hz,hq⟩:=bGv he
   have:=h.1 z hz
   have:=aPu ha;omega
theorem aVw {α:Type} (a:α→T5) (g:α→List T5):∀l:List α,(l.flatMap fun y=>a y::g y).Perm (l.map a++l.flatMap g)
 |[]=> .refl _
 |y::l=>by
  rw[A6,A6,A0,AA,AA]
  exact(((aVw a g l).append_left (g y)).trans (List.perm_append_comm_assoc ..)).cons _
theorem aPe (b:List T5):∀{l:List Int},l.Pairwise (·<·)→(l.flatMap (aIe b)).Perm (b.filter fun t=>decide (t.c3∈l))
 |[],_=>by simp
 |y::l,h=>by
  rw[BH] at h
  rw[A6]
  have h1:=List.filter_append_perm (fun t:T5=>decide (t.c3=y)) (b.filter fun t=>decide (t.c3∈y::l))
  rw[List.filter_filter,List.filter_filter] at h1
  refine List.Perm.trans ?_ h1
  refine List.Perm.trans ((aPe b h.2).append_left _) (List.Perm.of_eq ?_)
  unfold aIe
  congr 1
  ·refine List.filter_congr fun t _=> ?_
   by_cases hq:t.c3=y<;>simp[hq]
  ·refine List.filter_congr fun t _=> ?_
   by_cases hq:t.c3=y
   ·have:¬t.c3∈l:=fun hm=>by have:=h.1 _ hm;omega
    simp[hq] at this⊢
    exact this
   ·simp[hq]
theorem aSw {x:Int}:∀{T:Fo} {p u:Nat} {d:Int} {n:Nat},-1≤d→d+T.sz≤1000000000→n+T.sz≤1000000000→(aMr 0 0).all (d,(n:Int)) (trv x p u T)=aHd u d n T∧(aMr 0 0).st (d,(n:Int)) (trv x p u T)=(d,((n+T.sz:Nat):Int))
 | .nil,_,_,_,_,_,_,_=>⟨rfl,rfl⟩
 | .node v s r,p,u,d,n,h1,h2,h3=>by
  simp only[Fo.sz] at h2 h3⊢
  obtain⟨a1,a2⟩:=aSw (x:=x) (T:=s) (p:=p+1) (u:=v) (d:=d+1) (n:=n+1) (by omega) (by omega) (by omega)
  obtain⟨b1,b2⟩:=aSw (x:=x) (T:=r) (p:=p+2+2*s.sz) (u:=u) (d:=d) (n:=n+1+s.sz) (by omega) (by omega) (by omega)
  have e1:AH .i64 (d+1)=d+1:=aAd (by omega)
  have e2:AH .i64 ((n:Int)+1)=((n+1:Nat):Int):=aAd (by omega)
  have e3:AH .i64 (((n+1:Nat):Int)-1)=(n:Int):=by rw[aAd (by omega)];omega
  have e4:AH .i64 (d+1-1)=d:=by rw[aAd (by omega)];omega
  have v1:¬(v:Int)= -1:=by omega
  have u1:¬(u:Int)= -1:=by omega
  have f1:(aMr 0 0).outs (d,(n:Int)) ⟨x,(p:Int),(v:Int),(u:Int),((s.sz+1:Nat):Int)⟩=[⟨(v:Int),(u:Int),(n:Int),((s.sz+1:Nat):Int),d+1⟩]:=by
   unfold aMr;dsimp only;rw[if_neg v1,if_neg u1,e1,e2,e3]
  have f2:(aMr 0 0).next (d,(n:Int)) ⟨x,(p:Int),(v:Int),(u:Int),((s.sz+1:Nat):Int)⟩=(d+1,((n+1:Nat):Int)):=by
   unfold aMr;dsimp only;rw[if_neg v1,if_neg u1,e1,e2]
  have g1:∀m q:Int,(aMr 0 0).outs (d+1,m) ⟨x,q,-1,-1,0⟩=[]:=fun m q=>rfl
  have g2:∀m q:Int,(aMr 0 0).next (d+1,m) ⟨x,q,-1,-1,0⟩=(d,m):=fun m q=>by
   unfold aMr;dsimp only;rw[if_pos rfl,e4]
  simp only[trv,aHd,aAt.all,aAt.st,aAt.all_app,aAt.st_app,f1,f2,a1,a2,g1,g2,b1,b2,CH,AB]
  refine⟨trivial,?_⟩
  congr 1;omega
theorem aSx:∀{tl:List (Nat×Fo)} {d:Int} {n:Nat},n+(aCr tl).sz≤1000000000→(aMr 0 0).all (d,(n:Int)) (vsT tl)=aHd (-1) (-1) n (aCr tl)
 |[],_,_,_=>rfl
 |y::tl,d,n,h=>by
  simp only[aCr,Fo.sz] at h
  obtain⟨a1,a2⟩:=aSw (x:=(y.1:Int)) (T:=y.2) (p:=0) (u:=y.1) (d:=0) (n:=n+1) (by omega) (by omega) (by omega)
  have b1:=aSx (tl:=tl) (d:=0) (n:=n+1+y.2.sz) (by omega)
  have e2:AH .i64 ((n:Int)+1)=((n+1:Nat):Int):=aAd (by omega)
  have e3:AH .i64 (((n+1:Nat):Int)-1)=(n:Int):=by rw[aAd (by omega)];omega
  have v1:¬(y.1:Int)= -1:=by omega
  have f1:(aMr 0 0).outs (d,(n:Int)) ⟨(y.1:Int),-1,(y.1:Int),-1,((y.2.sz+1:Nat):Int)⟩=[⟨(y.1:Int),-1,(n:Int),((y.2.sz+1:Nat):Int),0⟩]:=by
   unfold aMr;dsimp only;rw[if_neg v1,if_pos rfl,e2,e3]
  have f2:(aMr 0 0).next (d,(n:Int)) ⟨(y.1:Int),-1,(y.1:Int),-1,((y.2.sz+1:Nat):Int)⟩=(0,((n+1:Nat):Int)):=by
   unfold aMr;dsimp only;rw[if_neg v1,if_pos rfl,e2]
  rw[aJj]
  simp only[aCr,aHd,aAt.all,aAt.all_app,f1,f2,a1,a2,b1,CH]
  rfl
theorem bJx (x:Int):∀(l:List Int) (S:List Nat),S.Nodup→(∀v,v∈S↔l[v]? =some x)→l.count x=S.length:=by
 intro l S hn hS
 have h1:S.Perm ((BE l.length).filter fun v=>l[v]? ==some x):=by
  rw[List.perm_ext_iff_of_nodup hn (List.nodup_range.sublist List.filter_sublist)]
  intro v
  rw[hS,List.mem_filter,BF]
  constructor
  ·intro h;exact⟨(AK.1 h).1,by simp[h]⟩
  ·intro h;simpa using h.2
 rw[h1.length_eq,←List.countP_eq_length_filter]
 clear h1 hS hn
 induction l with
 |nil=>rfl
 |cons a l ih=>
  rw[AL,List.range_succ_eq_map,List.countP_cons,List.countP_map,List.count_cons,ih]
  congr 1
theorem bJy {l:List (Int×Nat)} {Q:Nat→Fo→Prop} (h:∀y∈l,∃(x:Nat) (T:Fo),y=((x:Int),T.sz+1)∧Q x T):∃tl:List (Nat×Fo),l=tl.map (fun z=>((z.1:Int),z.2.sz+1))∧∀z∈tl,Q z.1 z.2:=by
 induction l with
 |nil=>exact⟨[],rfl,by simp⟩
 |cons y l ih=>
  obtain⟨tl,h1,h2⟩:=ih fun z hz=>h z (AJ _ hz)
  obtain⟨x,T,hy,hq⟩:=h y AI
  refine⟨(x,T)::tl,by rw[A0,←h1,hy],fun z hz=> ?_⟩
  rcases AM.1 hz with rfl|hz
  ·exact hq
  ·exact h2 z hz
structure bJz (N:Nat) (es:List IE) (lab:List Int) (b:List T5) (tl:List (Nat×Fo)):Prop where
 up:tl.Pairwise fun a b=>a.1<b.1
 tree:∀y∈tl,LabT es lab b y.1 y.2
 all:∀v,v<N→∃y∈tl,lab[v]? =some (y.1:Int)
 len:lab.length=N
theorem aAm.tl {N:Nat} {es:List IE} {lab:List Int} {fl:List Bool} {r b:List T5} (h:aAm N es lab fl r b) (hf:∀e∈es,inE N e) (hN:N≤1000000):∃tl,bJz N es lab b tl∧aSv (aHg lab) b=vsT tl:=by
 obtain⟨l,hl,hlp,hlm,hla⟩:=aVv (lab:=lab) (fun x hx=>by obtain⟨v,rfl,_⟩:=h.labs.mem hx;omega) (by rw[h.labs.len];exact hN)
 have hroot:∀x:Int,x∈lab→∃v:Nat,x=(v:Int)∧v<N∧lab[v]? =some (v:Int):=fun x hx=>by
  obtain⟨i,hi,rfl⟩:=CC.1 hx
  obtain⟨v,h1,h2,h3,_⟩:=h.labs.root (v:=i) (by rw[←h.labs.len];exact hi)
  have hiN:i<N:=by rw[←h.labs.len];exact hi
  have h4:=h.labs.same (u:=v) (v:=i) (by omega) hiN h3.symm
  rw[AE hi] at h1
  exact⟨v,BG h1,by omega,by rw[h4,AE hi,h1]⟩
 obtain⟨tl,ht,hQ⟩:=bJy (l:=l) (Q:=fun x T=>LabT es lab b x T) (fun y hy=>by
  obtain⟨h1,h2⟩:=hlm y hy
  obtain⟨v,hv,hvN,hvl⟩:=hroot _ h1
  obtain⟨T,hT⟩:=h.label_tree hf hvl
  refine⟨v,T,?_,hT⟩
  have hc:=bJx (v:Int) lab (v::T.vs) (CB.2 ⟨fun hm=>((hT.vs v).1 hm).2 rfl,hT.nd⟩) (fun w=>by
   rw[AM,hT.vs w]
   constructor
   ·rintro(rfl|hw)
    ·exact hvl
    ·exact hw.1
   ·intro hw
    by_cases hq:w=v
    ·exact .inl hq
    ·exact .inr ⟨hw,hq⟩)
  rw[AL,T.vs_len] at hc
  refine Prod.ext hv ?_
  rw[h2,hv,hc])
 have hup:tl.Pairwise fun a b=>a.1<b.1:=by
  rw[ht,BX] at hlp
  exact hlp.imp fun {a b} hab=>by simpa using hab
 have hO:bJz N es lab b tl:=by
  refine⟨hup,hQ,fun v hv=> ?_,h.labs.len⟩
  have hv':v<lab.length:=by rw[h.labs.len];exact hv
  obtain⟨x,hx,he⟩:=hla lab[v] (List.getElem_mem hv')
  rw[ht] at hx
  obtain⟨z,hz,rfl⟩:=AT.1 hx
  exact⟨z,hz,by rw[AE hv',←he]⟩
 refine⟨tl,hO,?_⟩
 have hvs:vsT tl=tl.flatMap fun y=>(⟨(y.1:Int),-1,(y.1:Int),-1,((y.2.sz+1:Nat):Int)⟩:T5)::(aIe b y.1).map (aJm b):=by
  unfold vsT
  refine aJi fun y hy=> ?_
  rw[(hQ y hy).vis]
 refine srtOf ?_ (aRf hup)
 rw[hvs]
 refine(aVw _ _ tl).trans ?_
 rw[hl,ht,EE]
 refine List.Perm.append (List.Perm.of_eq (List.map_congr_left fun y _=>rfl)) ?_
 refine List.Perm.trans ?_ (h.turns_perm hf hN).symm
 rw[show(tl.flatMap fun y=>(aIe b y.1).map (aJm b))=((tl.map fun y=>(y.1:Int)).flatMap (aIe b)).map (aJm b) by rw[List.map_flatMap,List.flatMap_map]]
 refine List.Perm.map _ ((aPe b (by rw[BX];exact hup.imp fun {a b} hab=>by omega)).trans (List.Perm.of_eq (List.filter_eq_self.2 fun t htb=> ?_)))
 obtain⟨i,n,hi,hr,hn,rfl⟩:=h.b_arc htb
 obtain⟨y,y1,y2,y3,_⟩:=h.lab_at hf (aBy (f:=aDj r) aBj hi n)
 obtain⟨_,_,c1,c2,_⟩:=h.arc_g hf (aBy (f:=aDj r) aBj hi n)
 obtain⟨z,hz,hzl⟩:=hO.all (at5 r (itF (aDj r) n i)).c1.toNat (by omega)
 refine decide_eq_true (AT.2 ⟨z,hz,?_⟩)
 show(z.1:Int)=(at5 r (itF (aDj r) n i)).c3
 rw[y1]
 rw[y3] at hzl
 exact(BG hzl).symm
namespace bJz
variable {N:Nat} {es:List IE} {lab:List Int} {b:List T5}
theorem grove_mem:∀{tl:List (Nat×Fo)},(∀y∈tl,LabT es lab b y.1 y.2)→∀v,v∈(aCr tl).vs↔∃y∈tl,lab[v]? =some (y.1:Int)
 |[],_,v=>by simp[aCr,Fo.vs]
 |y::tl,h,v=>by
  have hy:=h y AI
  simp only[aCr,Fo.vs,AM,AO,grove_mem (fun z hz=>h z (AJ _ hz)) v,hy.vs v]
  constructor
  ·rintro(rfl|h1|h1)
   ·exact⟨y,.inl rfl,hy.root⟩
   ·exact⟨y,.inl rfl,h1.1⟩
   ·obtain⟨z,hz,h1⟩:=h1
    exact⟨z,.inr hz,h1⟩
  ·rintro⟨z,rfl|hz,h1⟩
   ·by_cases hq:v=z.1
    ·exact .inl hq
    ·exact .inr (.inl ⟨h1,hq⟩)
   ·exact .inr (.inr ⟨z,hz,h1⟩)
theorem grove_nodup:∀{tl:List (Nat×Fo)},(∀y∈tl,LabT es lab b y.1 y.2)→tl.Pairwise (fun a b=>a.1<b.1)→(aCr tl).vs.Nodup
 |[],_,_=>by simp[aCr,Fo.vs]
 |y::tl,h,hp=>by
  have hy:=h y AI
  rw[BH] at hp
  have ht:=fun z hz=>h z (AJ y hz)
  have hno:∀v,lab[v]? =some (y.1:Int)→v∉(aCr tl).vs:=fun v hv hm=>by
   obtain⟨z,hz,hq⟩:=(grove_mem ht v).1 hm
   have:=BG (hv.symm.trans hq)
   have:=hp.1 z hz
   omega
  simp only[aCr,Fo.vs,CB,AO,B5,not_or]
  refine⟨⟨fun hm=>((hy.vs _).1 hm).2 rfl,hno _ hy.root⟩,hy.nd,grove_nodup ht hp.2,?_⟩
  intro a ha c hc hac
  subst hac
  exact hno a ((hy.vs a).1 ha).1 hc
def Jr (es:List IE) (lab:List Int) (u:Int) (v:Nat):Prop:=Je es u v∨(u= -1∧lab[v]? =some (v:Int))
theorem jo_mono {J J':Int→Nat→Prop} (hJ:∀u v,J u v→J' u v):∀{T:Fo} {u:Int},T.Jo J u→T.Jo J' u
 | .nil,_,_=>trivial
 | .node v s r,u,h=>⟨hJ _ _ h.1,jo_mono hJ h.2.1,jo_mono hJ h.2.2⟩
theorem grove_jo:∀{tl:List (Nat×Fo)},(∀y∈tl,LabT es lab b y.1 y.2)→(aCr tl).Jo (Jr es lab) (-1)
 |[],_=>trivial
 |y::tl,h=>⟨.inr ⟨rfl,(h y AI).root⟩,jo_mono (fun _ _=> .inl) (h y AI).jo,grove_jo fun z hz=>h z (AJ _ hz)⟩
variable {tl:List (Nat×Fo)}
theorem vs_perm (h:bJz N es lab b tl):(aCr tl).vs.Perm (BE N):=by
 rw[List.perm_ext_iff_of_nodup (grove_nodup h.tree h.up) List.nodup_range]
 intro v
 rw[grove_mem h.tree,BF]
 constructor
 ·rintro⟨y,_,hv⟩
  rw[←h.len];exact(AK.1 hv).1
 ·exact h.all v
theorem sz (h:bJz N es lab b tl):(aCr tl).sz=N:=by
 rw[←(aCr tl).vs_len,h.vs_perm.length_eq,List.length_range]
end bJz
structure aAw (N:Nat) (es:List IE) (lab:List Int) (b:List T5) (tl:List (Nat×Fo)) (l:List T5):Prop where
 tlo:bJz N es lab b tl
 perm:l.Perm (aHd (-1) (-1) 0 (aCr tl))
 len:l.length=N
 at_:∀v,v<N→(at5 l v).c0=(v:Int)
theorem aAm.tab {N:Nat} {es:List IE} {lab:List Int} {fl:List Bool} {r b:List T5} (h:aAm N es lab fl r b) (hf:∀e∈es,inE N e) (hN:N≤1000000):∃tl,aSv (aHg lab) b=vsT tl∧aAw N es lab b tl (aKy (aHg lab) b):=by
 obtain⟨tl,hO,hv⟩:=h.tl hf hN
 have hsz:=hO.sz
 have hall:(aMr 0 0).all (0,0) (aSv (aHg lab) b)=aHd (-1) (-1) 0 (aCr tl):=by
  rw[hv]
  exact aSx (d:=0) (n:=0) (by omega)
 have hp:(aKy (aHg lab) b).Perm (aHd (-1) (-1) 0 (aCr tl)):=by
  unfold aKy;rw[hall];exact aEj _
 have hlen:(aKy (aHg lab) b).length=N:=by rw[hp.length_eq,aSs,hsz]
 refine⟨tl,hv,hO,hp,hlen,fun v hvN=> ?_⟩
 have h1:(aKy (aHg lab) b).map (·.c0)=(BE N).map fun (v:Nat)=>(v:Int):=by
  refine List.Perm.eq_of_pairwise (le:=fun x y:Int=>x≤y) (fun a b _ _ h1 h2=>by omega) ?_ ?_ ?_
  ·rw[BX]
   unfold aKy
   refine(aKu (aBv o1) false _).imp fun {a b} hab=> ?_
   have h2:ltO o1 b a=false:=by simpa using hab
   have h3:¬(ltO o1 b a=true):=by rw[h2];decide
   rw[aOq] at h3;omega
  ·rw[BX]
   exact List.pairwise_lt_range.imp fun {a b} hab=>by omega
  ·refine(hp.map _).trans ?_
   rw[aKg]
   exact hO.vs_perm.map _
 have h2:=congrArg (·[v]?) h1
 rw[BP,BP,DT hvN,aBs (by omega)] at h2
 exact BG h2
namespace aAw
variable {N:Nat} {es:List IE} {lab:List Int} {b:List T5} {tl:List (Nat×Fo)} {l:List T5}
theorem mem (h:aAw N es lab b tl l) {v:Nat} (hv:v<N):at5 l v∈aHd (-1) (-1) 0 (aCr tl):=h.perm.mem_iff.1 (bAb (by rw[h.len];exact hv))
theorem of (h:aAw N es lab b tl l) {e:T5} (he:e∈aHd (-1) (-1) 0 (aCr tl)):∃v,v<N∧e.c0=(v:Int)∧at5 l v=e:=by
 obtain⟨v,hv,hq⟩:=aSp (h.perm.mem_iff.2 he)
 rw[h.len] at hv
 exact⟨v,hv,by rw[←hq,h.at_ v hv],hq⟩
theorem nodup (h:aAw N es lab b tl l):(aCr tl).vs.Nodup:=bJz.grove_nodup h.tlo.tree h.tlo.up
theorem bnd (h:aAw N es lab b tl l) {v:Nat} (hv:v<N):0≤(at5 l v).c2∧(at5 l v).c2<N∧1≤(at5 l v).c3∧(at5 l v).c2+(at5 l v).c3≤N∧0≤(at5 l v).c4∧(at5 l v).c4<N:=by
 have:=aJs (h.mem hv)
 have:=h.tlo.sz
 omega
theorem par (h:aAw N es lab b tl l) {v:Nat} (hv:v<N):((at5 l v).c1= -1∧(at5 l v).c4=0∧lab[v]? =some (v:Int))∨
  ∃p:Nat,p<N∧(at5 l v).c1=(p:Int)∧(at5 l v).c4=(at5 l p).c4+1∧(at5 l p).c2<(at5 l v).c2∧(at5 l v).c2+(at5 l v).c3≤(at5 l p).c2+(at5 l p).c3∧Jn (gE es) (fun i=>i<es.length) p v:=by
 have hm:=h.mem hv
 have hj:=aYi (bJz.grove_jo h.tlo.tree) hm
 rw[h.at_ v hv,AP] at hj
 rcases aNk hm with⟨h1,h2⟩|⟨e',h1,h2,h3,h4,h5⟩
 ·refine .inl ⟨h1,by omega,?_⟩
  rcases hj with hj|hj
  ·have:=hj.1;omega
  ·exact hj.2
 ·obtain⟨p,hp,hq,he⟩:=h.of h1
  subst he
  refine .inr ⟨p,hp,by omega,h3,h4,h5,?_⟩
  rcases hj with hj|hj
  ·have:=hj.2
   rwa[show(at5 l v).c1.toNat=p by omega] at this
  ·omega
theorem num_inj (h:aAw N es lab b tl l) {u v:Nat} (hu:u<N) (hv:v<N) (he:(at5 l u).c2=(at5 l v).c2):u=v:=by
 have hn:((aHd (-1) (-1) 0 (aCr tl)).map (·.c2)).Nodup:=by
  rw[aSt]
  refine List.Pairwise.map _ (fun a b hab=> ?_) (List.nodup_range' (step:=1))
  exact fun hq=>hab (by omega)
 have:=aIy hn (h.mem hu) (h.mem hv) he
 have:=congrArg T5.c0 this
 rw[h.at_ u hu,h.at_ v hv] at this
 omega
theorem way (h:aAw N es lab b tl l) {v:Nat} (hv:v<N):∃c,(at5 l v,c)∈chF (-1) [] (-1) 0 (aCr tl)∧Way (fun x=>(at5 l x.toNat).c1) v c∧(c.length:Int)=(at5 l v).c4+1∧∀u,u<N→((u:Int)∈c↔(at5 l u).c2≤(at5 l v).c2∧(at5 l v).c2<(at5 l u).c2+(at5 l u).c3):=by
 obtain⟨c,hc⟩:=chF_of [] (h.mem hv)
 refine⟨c,hc,?_,?_,?_⟩
 ·have:=aYk (par:=fun x=>(at5 l x.toNat).c1) (fun e he=>by
   obtain⟨w,hw,hq,he⟩:=h.of he
   rw[hq,AP,he]) (.top (by decide)) _ hc
  rw[h.at_ v hv] at this
  exact this
 ·have:=(aPc hc).2.2
  simp only[AU] at this
  omega
 ·intro u hu
  have:=bGq h.nodup (by simp) _ hc _ (h.mem hu)
  rw[h.at_ u hu] at this
  exact this
end aAw
theorem aAw.below {N:Nat} {es:List IE} {lab:List Int} {b:List T5} {tl:List (Nat×Fo)} {l:List T5} (h:aAw N es lab b tl l) {v:Nat} (hv:v<N):∃c,Way (fun x=>(at5 l x.toNat).c1) v c∧c.length≤N∧(∀w∈c,w<(N:Int))∧
  ∀u,u<N→((u:Int)∈c↔(at5 l u).c2≤(at5 l v).c2∧(at5 l v).c2<(at5 l u).c2+(at5 l u).c3):=by
 obtain⟨c,h1,h2,h3,h4⟩:=h.way hv
 have hb:=h.bnd hv
 refine⟨c,h2,by omega,fun w hw=> ?_,h4⟩
 rcases(aPc h1).2.1 w hw with h5|⟨y,hy,rfl⟩
 ·simp at h5
 ·have:=BF.1 (h.tlo.vs_perm.mem_iff.1 hy)
  omega
theorem bOo {N:Nat} {es:List IE} {lab:List Int} {b:List T5} {tl:List (Nat×Fo)} {l:List T5} (hT:aAw N es lab b tl l) {v:Nat} (hv:v<N) (f:T5→Int):aYj (fun e=>decide (e.c0=(v:Int))) f l=f (at5 l v):=by
 have hl:=hT.len
 have e1:l=l.take v++at5 l v::l.drop (v+1):=by
  have:=BM (l:=l) (i:=v) (by omega)
  have h2:=aBs (r:=l) (k:=v) (by omega)
  rw[AE (by omega)] at h2
  rw[←BG h2,←this,BT]
 have hno:∀i,i<N→i≠v→decide ((at5 l i).c0=(v:Int))=false:=fun i hi hne=>decide_eq_false (by rw[hT.at_ i hi];omega)
 rw[e1,aPa,aFe,aPb (l:=l.take v),aPb (l:=l.drop (v+1)),decide_eq_true (hT.at_ v hv),if_pos rfl]
 ·rw[←e1];omega
 ·intro e he
  obtain⟨i,hi,rfl⟩:=CC.1 he
  rw[List.length_drop] at hi
  have h2:=aBs (r:=l) (k:=v+1+i) (by omega)
  rw[AE (by omega)] at h2
  rw[List.getElem_drop,BG h2]
  exact hno _ (by omega) (by omega)
 ·intro e he
  obtain⟨i,hi,rfl⟩:=CC.1 he
  rw[BK] at hi
  have h2:=aBs (r:=l) (k:=i) (by omega)
  rw[AE (by omega)] at h2
  rw[List.getElem_take,BG h2]
  exact hno _ (by omega) (by omega)
def bCd (b:List T5) (i:Nat):Bool:=(b.take i).any fun t=>decide (t.c2=(at5 b i).c2)
namespace aAm
variable {N:Nat} {es:List IE} {lab:List Int} {fl:List Bool} {r b:List T5}
theorem b_order (h:aAm N es lab fl r b) (hf:∀e∈es,inE N e):b.Pairwise fun a c=>a.c3=c.c3→a.c4<c.c4:=by
 rw[h.tours]
 unfold aGf aCw
 rw[List.pairwise_flatMap]
 refine⟨fun i hi=> ?_,?_⟩
 ·split
  ·unfold aMq
   rw[BX]
   exact List.pairwise_lt_range.imp fun {a c} hac _=>by
    show((a:Nat):Int)<((c:Nat):Int)
    omega
  ·exact .nil
 ·refine DX (fun {i j} hi hj hij=> ?_) List.pairwise_lt_range
  have hi:=BF.1 hi
  have hj:=BF.1 hj
  intro a ha c hc he
  split at ha
  next hri=>
   split at hc
   next hrj=>
    obtain⟨n,_,rfl⟩:=AT.1 ha
    obtain⟨m,_,rfl⟩:=AT.1 hc
    refine(h.arcs.root_uniq hij hj hri hrj ?_).elim
    rw[←h.arcs.it_lab (h.hl hf) hi n,←h.arcs.it_lab (h.hl hf) hj m]
    exact he
   next=>simp at hc
  next=>simp at ha
theorem vis_seen (h:aAm N es lab fl r b) (hf:∀e∈es,inE N e) {p:Nat} {t:T5} (hp:b[p]? =some t):
  ((aJm b t).c2= -1∧(bCd b p=true∨t.c2=t.c3))∨((aJm b t).c2=t.c2∧(aJm b t).c3=t.c1∧bCd b p=false∧t.c2≠t.c3∧t.c2≠-1):=by
 have hpl:=(AK.1 hp).1
 have hat:at5 b p=t:=by
  have:=aBs hpl
  rw[hp] at this
  exact(BG this).symm
 obtain⟨i,n,hi,hr,hn,rfl⟩:=h.b_arc (AZ hp)
 have htw:=h.tw hf hi
 have hroot:=hr
 unfold aFn at hroot
 obtain⟨hroot,_⟩:=of_decide_eq_true hroot
 have e3:∀{i:Nat},i<r.length→∀m,(aFd r i m).c3=(at5 r i).c3:=fun hi m=>h.arcs.it_lab (h.hl hf) hi m
 have e2:∀{i:Nat},i<r.length→∀m,(aFd r i m).c2=(vtA r i (m+1):Int):=fun {i} hi m=>by
  obtain⟨_,_,_,_,c2,_⟩:=h.arc_g hf (aBy (f:=aDj r) aBj hi m)
  rw[h.vt_succ hi]
  show(at5 r (itF (aDj r) m i)).c2=_
  omega
 have e1:(aFd r i n).c1=(vtA r i n:Int):=by
  obtain⟨_,_,c1,_⟩:=h.arc_g hf (aBy (f:=aDj r) aBj hi n)
  unfold vtA
  show(at5 r (itF (aDj r) n i)).c1=_
  omega
 have hv0:(vtA r i 0:Int)=(at5 r i).c3:=by
  obtain⟨_,_,c1,_⟩:=h.arc_g hf hi
  show((at5 r i).c1.toNat:Int)=_
  omega
 have hl:∀{i:Nat} (m:Nat),i<r.length→∃x:Nat,(at5 r i).c3=x∧lab[vtA r i m]? =some (x:Int):=fun {i} m hi=>by
  obtain⟨y,y1,_,y2,_⟩:=h.lab_at hf (aBy (f:=aDj r) aBj hi m)
  rw[h.arcs.it_lab (h.hl hf) hi] at y1
  exact⟨y,y1,y2⟩
 have hord:=BQ.1 (h.b_order hf)
 have hpg:b[p]=aFd r i n:=by
  have:=AE hpl
  rw[hp] at this
  exact(BG this).symm
 rw[h.vis_at hf hi hr]
 by_cases hd:n<aYh r i n
 ·right
  rw[if_pos hd]
  refine⟨(e2 hi n).symm,e1.symm,?_,?_,by rw[e2 hi];omega⟩
  ·unfold bCd
   rw[List.any_eq_false]
   intro u hu
   obtain⟨q,hq,hqu⟩:=CC.1 hu
   rw[BK] at hq
   rw[List.getElem_take] at hqu
   simp only[decide_eq_true_eq]
   intro hc
   rw[hat] at hc
   obtain⟨i',n',hi',hr',hn',rfl⟩:=h.b_arc (List.mem_of_mem_take hu)
   rw[e2 hi,e2 hi'] at hc
   have hvv:vtA r i' (n'+1)=vtA r i (n+1):=by omega
   obtain⟨x,x1,x2⟩:=hl (n'+1) hi'
   obtain⟨y,y1,y2⟩:=hl (n+1) hi
   rw[hvv,y2] at x2
   have hxy:=BG x2
   have hsame:(at5 r i').c3=(at5 r i).c3:=by rw[x1,y1,hxy]
   have hii:i'=i:=by
    rcases CV i' i with h1|h1|h1
    ·exact(h.arcs.root_uniq h1 hi hr' hr hsame).elim
    ·exact h1
    ·exact(h.arcs.root_uniq h1 hi' hr hr' hsame.symm).elim
   subst hii
   have h1:=hord q p (by omega) hpl (by omega)
   rw[hqu,hpg,e3 hi,e3 hi] at h1
   have h2:((n':Nat):Int)<((n:Nat):Int):=h1 rfl
   exact htw.first hn hd (j:=n'+1) (by omega) hvv
  ·rw[e2 hi,e3 hi,←hv0]
   intro hq
   exact htw.first hn hd (AS n) (by omega)
 ·left
  rw[if_neg hd]
  refine⟨rfl,?_⟩
  obtain⟨j,hj,hjv⟩:=htw.again hn hd
  match j,hj,hjv with
  |0,hj,hjv=>
   right
   rw[e2 hi,e3 hi,←hv0,hjv]
  |j+1,hj,hjv=>
   left
   unfold bCd
   rw[List.any_eq_true]
   refine⟨aFd r i j,?_,decide_eq_true ?_⟩
   ·obtain⟨q,hq,hqu⟩:=CC.1 (h.arc_b hi hr (show j<aHs r i by omega))
    have hqp:q<p:=by
     rcases CV q p with h1|h1|h1
     ·exact h1
     ·exfalso
      subst h1
      rw[hpg] at hqu
      have h2:((n:Nat):Int)=((j:Nat):Int):=congrArg T5.c4 hqu
      omega
     ·exfalso
      have h2:=hord p q hpl hq h1
      rw[hqu,hpg,e3 hi,e3 hi] at h2
      have h3:((n:Nat):Int)<((j:Nat):Int):=h2 rfl
      omega
    refine AZ (i:=q) ?_
    rw[BV,if_pos hqp,AE hq,hqu]
   ·rw[hat,e2 hi,e2 hi,hjv]
end aAm
def aMs (P:List T5):Nat:=((aMr 0 0).all (0,0) P).length
theorem bOp {P:List T5} {v:T5} (h:v.c2= -1):aMs (P++[v])=aMs P:=by
 unfold aMs
 rw[aAt.all_app,AF]
 simp only[aAt.all]
 have:(aMr 0 0).outs ((aMr 0 0).st (0,0) P) v=[]:=by unfold aMr;dsimp only;rw[if_pos h]
 rw[this];rfl
theorem aVx {P Q:List T5} {v:T5} (h:v.c2≠-1):aMs (P++[v])=aMs P+1∧∃e,((aMr 0 0).all (0,0) (P++v::Q))[aMs P]? =some e∧e.c0=v.c2∧e.c1=v.c3:=by
 have ho:∃e,(aMr 0 0).outs ((aMr 0 0).st (0,0) P) v=[e]∧e.c0=v.c2∧e.c1=v.c3:=by
  unfold aMr;dsimp only;rw[if_neg h]
  exact⟨_,rfl,rfl,rfl⟩
 obtain⟨e,he,h1,h2⟩:=ho
 refine⟨?_,e,?_,h1,h2⟩
 ·unfold aMs
  rw[aAt.all_app,AF]
  simp only[aAt.all]
  rw[he];rfl
 ·unfold aMs
  rw[aAt.all_app,BB (AG _),Nat.sub_self]
  simp only[aAt.all]
  rw[he];rfl
structure Wrt (N:Nat) (L:List T5) (k:Nat) (o:List T5):Prop where
 len:o.length=N
 got:∀j e,j<k→L[j]? =some e→o[e.c0.toNat]? =some {e with c3:=0}
def aNl (tl:List (Nat×Fo)):List T5:=aHd (-1) (-1) 0 (aCr tl)
namespace aAw
variable {N:Nat} {es:List IE} {lab:List Int} {b:List T5} {tl:List (Nat×Fo)} {l:List T5}
theorem tabL_len (h:aAw N es lab b tl l):(aNl tl).length=N:=by unfold aNl;rw[aSs,h.tlo.sz]
theorem tab_c2 {k:Nat} {e:T5} (hk:(aNl tl)[k]? =some e):e.c2=(k:Int):=by
 have h1:=congrArg (·[k]?) (aSt (aCr tl) (-1) (-1) 0)
 unfold aNl at hk
 simp only[BP,hk,DI] at h1
 have hkl:k<(aCr tl).sz:=by
  rw[←aSs (aCr tl) (-1) (-1) 0]
  exact(AK.1 hk).1
 rw[List.getElem?_range' (by omega)] at h1
 simp only[DI,A9] at h1
 omega
theorem entry (h:aAw N es lab b tl l) {k:Nat} {e:T5} (hk:(aNl tl)[k]? =some e):k<N∧e.c2=(k:Int)∧∃v,v<N∧e.c0=(v:Int)∧at5 l v=e∧
  ((e.c1= -1∧e.c4=0)∨∃j e',j<k∧(aNl tl)[j]? =some e'∧e'.c0=e.c1∧e.c4=e'.c4+1):=by
 have hkN:k<N:=by
  rw[←h.tabL_len]
  exact(AK.1 hk).1
 have hm:=AZ hk
 have hc:=tab_c2 hk
 obtain⟨v,hv,h1,h2⟩:=h.of hm
 refine⟨hkN,hc,v,hv,h1,h2,?_⟩
 rcases aNk hm with⟨h3,h4⟩|⟨e',h3,h4,h5,h6,_⟩
 ·exact .inl ⟨h3,by omega⟩
 ·obtain⟨j,hj⟩:=List.mem_iff_getElem?.1 h3
  have hj2:=tab_c2 (tl:=tl) hj
  exact .inr ⟨j,e',by omega,hj,h4,h5⟩
theorem c0inj (h:aAw N es lab b tl l) {j k:Nat} {e e':T5} (hj:(aNl tl)[j]? =some e') (hk:(aNl tl)[k]? =some e) (hq:e'.c0=e.c0):j=k:=by
 obtain⟨_,c1,v,_,v1,v2,_⟩:=h.entry hj
 obtain⟨_,d1,w,_,w1,w2,_⟩:=h.entry hk
 obtain rfl:v=w:=by omega
 rw[v2] at w2
 subst w2
 omega
theorem wstart (N:Nat) (tl:List (Nat×Fo)):Wrt N (aNl tl) 0 (BW N T5.zero):=⟨by simp,fun j e hj=>by omega⟩
theorem wstep (h:aAw N es lab b tl l) {k:Nat} {o:List T5} {e:T5} (hw:Wrt N (aNl tl) k o) (hk:(aNl tl)[k]? =some e):Wrt N (aNl tl) (k+1) (o.set e.c0.toNat {e with c3:=0}):=by
 obtain⟨_,_,v,hv,h1,_⟩:=h.entry hk
 refine⟨by rw[DJ];exact hw.len,fun j e' hj hje=> ?_⟩
 by_cases hjk:j=k
 ·subst hjk
  rw[hk] at hje
  obtain rfl:=BG hje
  rw[DG (by rw[hw.len];omega)]
 ·have hne:e.c0.toNat≠e'.c0.toNat:=fun hq=>by
   obtain⟨_,_,w,_,w1,_⟩:=h.entry hje
   rw[h1,w1,AP,AP] at hq
   exact hjk (h.c0inj hje hk (by rw[h1,w1,hq]))
  rw[CR hne]
  exact hw.got j e' (by omega) hje
def outC (N:Nat) (l:List T5) (dn:List Int):List T5:=(BE N).map fun w=>{at5 l w with c3:=(dn.count (w:Int):Int)}
theorem outC_get {dn:List Int} {v:Nat} (hv:v<N):(outC N l dn)[v]? =some {at5 l v with c3:=(dn.count (v:Int):Int)}:=by
 unfold outC
 rw[BP,DT hv];rfl
theorem wend (h:aAw N es lab b tl l) {o:List T5} (hw:Wrt N (aNl tl) N o):o=outC N l []:=by
 apply CD
 intro v
 by_cases hv:v<N
 ·rw[outC_get hv]
  obtain⟨j,hj⟩:=List.mem_iff_getElem?.1 (h.mem hv)
  obtain⟨hjN,_⟩:=h.entry hj
  have:=hw.got j _ hjN hj
  have h0:=h.at_ v hv
  rw[show(at5 l v).c0.toNat=v by omega] at this
  exact this
 ·rw[BC (by rw[hw.len];omega),BC (by unfold outC;simp;omega)]
theorem outC_set {dn:List Int} {v:Nat} (hv:v<N) {x:Int} (hx:x=(dn.count (v:Int):Int)+1):(outC N l dn).set v {at5 l v with c3:=x}=outC N l ((v:Int)::dn):=by
 apply CD
 intro w
 by_cases hw:w<N
 ·rw[outC_get hw]
  by_cases hq:v=w
  ·subst hq
   rw[DG (by unfold outC;simpa using hv),List.count_cons_self,hx]
   congr 1
  ·rw[CR hq,outC_get hw,List.count_cons_of_ne (by omega)]
 ·rw[BC (by rw[DJ];unfold outC;simp;omega),BC (by unfold outC;simp;omega)]
def wayF (tl:List (Nat×Fo)) (v:Nat):List Int:=(((chF (-1) [] (-1) 0 (aCr tl)).find? fun x=>decide (x.1.c0=(v:Int))).map (·.2)).getD []
theorem chF_nd:∀{T:Fo} {u:Int} {up:List Int} {d:Int} {n:Nat},T.vs.Nodup→(∀v∈T.vs,(v:Int)∉up)→up.Nodup→∀x∈chF u up d n T,x.2.Nodup
 | .nil,_,_,_,_,_,_,_,x,h=>by simp[chF] at h
 | .node v s r,u,up,d,n,hn,hu,hup,x,h=>by
  simp only[Fo.vs,CB,AO,B5,not_or] at hn
  obtain⟨⟨hvs,hvr⟩,hns,hnr,_⟩:=hn
  simp only[Fo.vs,AM,AO] at hu
  simp only[chF,AM,AO] at h
  have hnv:((v:Int)::up).Nodup:=CB.2 ⟨hu v (.inl rfl),hup⟩
  rcases h with rfl|h|h
  ·exact hnv
  ·refine chF_nd hns (fun y hy hq=> ?_) hnv x h
   rcases AM.1 hq with h1|h1
   ·exact hvs (by rw[show v=y by omega];exact hy)
   ·exact hu y (.inr (.inl hy)) h1
  ·exact chF_nd hnr (fun y hy=>hu y (.inr (.inr hy))) hup x h
theorem way_mem (h:aAw N es lab b tl l) {v:Nat} (hv:v<N):(at5 l v,wayF tl v)∈chF (-1) [] (-1) 0 (aCr tl):=by
 obtain⟨c,hc,_⟩:=h.way hv
 unfold wayF
 cases hf:(chF (-1) [] (-1) 0 (aCr tl)).find? fun x=>decide (x.1.c0=(v:Int)) with
 |none=>
  rw[List.find?_eq_none] at hf
  exact(hf _ hc (by simp[h.at_ v hv])).elim
 |some x=>
  have h1:x.1.c0=(v:Int):=by simpa using List.find?_some hf
  have h2:=List.mem_of_find?_eq_some hf
  obtain⟨w,hw,h3,h4⟩:=h.of (aSu h2)
  obtain rfl:w=v:=by omega
  rw[h4]
  exact h2
theorem ch_inj (h:aAw N es lab b tl l) {x y:T5×List Int} (hx:x∈chF (-1) [] (-1) 0 (aCr tl)) (hy:y∈chF (-1) [] (-1) 0 (aCr tl)) (he:x.1.c0=y.1.c0):x=y:=by
 have hn:((chF (-1) [] (-1) 0 (aCr tl)).map fun x=>x.1.c0).Nodup:=by
  have h1:=congrArg (List.map fun t:T5=>t.c0) (aMe (aCr tl) (-1) [] (-1) 0)
  rw[aKg,EE] at h1
  rw[show(fun x:T5×List Int=>x.1.c0)=(fun t:T5=>t.c0)∘(fun x:T5×List Int=>x.1) from rfl,h1]
  exact List.Pairwise.map _ (fun a c hac=>fun hq=>hac (by omega)) h.nodup
 exact aIy hn hx hy he
theorem way_is (h:aAw N es lab b tl l) {v:Nat} (hv:v<N):Way (fun x=>(at5 l x.toNat).c1) v (wayF tl v)∧(wayF tl v).length≤N∧(∀w∈wayF tl v,w<(N:Int))∧(wayF tl v).Nodup:=by
 obtain⟨c,h1,h2,h3,_⟩:=h.way hv
 have h5:=h.ch_inj h1 (h.way_mem hv) rfl
 have hb:=h.bnd hv
 obtain rfl:c=wayF tl v:=congrArg Prod.snd h5
 refine⟨h2,by omega,fun w hw=> ?_,chF_nd h.nodup (by simp) .nil _ h1⟩
 rcases(aPc h1).2.1 w hw with h5|⟨y,hy,rfl⟩
 ·simp at h5
 ·have:=BF.1 (h.tlo.vs_perm.mem_iff.1 hy)
  omega
theorem count_flat {α:Type} {f:α→List Int} (w:Int):∀{l:List α},(∀x∈l,(f x).Nodup)→(l.flatMap f).count w=l.countP fun x=>decide (w∈f x)
 |[],_=>rfl
 |x::l,h=>by
  have h1:=h x AI
  rw[A6,List.count_append,List.countP_cons,count_flat w fun y hy=>h y (AJ _ hy)]
  by_cases hw:w∈f x
  ·rw[h1.count,if_pos hw];simp[hw];omega
  ·rw[h1.count,if_neg hw];simp[hw]
theorem way_count (h:aAw N es lab b tl l) {v:Nat} (hv:v<N):((((BE N).flatMap (wayF tl)).count (v:Int):Nat):Int)=(at5 l v).c3:=by
 have hp:(chF (-1) [] (-1) 0 (aCr tl)).Perm ((BE N).map fun v=>(at5 l v,wayF tl v)):=by
  have hn:(chF (-1) [] (-1) 0 (aCr tl)).Nodup:=by
   have:((chF (-1) [] (-1) 0 (aCr tl)).map fun x=>x.1.c0).Nodup:=by
    have h1:=congrArg (List.map fun t:T5=>t.c0) (aMe (aCr tl) (-1) [] (-1) 0)
    rw[aKg,EE] at h1
    rw[show(fun x:T5×List Int=>x.1.c0)=(fun t:T5=>t.c0)∘(fun x:T5×List Int=>x.1) from rfl,h1]
    exact List.Pairwise.map _ (fun a c hac=>fun hq=>hac (by omega)) h.nodup
   exact(BX.1 this).imp fun {a c} hac=>fun hq=>hac (by rw[hq])
  have hn2:((BE N).map fun v=>(at5 l v,wayF tl v)).Nodup:=by
   refine BX.2 (DX (fun {a c} ha hc hac=> ?_) List.nodup_range)
   intro hq
   have h1:=congrArg (fun x:T5×List Int=>x.1.c0) hq
   dsimp only at h1
   rw[h.at_ a (BF.1 ha),h.at_ c (BF.1 hc)] at h1
   exact hac (by omega)
  rw[List.perm_ext_iff_of_nodup hn hn2]
  intro x
  rw[AT]
  constructor
  ·intro hx
   obtain⟨w,hw,h3,_⟩:=h.of (aSu hx)
   exact⟨w,BF.2 hw,h.ch_inj (h.way_mem hw) hx (by rw[h.at_ w hw,h3])⟩
  ·rintro⟨w,hw,rfl⟩
   exact h.way_mem (BF.1 hw)
 rw[count_flat _ fun x hx=>(h.way_is (BF.1 hx)).2.2.2]
 have h1:=aYl (v:Int) (T:=aCr tl) (u:= -1) (up:=[]) (d:= -1) (n:=0) h.nodup
 rw[if_neg (by simp),←bGp _ _ h.perm,bOo h hv] at h1
 rw[←h1,hp.countP_eq,List.countP_map]
 rfl
theorem outC_end (h:aAw N es lab b tl l) {dn:List Int} (hd:dn.Perm ((BE N).flatMap (wayF tl))):outC N l dn=l:=by
 apply CD
 intro v
 by_cases hv:v<N
 ·rw[outC_get hv,hd.count_eq,h.way_count hv,aBs (by rw[h.len];exact hv)]
 ·rw[BC (by unfold outC;simp;omega),BC (by rw[h.len];omega)]
theorem flat_le (f:Nat→List Int) (m:Nat):∀n,(∀v,v<n→(f v).length≤m)→((BE n).flatMap f).length≤n*m
 |0,_=>by simp
 |n+1,h=>by
  have h1:=h n (Nat.lt_succ_self n)
  have h2:=flat_le f m n fun v hv=>h v (by omega)
  rw[DZ,B9,AF,Nat.succ_mul]
  simp only[A6,List.flatMap_nil,AQ]
  omega
end aAw
theorem aHu {es:List IE} {fl:List Bool} {t:T5}:t∈aCq (edT es) fl↔∃(i:Nat) (e:IE),es[i]? =some e∧fl[i]? =some true∧t=⟨(i:Int),e.1,e.2,0,0⟩:=by
 unfold aCq
 constructor
 ·intro h
  obtain⟨⟨u,b⟩,hx,he⟩:=List.mem_filterMap.1 h
  obtain⟨i,hi⟩:=List.mem_iff_getElem?.1 hx
  rw[List.getElem?_zip_eq_some] at hi
  obtain⟨h1,h2⟩:=hi
  dsimp only at he h1 h2
  split at he
  case isTrue hb=>
   subst hb
   have hl:=(AK.1 h1).1
   rw[aIw] at hl
   have hei:es[i]? =some es[i]:=AE hl
   rw[aGn hei] at h1
   obtain rfl:=BG h1
   exact⟨i,es[i],hei,h2,(BG he).symm⟩
  case isFalse=>cases he
 ·rintro⟨i,e,h1,h2,rfl⟩
  refine List.mem_filterMap.2 ⟨(⟨(i:Int),e.1,e.2,0,0⟩,true),?_,rfl⟩
  refine AZ (i:=i) ?_
  rw[List.getElem?_zip_eq_some]
  exact⟨aGn h1,h2⟩
theorem aLa (es:List IE) (fl:List Bool):(aCq (edT es) fl).Pairwise fun a c=>a.c0<c.c0:=by
 have h1:((edT es).map (·.c0)).Pairwise (·<·):=by rw[BX];exact aMn es
 have h2:=h1.sublist (aHt (edT es) fl)
 rwa[BX] at h2
theorem bAg {L:List T5} {N:Nat} (hr:L.Pairwise fun a c=>a.c0<c.c0) (h1:∀t∈L,∃n:Nat,n<N∧t.c0=(n:Int)) (h2:∀n:Nat,n<N→∃t∈L,t.c0=(n:Int)):L.length=N∧∀n:Nat,n<N→∃t,L[n]? =some t∧t.c0=(n:Int):=by
 have e:(L.map fun t=>(⟨t.c0,0,0,0,0⟩:T5))=(BE N).map fun (n:Nat)=>(⟨(n:Int),0,0,0,0⟩:T5):=by
  refine aSi (by rw[BX];exact hr) (by rw[BX];exact List.pairwise_lt_range.imp fun h=>by dsimp only;omega) fun z=> ?_
  simp only[AT,BF]
  constructor
  ·rintro⟨t,ht,rfl⟩
   obtain⟨n,hn,he⟩:=h1 t ht
   exact⟨n,hn,by rw[he]⟩
  ·rintro⟨n,hn,rfl⟩
   obtain⟨t,ht,he⟩:=h2 n hn
   exact⟨t,ht,by rw[he]⟩
 have hl:L.length=N:=by have:=congrArg List.length e;simpa using this
 refine⟨hl,fun n hn=> ?_⟩
 have hg:L[n]? =some L[n]:=AE (by omega)
 have h3:=congrArg (fun l:List T5=>l[n]?) e
 simp only[BP,hg,DT hn,DI,A9,T5.mk.injEq] at h3
 exact⟨_,hg,h3.1⟩
def Adj (es:List IE) (fl:List Bool) (u w:Nat):Prop:=∃(i:Nat) (e:IE),es[i]? =some e∧fl[i]? =some false∧((e.1=(u:Int)∧e.2=(w:Int))∨(e.1=(w:Int)∧e.2=(u:Int)))
def Sub (l:List T5) (v u:Nat):Prop:=(at5 l v).c2≤(at5 l u).c2∧(at5 l u).c2<(at5 l v).c2+(at5 l v).c3
def Out (N:Nat) (es:List IE) (fl:List Bool) (l:List T5) (v:Nat) (x:Int):Prop:=∃u,u<N∧Sub l v u∧(x=(at5 l u).c2∨∃w,w<N∧Adj es fl u w∧x=(at5 l w).c2)
def bKa (N:Nat) (es:List IE) (fl:List Bool) (l:List T5) (v:Nat) (x:Int):Prop:=Out N es fl l v x∧∀y,Out N es fl l v y→x≤y
def bAh (N:Nat) (es:List IE) (fl:List Bool) (l:List T5) (v:Nat) (x:Int):Prop:=Out N es fl l v x∧∀y,Out N es fl l v y→y≤x
structure aHy (N:Nat) (es:List IE) (fl:List Bool) (l o:List T5):Prop where
 len:o.length=N
 at_:∀v,v<N→∃lo hi,o[(at5 l v).c2.toNat]? =some ⟨(at5 l v).c2,lo,hi,0,0⟩∧bKa N es fl l v lo∧bAh N es fl l v hi
namespace aAw
variable {N:Nat} {es:List IE} {lab:List Int} {fl:List Bool} {r b:List T5} {tl:List (Nat×Fo)} {l:List T5}
theorem mem_l (h:aAw N es lab b tl l) {t:T5}:t∈l↔∃v,v<N∧at5 l v=t:=by
 constructor
 ·intro ht
  obtain⟨k,hk,e⟩:=aSp ht
  exact⟨k,by rw[←h.len];exact hk,e⟩
 ·rintro⟨v,hv,rfl⟩
  exact bAb (by rw[h.len];exact hv)
theorem rise (h:aAw N es lab b tl l):l.Pairwise fun a c=>a.c0<c.c0:=by
 rw[BQ]
 intro i j hi hj hij
 have e1:=aBs (r:=l) hi
 have e2:=aBs (r:=l) hj
 rw[AE hi] at e1
 rw[AE hj] at e2
 rw[BG e1,BG e2,h.at_ i (by rw[←h.len];exact hi),h.at_ j (by rw[←h.len];exact hj)]
 omega
theorem surj (h:aAw N es lab b tl l) {k:Nat} (hk:k<N):∃v,v<N∧(at5 l v).c2=(k:Int):=by
 have hl:=h.tabL_len
 have hg:(aNl tl)[k]? =some ((aNl tl)[k]'(by omega)):=AE (by omega)
 obtain⟨_,h2,v,hv,_,he,_⟩:=h.entry hg
 exact⟨v,hv,by rw[he];exact h2⟩
theorem okT (h:aAw N es lab b tl l) (hN:N≤1000000):∀t∈l,okT 5 t:=by
 intro t ht
 obtain⟨v,hv,rfl⟩:=h.mem_l.1 ht
 obtain⟨h1,h2,h3,h4,h5,h6⟩:=h.bnd hv
 have h0:=h.at_ v hv
 have hp: -1≤(at5 l v).c1∧(at5 l v).c1<N:=by
  rcases h.par hv with⟨h7,_⟩|⟨u,h7⟩
  ·omega
  ·omega
 generalize at5 l v=t at h1 h2 h3 h4 h5 h6 h0 hp⊢
 obtain⟨c0,c1,c2,c3,c4⟩:=t
 dsimp only at h1 h2 h3 h4 h5 h6 h0 hp
 exact okT5 ⟨by omega,by omega⟩ ⟨by omega,by omega⟩ ⟨by omega,by omega⟩ ⟨by omega,by omega⟩ ⟨by omega,by omega⟩
theorem look (h:aAw N es lab b tl l) {v:Nat} (hv:v<N) (c:Nat):lkV l (v:Int) c=(at5 l v).col c:=aNg h.rise (h.mem_l.2 ⟨v,hv,rfl⟩) (h.at_ v hv)
end aAw
section
variable {N:Nat} {es:List IE} {lab:List Int} {fl:List Bool} {b:List T5} {tl:List (Nat×Fo)} {l:List T5}
theorem aRg (hT:aAw N es lab b tl l) (hf:∀e∈es,inE N e) (hfl:fl.length=es.length) {z:T5}:z∈aBg l (aCq (edT es) fl) (edT es)↔∃(i:Nat) (e:IE),es[i]? =some e∧fl[i]? =some false∧e.1≠e.2∧z=⟨(i:Int),(at5 l e.1.toNat).c2,(at5 l e.2.toNat).c2,0,0⟩:=by
 have hmk:∀(i:Nat) (e:IE),es[i]? =some e→∃bb,fl[i]? =some bb∧lkV ((aCq (edT es) fl).map fun t=>⟨t.c0,1,0,0,0⟩) (i:Int) 1=if bb then 1 else-1:=by
  intro i e he
  have hi:=(AK.1 he).1
  have hb:fl[i]? =some fl[i]:=AE (by omega)
  refine⟨_,hb,?_⟩
  cases hbb:fl[i] with
  |true=>
   rw[hbb] at hb
   rw[aNg (t:=⟨(i:Int),1,0,0,0⟩) (by rw[BX];exact aLa es fl) (AT.2 ⟨_,aHu.2 ⟨i,e,he,hb,rfl⟩,rfl⟩) rfl]
   rfl
  |false=>
   rw[hbb] at hb
   rw[aSe]
   ·rfl
   ·intro u hu hc
    obtain⟨t,ht,rfl⟩:=AT.1 hu
    obtain⟨j,e',_,h2,rfl⟩:=aHu.1 ht
    dsimp only at hc
    obtain rfl:j=i:=by omega
    rw[hb] at h2;cases h2
 have hrest:∀y:T5,y∈aKe (aCq (edT es) fl) (edT es)↔∃(i:Nat) (e:IE),es[i]? =some e∧fl[i]? =some false∧e.1≠e.2∧y=⟨(i:Int),e.1,e.2,0,0⟩:=by
  intro y
  unfold aKe aPs
  rw[CF]
  constructor
  ·rintro⟨x,hx,hy⟩
   obtain⟨t,ht,rfl⟩:=AT.1 hx
   obtain⟨i,e,he,rfl⟩:=aMd ht
   obtain⟨bb,hbb,hk⟩:=hmk i e he
   rw[show aEv ((aCq (edT es) fl).map fun t=>⟨t.c0,1,0,0,0⟩) 0 1 3 (⟨(i:Int),e.1,e.2,0,0⟩:T5)=⟨(i:Int),e.1,e.2,lkV ((aCq (edT es) fl).map fun t=>⟨t.c0,1,0,0,0⟩) (i:Int) 1,0⟩ from rfl,hk] at hy
   cases bb with
   |true=>simp[aQx] at hy
   |false=>
    unfold aQx at hy
    dsimp only at hy
    rw[if_neg (by decide)] at hy
    split at hy
    ·cases hy
    ·rename_i hne
     rw[AY] at hy
     exact⟨i,e,he,hbb,hne,hy⟩
  ·rintro⟨i,e,he,hb,hne,rfl⟩
   obtain⟨bb,hbb,hk⟩:=hmk i e he
   rw[hb] at hbb
   obtain rfl:=BG hbb
   refine⟨_,AT.2 ⟨_,AZ (aGn he),rfl⟩,?_⟩
   rw[show aEv ((aCq (edT es) fl).map fun t=>⟨t.c0,1,0,0,0⟩) 0 1 3 (⟨(i:Int),e.1,e.2,0,0⟩:T5)=⟨(i:Int),e.1,e.2,lkV ((aCq (edT es) fl).map fun t=>⟨t.c0,1,0,0,0⟩) (i:Int) 1,0⟩ from rfl,hk]
   unfold aQx
   dsimp only
   rw[if_neg (by decide),if_neg hne,AY]
 have hin:∀(i:Nat) (e:IE),es[i]? =some e→∃u w:Nat,u<N∧w<N∧e=((u:Int),(w:Int)):=by
  intro i e he
  have:=hf e (AZ he)
  obtain⟨e1,e2⟩:=e
  unfold inE at this
  exact⟨e1.toNat,e2.toNat,by omega,by omega,by simp only[Prod.mk.injEq];omega⟩
 unfold aBg
 rw[(aQw _ _ _ _).mem_iff,AT]
 have h1:∀x,x∈aOt 2 1 l (aKe (aCq (edT es) fl) (edT es))↔∃y∈aKe (aCq (edT es) fl) (edT es),aEv l 1 2 1 y=x:=fun x=>by rw[(aQw _ _ _ _).mem_iff,AT]
 constructor
 ·rintro⟨x,hx,rfl⟩
  obtain⟨y,hy,rfl⟩:=(h1 x).1 hx
  obtain⟨i,e,he,hb,hne,rfl⟩:=(hrest y).1 hy
  obtain⟨u,w,hu,hw,rfl⟩:=hin i e he
  refine⟨i,_,he,hb,hne,?_⟩
  show(⟨(i:Int),lkV l (u:Int) 2,lkV l (w:Int) 2,0,0⟩:T5)=_
  rw[hT.look hu,hT.look hw,AP,AP];rfl
 ·rintro⟨i,e,he,hb,hne,rfl⟩
  obtain⟨u,w,hu,hw,rfl⟩:=hin i e he
  refine⟨_,(h1 _).2 ⟨_,(hrest _).2 ⟨i,_,he,hb,hne,rfl⟩,rfl⟩,?_⟩
  show(⟨(i:Int),lkV l (u:Int) 2,lkV l (w:Int) 2,0,0⟩:T5)=_
  rw[hT.look hu,hT.look hw,AP,AP];rfl
end
theorem aPf {N:Nat} {es:List IE} (hf:∀e∈es,inE N e) (hN:N≤1000000) (hm:es.length≤1000000):∀t∈edT es,okT 3 t:=by
 intro t ht
 obtain⟨i,e,he,rfl⟩:=aMd ht
 have h1:=hf e (AZ he)
 have h2:=(AK.1 he).1
 unfold inE at h1
 refine bKv ?_ ?_ ?_<;>(unfold aBa;omega)
theorem aNm {N:Nat} {es:List IE} (hf:∀e∈es,inE N e) (hN:N≤1000000) (hm:es.length≤1000000) (fl:List Bool):∀t∈aCq (edT es) fl,okT 3 t:=by
 intro t ht
 obtain⟨i,e,he,_,rfl⟩:=aHu.1 ht
 exact aPf hf hN hm _ (AZ (aGn he))
theorem Sub.refl {l:List T5} {u:Nat} (h:1≤(at5 l u).c3):Sub l u u:=⟨Int.le_refl _,by omega⟩
theorem bLi:∀{P:List T5} {k:Int},(∃y∈P,y.c0=k)→∃z∈P,z.c0=k∧∀x∈P,x.c0=k→z.c1≤x.c1
 |[],_,⟨_,h,_⟩=>by cases h
 |a::P,k,⟨y,hy,h0⟩=>by
  by_cases hP:∃y∈P,y.c0=k
  ·obtain⟨z,hz,hz0,hz1⟩:=bLi hP
   by_cases ha:a.c0=k∧a.c1<z.c1
   ·refine⟨a,AI,ha.1,fun x hx hx0=> ?_⟩
    rcases AM.1 hx with rfl|hx
    ·exact Int.le_refl _
    ·have:=hz1 x hx hx0;omega
   ·refine⟨z,AJ _ hz,hz0,fun x hx hx0=> ?_⟩
    rcases AM.1 hx with rfl|hx
    ·omega
    ·exact hz1 x hx hx0
  ·rcases AM.1 hy with rfl|hy
   ·refine⟨y,AI,h0,fun x hx hx0=> ?_⟩
    rcases AM.1 hx with rfl|hx
    ·exact Int.le_refl _
    ·exact absurd ⟨x,hx,hx0⟩ hP
   ·exact absurd ⟨y,hy,h0⟩ hP
section
variable {N:Nat} {es:List IE} {lab:List Int} {fl:List Bool} {b:List T5} {tl:List (Nat×Fo)} {l:List T5}
theorem bLj (hT:aAw N es lab b tl l) (hf:∀e∈es,inE N e) (hfl:fl.length=es.length) (hN:N≤1000000) {s:Int} (hs:s=1∨s= -1) {y:T5} (hy:y∈aFb s (aBg l (aCq (edT es) fl) (edT es)) l):
  ∃u,u<N∧y.c0=(at5 l u).c2∧∃x,y.c1=s*x∧(x=(at5 l u).c2∨∃w,w<N∧Adj es fl u w∧x=(at5 l w).c2):=by
 have hwr:∀v,v<N→AH .i64 (s*(at5 l v).c2)=s*(at5 l v).c2:=fun v hv=>by
  have:=hT.bnd hv
  rcases hs with rfl|rfl<;>exact aAd (by omega)
 unfold aFb at hy
 rcases AO.1 hy with hy|hy
 ·obtain⟨z,hz,hy⟩:=CF.1 hy
  obtain⟨i,e,he,hb,hne,rfl⟩:=(aRg hT hf hfl).1 hz
  have h1:=hf e (AZ he)
  unfold inE at h1
  unfold aXs at hy
  simp only[AM,CJ,or_false] at hy
  rcases hy with rfl|rfl
  ·exact⟨e.1.toNat,by omega,rfl,(at5 l e.2.toNat).c2,hwr _ (by omega),.inr ⟨e.2.toNat,by omega,⟨i,e,he,hb,.inl ⟨by omega,by omega⟩⟩,rfl⟩⟩
  ·exact⟨e.2.toNat,by omega,rfl,(at5 l e.1.toNat).c2,hwr _ (by omega),.inr ⟨e.1.toNat,by omega,⟨i,e,he,hb,.inr ⟨by omega,by omega⟩⟩,rfl⟩⟩
 ·obtain⟨t,ht,rfl⟩:=AT.1 hy
  obtain⟨v,hv,rfl⟩:=hT.mem_l.1 ht
  exact⟨v,hv,rfl,(at5 l v).c2,hwr v hv,.inl rfl⟩
theorem bLk (hT:aAw N es lab b tl l) (hf:∀e∈es,inE N e) (hfl:fl.length=es.length) (hN:N≤1000000) {s:Int} (hs:s=1∨s= -1) {u:Nat} (hu:u<N) {x:Int} (hx:x=(at5 l u).c2∨∃w,w<N∧Adj es fl u w∧x=(at5 l w).c2):
  ∃y∈aFb s (aBg l (aCq (edT es) fl) (edT es)) l,y.c0=(at5 l u).c2∧y.c1=s*x:=by
 have hwr:∀v,v<N→AH .i64 (s*(at5 l v).c2)=s*(at5 l v).c2:=fun v hv=>by
  have:=hT.bnd hv
  rcases hs with rfl|rfl<;>exact aAd (by omega)
 have hown:∃y∈aFb s (aBg l (aCq (edT es) fl) (edT es)) l,y.c0=(at5 l u).c2∧y.c1=s*(at5 l u).c2:=
  ⟨_,BL _ (AT.2 ⟨_,hT.mem_l.2 ⟨u,hu,rfl⟩,rfl⟩),rfl,hwr u hu⟩
 rcases hx with rfl|⟨w,hw,⟨i,e,he,hb,hc⟩,rfl⟩
 ·exact hown
 ·by_cases huw:u=w
  ·subst huw;exact hown
  ·have hne:e.1≠e.2:=by omega
   refine⟨?y,List.mem_append_left _ (CF.2 ⟨_,(aRg hT hf hfl).2 ⟨i,e,he,hb,hne,rfl⟩,?m⟩),?_⟩
   case y=>exact if e.1=(u:Int) then⟨(at5 l e.1.toNat).c2,AH .i64 (s*(at5 l e.2.toNat).c2),0,0,0⟩ else⟨(at5 l e.2.toNat).c2,AH .i64 (s*(at5 l e.1.toNat).c2),0,0,0⟩
   case m=>unfold aXs;split<;>simp
   rcases hc with⟨h1,h2⟩|⟨h1,h2⟩
   ·rw[if_pos h1,h1,h2,AP,AP]
    exact⟨rfl,hwr w hw⟩
   ·rw[if_neg (by omega),h1,h2,AP,AP]
    exact⟨rfl,hwr w hw⟩
theorem aPg (hT:aAw N es lab b tl l) (hf:∀e∈es,inE N e) (hfl:fl.length=es.length) (hN:N≤1000000) (hm:es.length≤1000000) {s:Int} (hs:s=1∨s= -1):
  (aCp s (aBg l (aCq (edT es) fl) (edT es)) l).length=N∧∀n:Nat,n<N→(∃y∈aFb s (aBg l (aCq (edT es) fl) (edT es)) l,y.c0=(n:Int)∧y.c1=at0 (aCp s (aBg l (aCq (edT es) fl) (edT es)) l) n)∧
   ∀y∈aFb s (aBg l (aCq (edT es) fl) (edT es)) l,y.c0=(n:Int)→at0 (aCp s (aBg l (aCq (edT es) fl) (edT es)) l) n≤y.c1:=by
 have hoo:=aLz (hT.okT hN) (aNm hf hN hm fl) (aPf hf hN hm)
 have hpo:=aKw (s:=s) hoo (hT.okT hN)
 have hpi:=fun {y:T5} (hy:y∈aFb s (aBg l (aCq (edT es) fl) (edT es)) l)=>bLj hT hf hfl hN hs hy
 have hpf:=fun {u:Nat} (hu:u<N)=>bLk hT hf hfl hN hs hu (.inl rfl)
 unfold aCp
 generalize aFb s (aBg l (aCq (edT es) fl) (edT es)) l=P at*
 have hmem:=fun z=>aVf hpo (z:=z)
 have hrise:=aXq (srt (ltO o12) false P)
 generalize srt (ltO o1) true (srt (ltO o12) false P)=D at*
 have hix:=bAg (N:=N) hrise (fun t ht=>by
  obtain⟨u,hu,h1,_⟩:=hpi ((hmem t).1 ht).1
  have:=hT.bnd hu
  exact⟨(at5 l u).c2.toNat,by omega,by omega⟩) (fun n hn=>by
  obtain⟨v,hv,hvn⟩:=hT.surj hn
  obtain⟨y,hy,h1,_⟩:=hpf hv
  obtain⟨z,hz,hz0,hz1⟩:=bLi (k:=(n:Int)) ⟨y,hy,by omega⟩
  exact⟨z,(hmem z).2 ⟨hz,fun x hx h0=>hz1 x hx (by omega)⟩,hz0⟩)
 refine⟨by rw[AX];exact hix.1,fun n hn=> ?_⟩
 obtain⟨t,ht,h0⟩:=hix.2 n hn
 have ha:at0 (D.map fun t=>(⟨t.c1,0,0,0,0⟩:T5)) n=t.c1:=aOs (t:=⟨t.c1,0,0,0,0⟩) (by rw[BP,ht];rfl)
 rw[ha]
 obtain⟨h1,h2⟩:=(hmem t).1 (AZ ht)
 exact⟨⟨t,h1,h0,rfl⟩,fun y hy h3=>h2 y hy (by omega)⟩
theorem aYn (hT:aAw N es lab b tl l) (hN:N≤1000000):aDa l=l.map fun t=>⟨t.c2,t.c2,t.c2+t.c3-1,0,0⟩:=by
 unfold aDa
 refine List.map_congr_left fun t ht=> ?_
 obtain⟨v,hv,rfl⟩:=hT.mem_l.1 ht
 have:=hT.bnd hv
 rw[aAd (n:=(at5 l v).c2+(at5 l v).c3) (by omega),aAd (by omega)]
theorem aYo (hT:aAw N es lab b tl l) (hN:N≤1000000):bHn N (aDa l):=by
 rw[aYn hT hN]
 refine⟨fun q hq=> ?_,?_⟩
 ·obtain⟨t,ht,rfl⟩:=AT.1 hq
  obtain⟨v,hv,rfl⟩:=hT.mem_l.1 ht
  have:=hT.bnd hv
  unfold okQ
  dsimp only
  omega
 ·rw[BX,BQ]
  intro i j hi hj hij hc
  have e1:=aBs (r:=l) hi
  have e2:=aBs (r:=l) hj
  rw[AE hi] at e1
  rw[AE hj] at e2
  rw[BG e1,BG e2] at hc
  have:=hT.num_inj (by rw[←hT.len];exact hi) (by rw[←hT.len];exact hj) hc
  omega
theorem bAi (hT:aAw N es lab b tl l) (hN:N≤1000000) {vts:List T5} (hv:∀t∈vts,aBa t.c0) (hl:vts.length=N):
  (aBn vts (aDa l)).length=N∧∀v,v<N→(aBn vts (aDa l))[(at5 l v).c2.toNat]? =some ⟨(at5 l v).c2,aJr (at0 vts) (at5 l v).c2.toNat ((at5 l v).c3-1).toNat,0,0,0⟩:=by
 have hq:bHn vts.length (aDa l):=by rw[hl];exact aYo hT hN
 have hqi:∀q∈aDa l,aBa q.c0:=fun q hq2=>by
  rw[aYn hT hN] at hq2
  obtain⟨t,ht,rfl⟩:=AT.1 hq2
  obtain⟨v,hv2,rfl⟩:=hT.mem_l.1 ht
  have:=hT.bnd hv2
  exact⟨by dsimp only;omega,by dsimp only;omega⟩
 have hmem:=fun z=>bBp hv hqi hq (z:=z)
 have hrise:=aHq vts (aDa l)
 rw[aYn hT hN] at hmem hrise⊢
 have hans:∀z,z∈aBn vts (l.map fun t=>⟨t.c2,t.c2,t.c2+t.c3-1,0,0⟩)↔∃v,v<N∧z=⟨(at5 l v).c2,aJr (at0 vts) (at5 l v).c2.toNat ((at5 l v).c3-1).toNat,0,0,0⟩:=by
  intro z
  rw[hmem]
  constructor
  ·rintro⟨q,hq2,rfl⟩
   obtain⟨t,ht,rfl⟩:=AT.1 hq2
   obtain⟨v,hv2,rfl⟩:=hT.mem_l.1 ht
   refine⟨v,hv2,?_⟩
   unfold ansQ
   dsimp only
   rw[show(at5 l v).c2+(at5 l v).c3-1-(at5 l v).c2=(at5 l v).c3-1 by omega]
  ·rintro⟨v,hv2,rfl⟩
   refine⟨_,AT.2 ⟨_,hT.mem_l.2 ⟨v,hv2,rfl⟩,rfl⟩,?_⟩
   unfold ansQ
   dsimp only
   rw[show(at5 l v).c2+(at5 l v).c3-1-(at5 l v).c2=(at5 l v).c3-1 by omega]
 generalize aBn vts (l.map fun t=>⟨t.c2,t.c2,t.c2+t.c3-1,0,0⟩)=L at*
 have hix:=bAg (N:=N) hrise (fun t ht=>by
  obtain⟨v,hv2,rfl⟩:=(hans t).1 ht
  have:=hT.bnd hv2
  exact⟨(at5 l v).c2.toNat,by omega,by dsimp only;omega⟩) (fun n hn=>by
  obtain⟨v,hv2,hvn⟩:=hT.surj hn
  exact⟨_,(hans _).2 ⟨v,hv2,rfl⟩,hvn⟩)
 refine⟨hix.1,fun v hv2=> ?_⟩
 have hb:=hT.bnd hv2
 obtain⟨t,ht,h0⟩:=hix.2 (at5 l v).c2.toNat (by omega)
 obtain⟨w,hw,rfl⟩:=(hans t).1 (AZ ht)
 dsimp only at h0
 obtain rfl:=hT.num_inj hw hv2 (by omega)
 exact ht
theorem bKb (hT:aAw N es lab b tl l) (hf:∀e∈es,inE N e) (hfl:fl.length=es.length) (hN:N≤1000000) (hm:es.length≤1000000) {s:Int} (hs:s=1∨s= -1) {v:Nat} (hv:v<N):
  ∃x,aJr (at0 (aCp s (aBg l (aCq (edT es) fl) (edT es)) l)) (at5 l v).c2.toNat ((at5 l v).c3-1).toNat=s*x∧Out N es fl l v x∧∀y,Out N es fl l v y→s*x≤s*y:=by
 obtain⟨_,hall⟩:=aPg hT hf hfl hN hm hs
 have hpi:=fun {y:T5} (hy:y∈aFb s (aBg l (aCq (edT es) fl) (edT es)) l)=>bLj hT hf hfl hN hs hy
 have hpo:=fun {u:Nat} (hu:u<N) {x:Int} hx=>bLk hT hf hfl hN hs hu (x:=x) hx
 generalize at0 (aCp s (aBg l (aCq (edT es) fl) (edT es)) l)=f at hall⊢
 generalize aFb s (aBg l (aCq (edT es) fl) (edT es)) l=P at hall hpi hpo
 have hb:=hT.bnd hv
 obtain⟨k,hk⟩:∃k:Nat,(at5 l v).c2=(k:Int):=⟨(at5 l v).c2.toNat,by omega⟩
 obtain⟨q,hq⟩:∃q:Nat,(at5 l v).c3=(q:Int)+1:=⟨((at5 l v).c3-1).toNat,by omega⟩
 rw[show(at5 l v).c2.toNat=k by omega,show((at5 l v).c3-1).toNat=q by omega]
 obtain⟨j,hj,hje⟩:=aLy f k q
 obtain⟨⟨y,hy,hy0,hy1⟩,_⟩:=hall (k+j) (by omega)
 obtain⟨u,hu,hu0,x,hx,hxx⟩:=hpi hy
 refine⟨x,by rw[hje,←hy1,hx],⟨u,hu,⟨by omega,by omega⟩,hxx⟩,?_⟩
 rintro z ⟨w,hw,⟨hs1,hs2⟩,hz⟩
 obtain⟨y2,hy2,hy20,hy21⟩:=hpo hw hz
 have hbw:=hT.bnd hw
 obtain⟨g,hg⟩:∃g:Nat,(at5 l w).c2=(g:Int):=⟨(at5 l w).c2.toNat,by omega⟩
 have h3:=(hall g (by omega)).2 y2 hy2 (by omega)
 have h4:=aOr f k q (g-k) (by omega)
 rw[show k+(g-k)=g by omega] at h4
 rw[←hx,hy1,←hje,←hy21]
 exact Int.le_trans h4 h3
theorem bGw (hT:aAw N es lab b tl l) (hf:∀e∈es,inE N e) (hfl:fl.length=es.length) (hN:N≤1000000) (hm:es.length≤1000000):
  aHy N es fl l (aVl l (aCq (edT es) fl) (edT es))∧bOi l (aCq (edT es) fl) (edT es)=none:=by
 have hoo:=aLz (hT.okT hN) (aNm hf hN hm fl) (aPf hf hN hm)
 have hni:=fun s t ht=>(aBm (aZv (s:=s) hoo (hT.okT hN) t ht)).1
 obtain⟨n1,a1⟩:=aPg hT hf hfl hN hm (s:=1) (.inl rfl)
 obtain⟨n2,a2⟩:=aPg hT hf hfl hN hm (s:= -1) (.inr rfl)
 obtain⟨l1,b1⟩:=bAi hT hN (hni 1) n1
 obtain⟨l2,b2⟩:=bAi hT hN (hni (-1)) n2
 refine⟨⟨?_,fun v hv=> ?_⟩,?_⟩
 ·unfold aVl aSm;rw[AX,AX];exact l1
 ·have hb:=hT.bnd hv
  have hlo:=b1 v hv
  have hhi:=b2 v hv
  have hk:lkV (aBn (aCp (-1) (aBg l (aCq (edT es) fl) (edT es)) l) (aDa l)) (at5 l v).c2 1=aJr (at0 (aCp (-1) (aBg l (aCq (edT es) fl) (edT es)) l)) (at5 l v).c2.toNat ((at5 l v).c3-1).toNat:=
   aNg (aHq _ _) (AZ hhi) rfl
  have hmin:=fun (s:Int) (hs:s=1∨s= -1)=>bKb hT hf hfl hN hm hs hv
  obtain⟨x1,e1,o1,i1⟩:=hmin 1 (.inl rfl)
  obtain⟨x2,e2,o2,i2⟩:=hmin (-1) (.inr rfl)
  have hob:0≤x2∧x2<N:=by
   obtain⟨u,hu,_,rfl|⟨w,hw,_,rfl⟩⟩:=o2
   ·have:=hT.bnd hu;omega
   ·have:=hT.bnd hw;omega
  refine⟨x1,x2,?_,⟨o1,fun y hy=>by have:=i1 y hy;omega⟩,⟨o2,fun y hy=>by have:=i2 y hy;omega⟩⟩
  unfold aVl aSm
  rw[BP,BP,hlo]
  show some (⟨(at5 l v).c2,_,AH .i64 (-(lkV _ (at5 l v).c2 1)),0,0⟩:T5)=_
  rw[hk,e1,e2,aAd (by omega)]
  simp only[A9,T5.mk.injEq,true_and,and_true]
  exact⟨by show 1*x1=x1;omega,by omega⟩
 ·unfold bOi aSk
  rw[if_pos (by rw[n1];exact aYo hT hN),if_pos (by rw[n2];exact aYo hT hN)]
  rfl
end
open Go.Spc
theorem fl4len (f:Fl):(fl4 f).length=4:=rfl
def aTc (fs:List Fl):Nat:=(fs.map (·.blocks)).sum
theorem bGx {fs:List Fl} {i:Nat} {f:Fl} (h:fs[i]? =some f):aTc (fs.take (i+1))=aTc (fs.take i)+f.blocks:=by
 unfold aTc;rw[BN,h];simp
theorem bGy (fs:List Fl) (i:Nat):aTc (fs.take i)≤aTc fs:=by
 have h:=congrArg aTc (BT i fs)
 unfold aTc at h⊢
 rw[AV,List.sum_append] at h
 omega
theorem bOq {ba:Nat} {α:Ar} {c:aAc} (h:aKm ba α c):α.peak≤α.room:=by
 obtain⟨c0,⟨bm,ck,_,h1⟩,_⟩:=h
 omega
def Wk.flt (W:Wk) (n:Int):Wk:={W with δ:={W.δ with fault:=n}}
theorem Wc.flt {bd ba bs:Nat} {W:Wk} {cd ca cs cd':aAc} {n:Int} (h:Wc bd ba bs W cd ca cs) (hd:aDt bd {W.δ with fault:=n} cd'):Wc bd ba bs (W.flt n) cd' ca cs:=⟨hd,h.ar,h.sp,h.nn,h.live⟩
theorem bGz {bd ba bs:Nat} {W:Wk} {cd ca cs:aAc} (h:Wc bd ba bs W cd ca cs) {fs:List Fl} (hl:W.live.Perm (aAy fs [])) {N:Nat} (hn:W.σ.n=N):aBb W.σ.free+aTc fs=N:=by
 have h1:=bNd h hl
 rw[aFx] at h1
 unfold aTc
 rw[show aBb []=0 from rfl] at h1
 omega
theorem aSy {bd ba bs:Nat} {W:Wk} {cd ca cs:aAc} (h:Wc bd ba bs W cd ca cs) {fs:List Fl} (hl:W.live.Perm (aAy fs [])) (hn:W.σ.n=9000):aBb W.σ.free+aTc fs=9000:=bGz h hl hn
theorem aLb {W:Wk} {k:Nat} {bd:Nat} {cd:aAc} (hd:aDt bd W.δ cd) (h1:1≤k) (h2:k≤5):aBx W (⟨0,0,k,0⟩,[]):=by
 obtain⟨⟨hs,_⟩,_⟩:=hd.num
 have hp:=aAj hs h1 h2
 refine⟨[],⟨h1,h2,rfl,AS _,?_,by simp,fun j hj=>absurd hj (Nat.not_lt_zero j),fun h=>absurd rfl h⟩,by simp⟩
 show 0=(0+aAf W.δ.size k-1)/aAf W.δ.size k
 rw[Nat.div_eq_of_lt (by omega)]
end Go.Proofs.YtammjnjpheobaaaGreat
namespace Go.SL
section
variable {P:Program} {ops:Array Oper} {Q:Exit→Act→World→Prop} {cls:Nat→Oper→Cls} {w0:World} {S:List Nat} {n:Nat} {l:List (Nat×Oper)} {L:aBe} {D:List Deferred} {H:Hp} {qs:List Rd} {k d T yT:Nat} {x y:Operand} {ty:TypeId} {pos:String} {af:Array Edge} {g:Option (Nat×Bool)}
end
end Go.SL
namespace Go.Proofs.YtammjnjpheobaaaGreat
open Go.SL Go.Spc Go.Tup Go.Srt
structure Ons (n ro:Nat) (W:Wk) (fs:List Fl):Prop where
 size:W.δ.size=10
 room:W.α.room=ro
 used:W.α.used=0
 acts:W.δ.acts≤1000000000
 n:W.σ.n=n
 live:W.live.Perm (aAy fs [])
theorem Ons.flt {n ro:Nat} {W:Wk} {fs:List Fl} (h:Ons n ro W fs) (x:Int):Ons n ro (W.flt x) fs:={h with}
theorem Ons.fresh (n ro:Nat):Ons n ro (wk0 10 n ro) []:=⟨rfl,rfl,rfl,AS _,rfl,.refl _⟩
theorem Ons.lay {n ro k m:Nat} {bd ba bs:Nat} {cd ca cs cd1 ca1 cs1:aAc} {W W1:Wk} {f:Fl} {fs:List Fl} {ts:List T5} (h:Ons n ro W fs) (hW:Wc bd ba bs W cd ca cs) (hW1:Wc bd ba bs W1 cd1 ca1 cs1) (hE:Ev W W1 (aAb 10 k m) (aAb 10 k m)) (hg:W1.α.gs.Perm W.α.gs) (hl:W1.live.Perm (aCh f W.live)) (hfo:aAq W1.δ.disk 10 [f.ext] f ts) (ha:W.δ.acts+aAb 10 k m≤1000000000):
  Ons n ro W1 (fs++[f])∧aBx W1 (f,ts):=by
 have h1:W1.δ.size=10:=hE.size.trans h.size
 have h2:=hE.acts.2
 exact⟨⟨h1,hE.room.trans h.room,(aKb hW hW1 hg).trans h.used,by omega,hE.n.trans h.n,(hl.trans (aCx h.live)).trans (by rw[←aIm])⟩,aBx.new hfo h1 hl⟩
open Go.Gr
theorem Ons.stepped {n ro A T wd:Nat} {p:Jp} {bd ba bs:Nat} {cd ca cs cd1 ca1 cs1:aAc} {W W1:Wk} {x:Fl} {fs:List Fl} {ts:List T5} (h:Ons n ro W fs) (hW:Wc bd ba bs W cd ca cs) (hW1:Wc bd ba bs W1 cd1 ca1 cs1) (hS:aDp p W W1 A T none ts x 0) (hw:x.width=wd) (ha:W.δ.acts+A≤1000000000):
  Ons n ro W1 (fs++[x])∧aBx W1 (x,ts)∧x.count=ts.length∧(∀z,aBx W z→aBx W1 z):=by
 obtain⟨hl,hfo⟩:W1.live.Perm (aCh x W.live)∧aAq W1.δ.disk W.δ.size [x.ext] x ts:=hS.res.elim (fun h=>⟨h.2.2.1,h.2.2.2⟩) (fun h=>absurd rfl h.1)
 have hsz:W1.δ.size=10:=hS.size.trans h.size
 rw[h.size] at hfo
 have hac:=hS.acts
 refine⟨⟨hsz,hS.room.trans h.room,(aKb hW hW1 hS.gs).trans h.used,by omega,hS.n.trans h.n,(hl.trans (aCx h.live)).trans (by rw[←aIm])⟩,aBx.new hfo hsz hl,hfo.len.symm,fun z hz=>hz.stay hS.size hS.keep (bAc hl)⟩
theorem Ons.tot {n ro:Nat} {W:Wk} {fs:List Fl} (h:Ons n ro W fs):W.live.length≤fs.length∧aBb W.live=(fs.map (·.blocks)).sum:=by
 have h1:=h.live.length_eq
 have h2:=aGd fs []
 have h3:=(aFp h.live).trans (aFx fs [])
 rw[show aBb []=0 from rfl] at h3
 simp only[AU] at h2
 exact⟨by omega,by omega⟩
theorem bCe (a b c:Fl) (hw:¬(a.width=5∧b.width=3∧c.width=3)) (x:Value):CtQ AC 29 [x,flv a,flv b,flv c] [] (.tuple #[flv ⟨0,0,0,0⟩,.int .i64 1]):=by
 have hflv:∀f:Fl,flv f= .agg #[.int .i64 (f.first:Int),.int .i64 (f.blocks:Int),.int .i64 (f.width:Int),.int .i64 (f.count:Int)]:=fun _=>rfl
 rw[hflv,hflv,hflv]
 by_cases h2:a.width=5
 ·have hwi:(a.width:Int)=5:=by rw[h2];rfl
  by_cases h3:b.width=3
  ·have hwj:(b.width:Int)=3:=by rw[h3];rfl
   have h4:c.width≠3:=fun h=>hw ⟨h2,h3,h⟩
   refine Ct.intro Tryz.func29 rfl Tryz.ntmps29 (nle rfl) fun w0=> ?_;dsimp only[aAa,AD]
   repeat(refine st ?_;intros)
   (refine Dn.post (Hr:=[]) Tryz.results29 (hR:= ?_);exact⟨rfl,rfl⟩)
  ·refine Ct.intro Tryz.func29 rfl Tryz.ntmps29 (nle rfl) fun w0=> ?_;dsimp only[aAa,AD]
   repeat(refine st ?_;intros)
   (refine Dn.post (Hr:=[]) Tryz.results29 (hR:= ?_);exact⟨rfl,rfl⟩)
 ·refine Ct.intro Tryz.func29 rfl Tryz.ntmps29 (nle rfl) fun w0=> ?_;dsimp only[aAa,AD]
  repeat(refine st ?_;intros)
  (refine Dn.post (Hr:=[]) Tryz.results29 (hR:= ?_);exact⟨rfl,rfl⟩)
theorem bKc (a b c:Fl) (ha:a.width=5) (hb:b.width=3) (hc:c.width=3):CtQ AC 29 [.pointer none,flv a,flv b,flv c] [] (.tuple #[flv ⟨0,0,0,0⟩,.int .i64 1]):=by
 have hflv:∀f:Fl,flv f= .agg #[.int .i64 (f.first:Int),.int .i64 (f.blocks:Int),.int .i64 (f.width:Int),.int .i64 (f.count:Int)]:=fun _=>rfl
 have hwi:(a.width:Int)=5:=by rw[ha];rfl
 have hwj:(b.width:Int)=3:=by rw[hb];rfl
 have hwk:(c.width:Int)=3:=by rw[hc];rfl
 rw[hflv,hflv,hflv]
 refine Ct.intro Tryz.func29 rfl Tryz.ntmps29 (nle rfl) fun w0=> ?_;dsimp only[aAa,AD]
 repeat(refine st ?_;intros)
 refine R.call (hct:=bFe _) (h:= ?_)
 rintro _ _ ⟨rfl,rfl⟩
 try dsimp only[AA,AB]
 repeat(refine st ?_;intros)
 (refine Dn.post (Hr:=[]) Tryz.results29 (hR:= ?_);exact⟨rfl,rfl⟩)
theorem aVy (bw bd ba bs ro:Nat) (hro:80≤ro) (N:Nat) (hN:N≤40) (es:List IE) (hes:es.length≤70) (hf:∀e∈es,inE N e) (W:Wk) (cd ca cs:aAc) (hW:Wc bd ba bs W cd ca cs) (a b c:Fl) (hO:Ons 9000 ro W [a,b,c]) {lab:List Int} {fl:List Bool} {r bt:List T5} {tl:List (Nat×Fo)} {l:List T5} (hP:aAm N es lab fl r bt) (hT:aAw N es lab bt tl l)
  (ha:aBx W (a,l)) (hb:aBx W (b,aCq (edT es) fl)) (hc:aBx W (c,edT es)) (hwa:a.width=5) (hwb:b.width=3) (hwc:c.width=3) (hac:W.δ.acts≤300000):
  Ct AC 29 [pv bw,flv a,flv b,flv c] [aAh bw bd ba bs,cd,ca,cs] fun v H'=>∃x e cd' ca' cs' W',v= .tuple #[flv x,.int .i64 e]∧H'=[aAh bw bd ba bs,cd',ca',cs']∧Wc bd ba bs W' cd' ca' cs'∧W'.α.used=0∧W'.σ.n=9000∧W'.δ.acts≤20000000∧(W.δ.fault= -1→W'.δ.fault= -1)∧
   ((e=0∧aBx W' (x,aVl l (aCq (edT es) fl) (edT es))∧x.width=3∧x.count=N∧Ons 9000 ro W' [a,b,c,x])∨(e=6∧x=⟨0,0,0,0⟩∧W.δ.fault≠-1∧W'.live.Perm (aAy [a,b,c] []))):=by
 have hfl:fl.length=es.length:=hP.fors.1
 have hle:=hP.for_le hf
 have hlen:=hT.len
 obtain⟨hll,htt⟩:=hO.tot
 simp only[A0,List.map_nil,List.sum_cons,List.sum_nil,AL,AU] at hll htt
 obtain⟨La,hfa,hsa⟩:=id ha
 obtain⟨Lb,hfb,hsb⟩:=id hb
 obtain⟨Lc,hfc,hsc⟩:=id hc
 have a1:=hfa.len;have b1:=hfb.len;have c1:=hfc.len
 have a2:=hfa.blk;have b2:=hfb.blk;have c2:=hfc.blk
 dsimp only at a1 b1 c1 a2 b2 c2
 rw[aIw] at c1
 rw[hO.size] at a2 b2 c2
 have a3:a.blocks≤a.count:=by rw[a2,hwa];exact aAv (aAj (by omega) (by omega) (by omega))
 have b3:b.blocks≤b.count:=by rw[b2,hwb];exact aAv (aAj (by omega) (by omega) (by omega))
 have c3:c.blocks≤c.count:=by rw[c2,hwc];exact aAv (aAj (by omega) (by omega) (by omega))
 have hm:es.length≤1000000:=by omega
 obtain⟨hLo,hEr⟩:=bGw hT hf hfl (by omega) hm
 have n1:=(aPg hT hf hfl (by omega) hm (s:=1) (.inl rfl)).1
 have n2:=(aPg hT hf hfl (by omega) hm (s:= -1) (.inr rfl)).1
 have hsT:aEi 90≤484:=by decide+kernel
 have hsT2:aEi 40≤162:=by decide+kernel
 have e1:484*(W.live.length+9)≤484*12:=BU _ (by omega)
 have e2:162*(W.live.length+11)≤162*14:=BU _ (by omega)
 have hn0:=hO.n
 have hL:=aXx bw bd ba bs W cd ca cs hW a b c l _ _ ha hb hc hwa hwb hwc hT.rise (aLa es fl) ((aMn es).imp fun h=>Int.le_of_lt h) 90 484 40 162 (by omega) (by omega) (by omega) (by omega) (by omega) hsT (by omega) (by omega) (by omega) (by omega) hsT2 (by omega) (by omega) (by omega) (by omega)
 rw[hEr] at hL
 refine hL.mono ?_
 rintro v H' (⟨_,x,e,cd3,ca3,cs3,W3,rfl,rfl,hW3,hS3,hw3⟩|⟨hsm,_⟩)
 rotate_left
 ·exfalso
  have h3:=hO.room
  have h4:=hO.used
  have h5:=hO.size
  omega
 have hac3:=hS3.acts
 unfold bLb at hac3
 refine⟨x,e,cd3,ca3,cs3,W3,rfl,rfl,hW3,(aKb hW hW3 hS3.gs).trans hO.used,hS3.n.trans hO.n,by omega,hS3.fault,?_⟩
 rcases hS3.res with⟨rfl,her,hl,hfo⟩|⟨he,rfl,hl,⟨rfl,hr⟩|⟨k,h6,_⟩⟩
 ·obtain⟨o1,o2,o3,_⟩:=hO.stepped hW hW3 hS3 (hw3 rfl) (by unfold bLb;omega)
  exact .inl ⟨rfl,o2,hw3 rfl,by rw[o3,hLo.len],o1⟩
 ·exact .inr ⟨rfl,rfl,hr,hl.trans hO.live⟩
 ·cases h6
theorem bKd {b:List T5} {i:Nat} (hi:i<b.length):bCd b i=true↔∃q,q<i∧(at5 b q).c2=(at5 b i).c2:=by
 unfold bCd
 rw[List.any_eq_true]
 constructor
 ·rintro⟨t,ht,he⟩
  obtain⟨q,hq,rfl⟩:=CC.1 ht
  rw[BK] at hq
  have h1:=aBs (r:=b) (k:=q) (by omega)
  rw[AE (by omega)] at h1
  refine⟨q,by omega,?_⟩
  rw[←BG h1]
  have:=of_decide_eq_true he
  rwa[List.getElem_take] at this
 ·rintro⟨q,hq,he⟩
  refine⟨at5 b q,?_,decide_eq_true he⟩
  refine AZ (i:=q) ?_
  rw[BV,if_pos hq]
  exact aBs (by omega)
theorem bOr (p:Option Addr) (m cap:Nat) (b:List T5) (c:aAc) (hv:RV p m b c) (hm:m≤1000000) (i:Nat) (hi:i<m):
  CtQ AC 120 [.slice p m cap,.int .i64 (i:Int)] [c] (.bool (bCd b i)):=by
 have hl:=hv.1
 have hmi:=bKd (b:=b) (i:=i) (by omega)
 obtain⟨bb,off,cs,T,fz,rfl,rfl,_,hget⟩:=(RV.rw hv).pos aAr (by omega)
 have hg:∀j,j<m→cs[off+j*5+2]? =some (.int .i64 (at5 b j).c2):=fun j hj=>hget j 2 _ _ (aBs (by omega)) rfl
 have hgi:=hg i hi
 refine Ct.intro Tryz.func120 rfl Tryz.ntmps120 (nle rfl) fun w0=> ?_;dsimp only[aAa,AD]
 repeat(first|(refine st ?_;intros)|refine G.draw [] (h:= ?_))
 refine G.loop (X:=Nat) (fun j=>j≤i∧∀q,q<j→(at5 b q).c2≠(at5 b i).c2) (fun j=>[(5,.int .i64 (j:Int)),(0,.slice (some ⟨bb,off,none⟩) m cap),(1,.int .i64 (i:Int))]) (fun _=>[[(bb,aCa cs T fz)]]) (fun j=>i-j) 0 ⟨AS _,fun q h=>by omega⟩ (body:= ?_)
 rintro j ⟨hj,hno⟩
 by_cases hlt:j<i
 ·have hgj:=hg j (by omega)
  have hnx:(at5 b j).c2≠(at5 b i).c2→∀q,q<j+1→(at5 b q).c2≠(at5 b i).c2:=fun hne q hq=>by
   rcases Nat.eq_or_lt_of_le (Nat.lt_succ_iff.1 hq) with rfl|h1
   ·exact hne
   ·exact hno q h1
  have hye:(at5 b j).c2=(at5 b i).c2→bCd b i=true:=fun he=>hmi.2 ⟨j,hlt,he⟩
  generalize (at5 b j).c2=x at*
  generalize (at5 b i).c2=y at*
  by_cases hq:x=y
  ·rw[hye hq]
   repeat(first|(refine st ?_;intros)|refine G.draw [] (h:= ?_))
   (refine Dn.post (Hr:=[[(bb,aCa cs T fz)]]) Tryz.results120 (hR:= ?_);exact⟨rfl,rfl⟩)
  ·repeat(first|(refine st ?_;intros)|refine G.draw [] (h:= ?_))
   refine Dn.round (j+1) ⟨hlt,hnx hq⟩ (by omega)
 ·obtain rfl:j=i:=by omega
  have hf:bCd b j=false:=by
   cases hb:bCd b j with
   |false=>rfl
   |true=>
    obtain⟨q,hq,he⟩:=hmi.1 hb
    exact(hno q hq he).elim
  rw[hf]
  repeat(first|(refine st ?_;intros)|refine G.draw [] (h:= ?_))
  (refine Dn.post (Hr:=[[(bb,aCa cs T fz)]]) Tryz.results120 (hR:= ?_);exact⟨rfl,rfl⟩)
theorem aYp:∀n,aEn n [Value.int .i64 0,.int .i64 0,.int .i64 0,.int .i64 0,.int .i64 0]=(BW n T5.zero).flatMap aAl
 |0=>rfl
 |n+1=>by rw[List.replicate_succ,A6,←aYp n];rfl
theorem tset (o:List T5) (i:Nat) (t:T5) (h:i<o.length):aFi (o.flatMap aAl) (i*5) [.int .i64 t.c0,.int .i64 t.c1,.int .i64 t.c2,.int .i64 t.c3,.int .i64 t.c4]=(o.set i t).flatMap aAl:=by
 have:=bGb aAr o i t [] h
 rw[AQ,AQ] at this
 exact this
theorem bOs {o:List T5} {i j:Nat} {t:T5} {v:Value} (h:o[i]? =some t) (hj:(aAl t)[j]? =some v):(o.flatMap aAl)[i*5+j]? =some v:=by
 have:=bLd aAr h hj []
 rwa[AQ] at this
theorem tset3 {o:List T5} {i:Nat} {t:T5} (h:o[i]? =some t) (x:Int):(o.flatMap aAl).set (i*5+3) (.int .i64 x)=(o.set i {t with c3:=x}).flatMap aAl:=by
 obtain⟨hi,rfl⟩:=AK.1 h
 rw[←tset o i _ hi]
 have h1:=aGz aAr o
 have h2:(i+1)*5≤o.length*5:=A5 _ hi
 apply CD
 intro k
 rw[aFs _ _ _ (by simp only[BK,AL,AU,AF];omega)]
 by_cases hk:k=i*5+3
 ·subst hk
  rw[DG (by omega),AR,BB (by simp only[BK,AL,AU,AF];omega),A7 (by simp only[BK,AL,AU,AF];omega)]
  have:i*5+3-(DV (i*5) (o.flatMap aAl)).length=3:=by rw[BK];omega
  rw[this];rfl
 ·rw[CR (by omega)]
  rcases DQ k (i*5) with h3|h3
  ·rw[AR,A7 (by simp only[BK,AL,AU,AF];omega),BV,if_pos h3]
  ·rw[AR,BB (by simp only[BK,AL,AU,AF];omega)]
   have h4:(DV (i*5) (o.flatMap aAl)).length=i*5:=by rw[BK];omega
   rw[h4]
   rcases DQ k (i*5+5) with h5|h5
   ·rw[A7 (by simp only[BK,AL,AU,AF];omega)]
    obtain⟨j,rfl⟩:∃j,k=i*5+j:=⟨k-i*5,by omega⟩
    rw[Nat.add_sub_cancel_left]
    have hj:j=0∨j=1∨j=2∨j=4:=by omega
    rcases hj with rfl|rfl|rfl|rfl
    ·exact bOs h rfl
    ·exact bOs h rfl
    ·exact bOs h rfl
    ·exact bOs h rfl
   ·rw[BB (by simp only[BK,AL,AU,AF];omega),List.getElem?_drop]
    congr 1
    simp only[AL,AU]
    omega
def aRh (b:List T5) (x i:Nat):List T5:=(aIe (b.take i) x).map (aJm b)
theorem bHa {b:List T5} {x i:Nat} {t:T5} (h:b[i]? =some t) (hne:t.c3≠(x:Int)):aRh b x (i+1)=aRh b x i:=by
 unfold aRh aIe
 rw[BN,h,B8]
 simp[hne]
theorem bHb {b:List T5} {x i:Nat} {t:T5} (h:b[i]? =some t) (he:t.c3=(x:Int)):aRh b x (i+1)=aRh b x i++[aJm b t]:=by
 unfold aRh aIe
 rw[BN,h,B8]
 simp[he]
theorem bHc {b:List T5} {x i:Nat} {t:T5} (h:b[i]? =some t) (he:t.c3=(x:Int)):(aIe b x).map (aJm b)=aRh b x i++aJm b t::(aIe (b.drop (i+1)) x).map (aJm b):=by
 obtain⟨hi,rfl⟩:=AK.1 h
 have h1:b=b.take i++b[i]::b.drop (i+1):=by rw[←BM hi,BT]
 unfold aRh aIe
 have h2:List.filter (fun t=>decide (t.c3=(x:Int))) b=List.filter (fun t=>decide (t.c3=(x:Int))) (b.take i)++b[i]::List.filter (fun t=>decide (t.c3=(x:Int))) (b.drop (i+1)):=by
  conv=>lhs;rw[h1]
  rw[B8,List.filter_cons,if_pos (by simpa using he)]
 rw[h2,AV,A0]
def aJn (y:Nat×Fo):T5:=⟨(y.1:Int),-1,(y.1:Int),-1,((y.2.sz+1:Nat):Int)⟩
structure RtX where
 v:Nat
 n:Nat
 tl1:List (Nat×Fo)
 tl2:List (Nat×Fo)
 o:List T5
structure aYq (N:Nat) (tl:List (Nat×Fo)) (s:RtX):Prop where
 v:s.v≤N
 spl:tl=s.tl1++s.tl2
 lo:∀y∈s.tl1,y.1<s.v
 hi:∀y∈s.tl2,s.v≤y.1
 w:Wrt N (aNl tl) (aMs (vsT s.tl1)) s.o
 n:s.n=aMs (vsT s.tl1)
structure RuX where
 i:Nat
 n:Nat
 o:List T5
structure RwX where
 u:Nat
 dn:List Int
structure RfX where
 k:Int
 rest:List Int
 dn:List Int
section
variable {N:Nat} {es:List IE} {lab:List Int} {fl:List Bool} {r b:List T5} {tl:List (Nat×Fo)} {l:List T5}
theorem aAw.all_is (h:aAw N es lab b tl l) (hN:N≤1000000):(aMr 0 0).all (0,0) (vsT tl)=aNl tl:=aSx (d:=0) (n:=0) (by have:=h.tlo.sz;omega)
theorem aAw.cnt_all (h:aAw N es lab b tl l) (hN:N≤1000000):aMs (vsT tl)=N:=by
 unfold aMs
 rw[h.all_is hN,h.tabL_len]
theorem aYr (a c:List (Nat×Fo)):vsT (a++c)=vsT a++vsT c:=by unfold vsT;rw[B9]
theorem aYq.root (h:aAw N es lab b tl l) {s:RtX} (hs:aYq N tl s) (hv:lab[s.v]? =some (s.v:Int)):∃T tl2,s.tl2=(s.v,T)::tl2:=by
 have hvN:s.v<N:=by rw[←h.tlo.len];exact(AK.1 hv).1
 obtain⟨y,hy,he⟩:=h.tlo.all s.v hvN
 rw[hv] at he
 have hyv:y.1=s.v:=by have:=BG he;omega
 rw[hs.spl,AO] at hy
 have hup:=h.tlo.up
 rw[hs.spl,CG] at hup
 rcases hy with hy|hy
 ·have:=hs.lo y hy;omega
 ·match ht:s.tl2,hy with
  |z::t2,hy=>
   rw[ht] at hup
   rcases AM.1 hy with rfl|hy
   ·exact⟨y.2,t2,by rw[←hyv]⟩
   ·have h1:=List.rel_of_pairwise_cons hup.2.1 hy
    have h2:=hs.hi z (by rw[ht];exact AI)
    omega
theorem aYq.skip (h:aAw N es lab b tl l) {s:RtX} (hs:aYq N tl s) (hlt:s.v<N) {x:Int} (hx:lab[s.v]? =some x) (hne:x≠(s.v:Int)):aYq N tl ⟨s.v+1,s.n,s.tl1,s.tl2,s.o⟩:=by
 refine⟨hlt,hs.spl,fun y hy=>Nat.lt_succ_of_lt (hs.lo y hy),fun y hy=> ?_,hs.w,hs.n⟩
 have h1:=hs.hi y hy
 have h2:=(h.tlo.tree y (by rw[hs.spl];exact BL _ hy)).root
 rcases Nat.eq_or_lt_of_le h1 with h3|h3
 ·rw[←h3,hx] at h2
  exact(hne (BG h2)).elim
 ·exact h3
theorem aYq.tell (h:aAw N es lab b tl l) (hN:N≤1000000) {s:RtX} (hs:aYq N tl s) {T:Fo} {t2:List (Nat×Fo)} (ht:s.tl2=(s.v,T)::t2):
  aMs (vsT s.tl1)<N∧aMs (vsT s.tl1++[aJn (s.v,T)])=aMs (vsT s.tl1)+1∧
  Wrt N (aNl tl) (aMs (vsT s.tl1)+1) (s.o.set s.v ⟨(s.v:Int),-1,(aMs (vsT s.tl1):Int),0,0⟩):=by
 have e1:vsT tl=vsT s.tl1++aJn (s.v,T)::(trv s.v 0 s.v T++vsT t2):=by
  rw[hs.spl,aYr,ht,aJj];rfl
 obtain⟨h1,e,h2,h3,h4⟩:=aVx (P:=vsT s.tl1) (Q:=trv s.v 0 s.v T++vsT t2) (v:=aJn (s.v,T)) (by show(s.v:Int)≠-1;omega)
 rw[←e1,h.all_is hN] at h2
 obtain⟨k1,k2,w,_,k3,_,k4⟩:=h.entry h2
 have k5:e.c4=0:=by
  rcases k4 with k4|⟨j,e',_,g1,g2,_⟩
  ·exact k4.2
  ·obtain⟨_,_,w',_,g3,_⟩:=h.entry g1
   have:e.c1= -1:=h4
   omega
 have hw:=h.wstep hs.w h2
 have he0:e.c0=(s.v:Int):=h3
 have he1:e.c1= -1:=h4
 have e2:({e with c3:=0}:T5)=⟨(s.v:Int),-1,(aMs (vsT s.tl1):Int),0,0⟩:=by
  cases e;simp_all
 rw[e2,he0,AP] at hw
 exact⟨k1,h1,hw⟩
theorem aYq.tell2 (hP:aAm N es lab fl r b) (hf:∀e∈es,inE N e) (h:aAw N es lab b tl l) (hN:N≤1000000) {s:RtX} (hs:aYq N tl s) {T:Fo} {t2:List (Nat×Fo)} (ht:s.tl2=(s.v,T)::t2) {i:Nat} {t:T5} (hi:b[i]? =some t) (hc3:t.c3=(s.v:Int)):
  let k:=aMs (vsT s.tl1++aJn (s.v,T)::aRh b s.v i)
  ((bCd b i=true∨t.c2=(s.v:Int))∧aMs (vsT s.tl1++aJn (s.v,T)::aRh b s.v (i+1))=k)∨
  (bCd b i=false∧t.c2≠(s.v:Int)∧aMs (vsT s.tl1++aJn (s.v,T)::aRh b s.v (i+1))=k+1∧k<N∧∀o,Wrt N (aNl tl) k o→
   ∃to from_:Nat,∃d:Int,to<N∧from_<N∧t.c2=(to:Int)∧t.c1=(from_:Int)∧(at5 o from_).c4=d∧0≤d∧d+1<N∧Wrt N (aNl tl) (k+1) (o.set to ⟨(to:Int),(from_:Int),(k:Int),0,d+1⟩)):=by
 intro k
 have hT:=h.tlo.tree (s.v,T) (by rw[hs.spl,ht];exact BL _ AI)
 have hvis:=hT.vis
 dsimp only at hvis
 have e1:vsT tl=(vsT s.tl1++aJn (s.v,T)::aRh b s.v i)++aJm b t::((aIe (b.drop (i+1)) s.v).map (aJm b)++vsT t2):=by
  rw[hs.spl,aYr,ht,aJj,←hvis,bHc hi hc3]
  simp[aJn]
 have e2:vsT s.tl1++aJn (s.v,T)::aRh b s.v (i+1)=(vsT s.tl1++aJn (s.v,T)::aRh b s.v i)++[aJm b t]:=by
  rw[bHb hi hc3];simp
 rcases hP.vis_seen hf hi with⟨h1,h2⟩|⟨h1,h2,h3,h4,h5⟩
 ·left
  rw[hc3] at h2
  exact⟨h2,by rw[e2];exact bOp h1⟩
 ·right
  rw[hc3] at h4
  obtain⟨g1,e,g2,g3,g4⟩:=aVx (P:=vsT s.tl1++aJn (s.v,T)::aRh b s.v i) (Q:=(aIe (b.drop (i+1)) s.v).map (aJm b)++vsT t2) (v:=aJm b t) (by rw[h1];exact h5)
  rw[←e1,h.all_is hN] at g2
  obtain⟨k1,k2,w,hw,k3,k3b,k4⟩:=h.entry g2
  refine⟨h3,h4,by rw[e2];exact g1,k1,fun o ho=> ?_⟩
  rw[h1] at g3
  rw[h2] at g4
  obtain⟨j,e',hj,q1,q2,q3⟩:∃j e',j<k∧(aNl tl)[j]? =some e'∧e'.c0=e.c1∧e.c4=e'.c4+1:=by
   rcases k4 with k4|k4
   ·exfalso
    obtain⟨i',n',hi',hr',_,rfl⟩:=hP.b_arc (AZ hi)
    obtain⟨_,_,c1,_⟩:=hP.arc_g hf (aBy (f:=aDj r) aBj hi' n')
    have:(aFd r i' n').c1=(at5 r (itF (aDj r) n' i')).c1:=rfl
    omega
   ·exact k4
  obtain⟨_,_,u,hu,q4,q5,_⟩:=h.entry q1
  have hb1:=h.bnd hu
  rw[q5] at hb1
  have hb2:=h.bnd hw
  rw[k3b] at hb2
  have q6:=ho.got j e' hj q1
  rw[q4,AP] at q6
  have q7:(at5 o u).c4=e'.c4:=by
   have:=aBs (r:=o) (k:=u) (by rw[ho.len];exact hu)
   rw[q6] at this
   rw[←BG this]
  refine⟨w,u,e'.c4,hw,hu,by omega,by omega,q7,by omega,by omega,?_⟩
  have hst:=h.wstep ho g2
  have e3:({e with c3:=0}:T5)=⟨(w:Int),(u:Int),(k:Int),0,e'.c4+1⟩:=by
   show(⟨e.c0,e.c1,e.c2,0,e.c4⟩:T5)=_
   rw[k3,k2,q3,←q2,q4]
  rw[e3,k3,AP] at hst
  exact hst
theorem aYq.done (h:aAw N es lab b tl l) {s:RtX} (hs:aYq N tl s) (hlt:s.v<N) {T:Fo} {t2:List (Nat×Fo)} (ht:s.tl2=(s.v,T)::t2) {o:List T5} {m:Nat} (hm:b.length≤m) (ho:Wrt N (aNl tl) (aMs (vsT s.tl1++aJn (s.v,T)::aRh b s.v m)) o):aYq N tl ⟨s.v+1,aMs (vsT s.tl1++aJn (s.v,T)::aRh b s.v m),s.tl1++[(s.v,T)],t2,o⟩:=by
 have hT:=h.tlo.tree (s.v,T) (by rw[hs.spl,ht];exact BL _ AI)
 have hup:=h.tlo.up
 rw[hs.spl,ht,CG,BH] at hup
 have e1:vsT (s.tl1++[(s.v,T)])=vsT s.tl1++aJn (s.v,T)::aRh b s.v m:=by
  have hvis:=hT.vis
  dsimp only at hvis
  unfold aRh
  rw[A4 hm,aYr,aJj,hvis]
  simp[aJn,vsT]
 refine⟨hlt,by rw[hs.spl,ht,AR];rfl,fun y hy=> ?_,fun y hy=>hup.2.1.1 y hy,?_,by rw[e1]⟩
 ·rcases AO.1 hy with h1|h1
  ·exact Nat.lt_succ_of_lt (hs.lo y h1)
  ·rw[AY.1 h1];exact Nat.lt_succ_self _
 ·show Wrt N (aNl tl) (aMs (vsT (s.tl1++[(s.v,T)]))) o
  rw[e1]
  exact ho
theorem aYq.end_ (h:aAw N es lab b tl l) (hN:N≤1000000) {s:RtX} (hs:aYq N tl s) (hv:s.v=N):s.o=aAw.outC N l []:=by
 have h0:s.tl2=[]:=by
  cases ht:s.tl2 with
  |nil=>rfl
  |cons y t2=>
   exfalso
   have hy:y∈s.tl2:=by rw[ht];exact AI
   have h1:=hs.hi y hy
   have h2:=(h.tlo.tree y (by rw[hs.spl];exact BL _ hy)).root
   have h3:=(AK.1 h2).1
   rw[h.tlo.len] at h3
   omega
 have h1:=hs.spl
 rw[h0,AQ] at h1
 have hw:=hs.w
 rw[←h1,h.cnt_all hN] at hw
 exact h.wend hw
end
theorem bHd (N:Nat) (es:List IE) (lab:List Int) (fl:List Bool) (r b:List T5) (tl:List (Nat×Fo)) (l:List T5) (hP:aAm N es lab fl r b) (hf:∀e∈es,inE N e) (h:aAw N es lab b tl l) (hN:N≤1000)
  (pa:Option Addr) (capa:Nat) (ca:aAc) (hva:RV pa N (aHg lab) ca) (pb:Option Addr) (m capb:Nat) (cb:aAc) (hvb:RV pb m b cb) (hm:m≤1000000):
  Ct AC 72 [.slice pa N capa,.slice pb m capb] [ca,cb] fun v H'=>∃bo,v= .slice (some ⟨bo,0,none⟩) N N∧H'=[ca,cb,[(bo,row (l.flatMap aAl) 49)]]:=by
 have hbl:b.length=m:=hvb.1
 have hll:=h.tlo.len
 refine Ct.intro Tryz.func72 rfl Tryz.ntmps72 (nle rfl) fun w0=> ?_;dsimp only[aAa,AD]
 repeat(first|(refine st ?_;intros)|refine G.draw [] (h:= ?_)|(refine cq hMe ?_))
 rename_i bo
 rw[aYp]
 refine G.loop (X:=RtX) (fun s=>aYq N tl s) (fun s=>[(7,.int .i64 (s.v:Int)),(6,.int .i64 (s.n:Int)),(5,.slice (some ⟨bo,0,none⟩) N N),(0,.slice pa N capa),(1,.slice pb m capb)])
  (fun s=>[[(bo,row (s.o.flatMap aAl) 49)],ca,cb]) (fun s=>N-s.v) ⟨0,0,[],tl,BW N T5.zero⟩ ⟨AS _,rfl,by simp,fun y _=>AS _,aAw.wstart N tl,rfl⟩ (body:= ?_)
 rintro⟨v,n,tl1,tl2,o⟩ hs
 have hv:=hs.v
 have hol:=hs.w.len
 dsimp only at hv hol⊢
 by_cases hlt:v<N
 ·have hlv:lab[v]? =some lab[v]:=AE (by omega)
  have hskip:=fun hne=>hs.skip h hlt hlv hne
  have hroot:=hs.root h
  obtain⟨b0,off,cs,T0,fz,rfl,rfl,_,hget⟩:=(RV.rw hva).pos aAr (by omega)
  have q1:cs[off+v*5+1]? =some (.int .i64 (at5 (aHg lab) v).c1):=hget v 1 _ _ (aBs (by rw[aSr];omega)) rfl
  rw[aIx hlv] at q1
  dsimp only at hskip hroot
  rw[hlv] at hroot
  generalize lab[v]=x at*
  by_cases hx:x=(v:Int)
  rotate_left
  ·repeat(first|(refine st ?_;intros)|refine G.draw [] (h:= ?_)|(refine cq hMe ?_))
   refine Dn.round ⟨v+1,n,tl1,tl2,o⟩ (hskip hx) (by dsimp only;omega)
  obtain⟨T,t2,rfl⟩:=hroot (by rw[hx])
  obtain⟨hk1,hk2,hw1⟩:=hs.tell h (by omega) rfl
  have hn:=hs.n
  dsimp only at hk1 hk2 hw1 hn
  rw[←hn] at hk1 hk2 hw1
  have hset:=tset o v ⟨(v:Int),-1,(n:Int),0,0⟩ (by omega)
  have hcl:=aGz aAr o
  have hcl2:(v+1)*5≤o.length*5:=A5 _ (by omega)
  dsimp only at hset
  have e1:AH .i64 ((n:Int)+1)=((n+1:Nat):Int):=aAd (by omega)
  repeat(first|(refine st ?_;intros)|refine G.draw [] (h:= ?_)|(refine cq hMe ?_))
  refine G.loop (X:=RuX) (fun q=>q.i≤m∧q.n=aMs (vsT tl1++aJn (v,T)::aRh b v q.i)∧Wrt N (aNl tl) q.n q.o)
   (fun q=>[(8,.int .i64 (q.i:Int)),(7,.int .i64 (v:Int)),(6,.int .i64 (q.n:Int)),(5,.slice (some ⟨bo,0,none⟩) N N),(0,.slice (some ⟨b0,off,none⟩) N capa),(1,.slice pb m capb)])
   (fun q=>[[(bo,row (q.o.flatMap aAl) 49)],[(b0,aCa cs T0 fz)],cb]) (fun q=>m-q.i) ⟨0,n+1,o.set v ⟨(v:Int),-1,(n:Int),0,0⟩⟩ ⟨AS _,hk2.symm,hw1⟩ (body:= ?_)
  rintro⟨i,n2,o2⟩ ⟨hi,hn2,hw2⟩
  dsimp only at hi hn2 hw2⊢
  have hol2:=hw2.len
  by_cases hlt2:i<m
  ·have hti:b[i]? =some (at5 b i):=aBs (by omega)
   have hMe:=bOr pb m capb b cb hvb hm i hlt2
   have htell:=fun hc3=>hs.tell2 hP hf h (by omega) rfl hti hc3
   have hskp:=fun hne=>bHa (x:=v) hti hne
   obtain⟨b2,off2,cs2,T2,fz2,rfl,rfl,_,hget2⟩:=(RV.rw hvb).pos aAr (by omega)
   have r1:cs2[off2+i*5+1]? =some (.int .i64 (at5 b i).c1):=hget2 i 1 _ _ hti rfl
   have r2:cs2[off2+i*5+2]? =some (.int .i64 (at5 b i).c2):=hget2 i 2 _ _ hti rfl
   have r3:cs2[off2+i*5+3]? =some (.int .i64 (at5 b i).c3):=hget2 i 3 _ _ hti rfl
   dsimp only at htell
   rw[←hn2] at htell
   by_cases hc3:(at5 b i).c3=(v:Int)
   ·replace htell:=htell hc3
    generalize (at5 b i).c1=z1 at*
    generalize (at5 b i).c2=z2 at*
    generalize (at5 b i).c3=z3 at*
    rcases htell with⟨h1,h2⟩|⟨h1,h2,h3,h4,h5⟩
    ·cases hmb:bCd b i with
     |true=>
      rw[hmb] at hMe
      repeat(first|(refine st ?_;intros)|refine G.draw [] (h:= ?_)|(refine cq hMe ?_))
      refine Dn.round ⟨i+1,n2,o2⟩ ⟨hlt2,h2.symm,hw2⟩ (by dsimp only;omega)
     |false=>
      rw[hmb] at hMe h1
      have h6:z2=(v:Int):=by simpa using h1
      repeat(first|(refine st ?_;intros)|refine G.draw [] (h:= ?_)|(refine cq hMe ?_))
      refine Dn.round ⟨i+1,n2,o2⟩ ⟨hlt2,h2.symm,hw2⟩ (by dsimp only;omega)
    ·rw[h1] at hMe
     obtain⟨to,fr,d,g1,g2,rfl,rfl,g5,g6,g7,g8⟩:=h5 o2 hw2
     have hset2:=tset o2 to ⟨(to:Int),(fr:Int),(n2:Int),0,d+1⟩ (by omega)
     have hcl3:=aGz aAr o2
     have hcl4:(to+1)*5≤o2.length*5:=A5 _ (by omega)
     have hgf:(o2.flatMap aAl)[fr*5+4]? =some (.int .i64 (at5 o2 fr).c4):=bOs (aBs (by omega)) rfl
     rw[g5] at hgf
     dsimp only at hset2
     have e2:AH .i64 ((n2:Int)+1)=((n2+1:Nat):Int):=aAd (by omega)
     have e3:AH .i64 (d+1)=d+1:=aAd (by omega)
     repeat(first|(refine st ?_;intros)|refine G.draw [] (h:= ?_)|(refine cq hMe ?_))
     refine Dn.round ⟨i+1,n2+1,o2.set to ⟨(to:Int),(fr:Int),(n2:Int),0,d+1⟩⟩ ⟨hlt2,h3.symm,g8⟩ (by dsimp only;omega)
   ·have h6:=hskp hc3
    generalize (at5 b i).c1=z1 at*
    generalize (at5 b i).c2=z2 at*
    generalize (at5 b i).c3=z3 at*
    repeat(first|(refine st ?_;intros)|refine G.draw [] (h:= ?_)|(refine cq hMe ?_))
    refine Dn.round ⟨i+1,n2,o2⟩ ⟨hlt2,by rw[h6];exact hn2,hw2⟩ (by dsimp only;omega)
  ·obtain rfl:i=m:=by omega
   have hd:=hs.done h hlt rfl (o:=o2) (m:=i) (by omega) (by rw[←hn2];exact hw2)
   dsimp only at hd
   rw[←hn2] at hd
   repeat(first|(refine st ?_;intros)|refine G.draw [] (h:= ?_)|(refine cq hMe ?_))
   refine Dn.round ⟨v+1,n2,tl1++[(v,T)],t2,o2⟩ hd (by dsimp only;omega)
 obtain rfl:v=N:=by omega
 obtain rfl:=hs.end_ h (by omega) rfl
 clear hs hol hlt
 repeat(first|(refine st ?_;intros)|refine G.draw [] (h:= ?_)|(refine cq hMe ?_))
 refine G.loop (X:=RwX) (fun s=>s.u≤v∧s.dn.Perm ((BE s.u).flatMap (aAw.wayF tl))) (fun s=>[(11,.int .i64 (s.u:Int)),(5,.slice (some ⟨bo,0,none⟩) v v)])
  (fun s=>[[(bo,row ((aAw.outC v l s.dn).flatMap aAl) 49)],ca,cb]) (fun s=>v-s.u) ⟨0,[]⟩ ⟨AS _,.refl _⟩ (body:= ?_)
 rintro⟨u,dn⟩ ⟨hu,hdn⟩
 dsimp only at hu hdn⊢
 by_cases hul:u<v
 rotate_left
 ·obtain rfl:u=v:=by omega
  rw[h.outC_end hdn]
  repeat(first|(refine st ?_;intros)|refine G.draw [] (h:= ?_)|(refine cq hMe ?_))
  (refine Dn.post (Hr:=[ca,cb,[(bo,row (l.flatMap aAl) 49)]]) Tryz.results72 (hR:= ?_);exact⟨bo,rfl,rfl⟩)
 obtain⟨hw,hwl,hwlt,_⟩:=h.way_is hul
 have hfl:=aAw.flat_le (aAw.wayF tl) v (u+1) fun w hw=>(h.way_is (show w<v by omega)).2.1
 have hfl2:(u+1)*v≤1000*1000:=Nat.mul_le_mul (by omega) (by omega)
 repeat(first|(refine st ?_;intros)|refine G.draw [] (h:= ?_)|(refine cq hMe ?_))
 refine G.loop (X:=RfX) (fun q=>Way (fun x=>(at5 l x.toNat).c1) q.k q.rest∧(∀w∈q.rest,w<(v:Int))∧(q.rest++q.dn).Perm ((BE (u+1)).flatMap (aAw.wayF tl)))
  (fun q=>[(12,.int .i64 q.k),(11,.int .i64 (u:Int)),(5,.slice (some ⟨bo,0,none⟩) v v)]) (fun q=>[[(bo,row ((aAw.outC v l q.dn).flatMap aAl) 49)],ca,cb]) (fun q=>q.rest.length) ⟨u,aAw.wayF tl u,dn⟩
  ⟨hw,hwlt,by
   rw[DZ,B9]
   simp only[A6,List.flatMap_nil,AQ]
   exact(List.perm_append_comm).trans (hdn.append_right _)⟩ (body:= ?_)
 clear hw hwlt hwl hdn
 rintro⟨k,rest,dn⟩ ⟨hw,hwlt,hp⟩
 dsimp only at hw hwlt hp⊢
 cases hw with
 |top hneg=>
  have hn0:¬0≤k:=by omega
  repeat(first|(refine st ?_;intros)|refine G.draw [] (h:= ?_)|(refine cq hMe ?_))
  refine Dn.round ⟨u+1,dn⟩ ⟨hul,by simpa using hp⟩ (by dsimp only;omega)
 | @up _ ch hpos hw=>
  have hkv:=hwlt k AI
  obtain⟨q,rfl⟩:∃q:Nat,k=(q:Int):=⟨k.toNat,by omega⟩
  have hq:q<v:=by omega
  have hlen:=hp.length_eq
  have hcle:=List.count_le_length (a:=(q:Int)) (l:=dn)
  rw[AF,AL] at hlen
  have g0:=aAw.outC_get (l:=l) (dn:=dn) hq
  have r3:=bOs (j:=3) g0 rfl
  have hset:=(tset3 g0 (((dn.count (q:Int):Nat):Int)+1)).trans (congrArg (List.flatMap aAl) (aAw.outC_set (l:=l) (dn:=dn) hq rfl))
  have g1:=aAw.outC_get (l:=l) (dn:=(q:Int)::dn) hq
  have r1:=bOs (j:=1) g1 rfl
  have hcl:=aGz aAr (aAw.outC v l dn)
  have hol:(aAw.outC v l dn).length=v:=by unfold aAw.outC;simp
  have hcl2:(q+1)*5≤v*5:=A5 _ (by omega)
  have hpn:(ch++(q:Int)::dn).Perm ((BE (u+1)).flatMap (aAw.wayF tl)):=List.perm_middle.trans hp
  rw[AP] at hw
  rw[hol] at hcl
  generalize hcs:(aAw.outC v l dn).flatMap aAl=cs at*
  generalize hcs2:(aAw.outC v l ((q:Int)::dn)).flatMap aAl=cs2 at*
  generalize dn.count (q:Int)=cn at*
  have e1:AH .i64 ((cn:Int)+1)=(cn:Int)+1:=aAd (by omega)
  generalize hz:(at5 l q).c1=z1 at*
  repeat(first|(refine st ?_;intros)|refine G.draw [] (h:= ?_)|(refine cq hMe ?_))
  rw[←hcs2]
  refine Dn.round ⟨z1,ch,(q:Int)::dn⟩ ⟨hw,fun w hw=>hwlt w (AJ _ hw),hpn⟩ (by dsimp only[AL];omega)
theorem aKf.uniq {g:Nat→Ed} {S:Nat→Prop} {N:Nat} {l l':List Int} (h:aKf g S N (-1) l) (h':aKf g S N (-1) l'):l=l':=by
 apply CD
 intro v
 by_cases hv:v<N
 ·obtain⟨x,h1,h2,_,h3⟩:=h.at_ v hv (by omega)
  obtain⟨y,g1,g2,_,g3⟩:=h'.at_ v hv (by omega)
  have e1:=h3 y g2
  have e2:=g3 x h2
  rw[h1,g1,show x=y by omega]
 ·rw[BC (by rw[h.len];omega),BC (by rw[h'.len];omega)]
theorem aAm.uniq {N:Nat} {es:List IE} {lab lab':List Int} {fl fl':List Bool} {r r' b b':List T5} (h:aAm N es lab fl r b) (h':aAm N es lab' fl' r' b'):lab'=lab∧b'=b:=by
 obtain rfl:=h.labs.uniq h'.labs
 have hfl:fl=fl':=by
  apply CD
  intro i
  by_cases hi:i<es.length
  ·have i1:i<fl.length:=by rw[h.fors.1];exact hi
   have i2:i<fl'.length:=by rw[h'.fors.1];exact hi
   have h1:fl[i]? =some fl[i]:=AE i1
   have h2:fl'[i]? =some fl'[i]:=AE i2
   have k1:=h.fors.2 i _ h1
   have k2:=h'.fors.2 i _ h2
   rw[h1,h2]
   congr 1
   rw[Bool.eq_iff_iff,k1,k2]
  ·rw[BC (by rw[h.fors.1];omega),BC (by rw[h'.fors.1];omega)]
 subst hfl
 have hr:r=r':=by
  refine List.Perm.eq_of_pairwise (le:=fun a b=>aFl b a=false) ?_ h.arcs.sa h'.arcs.sa (h.arcs.perm.trans h'.arcs.perm.symm)
  intro x y hx hy h1 h2
  have hx':=h.arcs.perm.mem_iff.1 hx
  have hy':=h'.arcs.perm.mem_iff.1 hy
  refine aIy (aKx h.arcs.nd (aHg lab)) hx' hy' ?_
  have k1:¬aFl y x=true:=by rw[h1];decide
  have k2:¬aFl x y=true:=by rw[h2];decide
  rw[aIs] at k1 k2
  omega
 subst hr
 exact⟨rfl,by rw[h.tours,h'.tours]⟩
theorem aSz {es:List IE} {fl fl':List Bool} (h:aJh es fl) (h':aJh es fl'):fl=fl':=by
 apply CD
 intro i
 by_cases hi:i<es.length
 ·have i1:i<fl.length:=by rw[h.1];exact hi
  have i2:i<fl'.length:=by rw[h'.1];exact hi
  have h1:fl[i]? =some fl[i]:=AE i1
  have h2:fl'[i]? =some fl'[i]:=AE i2
  have k1:=h.2 i _ h1
  have k2:=h'.2 i _ h2
  rw[h1,h2]
  congr 1
  rw[Bool.eq_iff_iff,k1,k2]
 ·rw[BC (by rw[h.1];omega),BC (by rw[h'.1];omega)]
theorem RV.row {bo N:Nat} {l:List T5} (h:l.length=N):RV (some ⟨bo,0,none⟩) N l [(bo,row (l.flatMap aAl) 49)]:=
 Rw.rv ⟨h,.inr ⟨bo,0,l.flatMap aAl,49,(0,0),rfl,rfl,by rw[List.drop_zero,A4 (by rw[aGz aAr,h];exact AG _)]⟩⟩
structure OfX where
 i:Nat
 p:Option Addr
 cap:Nat
 ch:aAc
structure OfOk (N:Nat) (es:List IE) (pe:Option Addr) (ce:aAc) (pl:Option Addr) (cl:aAc) (pf:Option Addr) (nf:Nat) (cf:aAc) (pt:Option Addr) (nt:Nat) (ct:aAc) (po:Option Addr) (co:aAc) (lab:List Int) (fl:List Bool) (r b:List T5) (tl:List (Nat×Fo)) (l:List T5):Prop where
 e:RV pe es.length (edT es) ce
 la:RV pl N (aHg lab) cl
 f:RV pf nf (aCq (edT es) fl) cf
 t:RV pt nt b ct
 o:RV po N l co
 parts:aAm N es lab fl r b
 tab:aAw N es lab b tl l
 lis:aKy (aHg lab) b=l
theorem aVz (N:Nat) (hN:N≤1000) (p:Option Addr) (m cap:Nat) (es:List IE) (c:aAc) (hv:Rw ecl 2 p m es c) (hm:m≤1000) (hf:∀e∈es,inE N e):
  Ct AC 33 [gv N p m cap] [c] fun v H'=>∃pe ke ce pl kl cl pf nf kf cf pt nt kt ct po ko co lab fl r b tl l,v= .agg #[.slice pe m ke,.slice pl N kl,.slice pf nf kf,.slice pt nt kt,.slice po N ko]∧H'=[c,ce,cl,cf,ct,co]∧OfOk N es pe ce pl cl pf nf cf pt nt ct po co lab fl r b tl l:=by
 have hl:=hv.1
 unfold gv
 refine Ct.intro Tryz.func33 rfl Tryz.ntmps33 (nle rfl) fun w0=> ?_;dsimp only[aAa,AD]
 repeat(first|(refine st ?_;intros)|refine G.draw [] (h:= ?_))
 rename_i b1 b2 b3
 refine G.loop (X:=OfX) (fun x=>x.i≤m∧Vec 49 5 x.p x.i x.cap (flat ((edT es).take x.i)) x.ch)
  (fun x=>[(4,.int .i64 (x.i:Int)),(3,pv b3),(2,pv b2),(1,pv b1)])
  (fun x=>[x.ch,[(b3,row [.slice x.p x.i x.cap,.slice none 0 0,.slice none 0 0,.slice none 0 0,.slice none 0 0] 71)],[(b2,row [.slice none 0 0,.slice none 0 0,.slice none 0 0,.slice none 0 0,.slice none 0 0] 71)],[(b1,row [.int .i64 (N:Int),.slice p m cap] 37)],c]) (fun x=>m-x.i) ⟨0,none,0,[]⟩ ⟨AS _,Vec.nil _ _⟩ (by repeat(first|exact trivial|refine⟨rfl,?_⟩)) (by repeat(first|exact aAo.nil|(apply aAo.cons;·(first|exact aAn.nil|(repeat(first|exact aAn.here|apply aAn.there)))))) ?_
 rintro⟨i,q,qc,ch⟩ ⟨hi,hV⟩
 dsimp only at hi hV⊢
 by_cases hlt:i<m
 ·obtain⟨b,off,cs,T,fz,rfl,rfl,_,hget⟩:=hv.pos aHr (by omega)
  have hie:es[i]? =some es[i]:=AE (by omega)
  have q0:=hget i 0 _ _ hie rfl
  have q1:=hget i 1 _ _ hie rfl
  rw[Nat.add_zero] at q0
  have htk:=bJr hie
  generalize es[i]=e at*
  have hmx:i+1≤maxLen:=by simp only[maxLen];omega
  have hsn:flat ((edT es).take (i+1))=flat ((edT es).take i)++[.int .i64 (i:Int),.int .i64 e.1,.int .i64 e.2,.int .i64 0,.int .i64 0]:=by
   rw[htk,flat_append];rfl
  repeat(first|(refine st ?_;intros)|refine G.draw [] (h:= ?_))
  rename_i p' cap' c' hV'
  have hV3:Vec 49 5 p' (i+1) cap' (flat ((edT es).take (i+1))) c':=by rw[hsn];exact hV'
  refine Dn.round ⟨i+1,p',cap',c'⟩ ⟨hlt,hV3⟩ (by dsimp only;omega)
 obtain rfl:i=m:=by omega
 rw[A4 (by rw[aIw];omega)] at hV
 have hC:=bJo N (by omega) q i qc (edT es) ch (RV.vec hV) (by omega) (edT_ok hf)
 repeat(first|(refine st ?_;intros)|refine G.draw [] (h:= ?_))
 refine R.call (hct:=hC) (h:= ?_)
 rintro _ _ ⟨pa,na,ka,ca,pf,nf,kf,cf,a,f,rfl,rfl,hva,hvf,hnf,hspec⟩
 try dsimp only[AA,AB]
 obtain⟨lab,fl,rfl,rfl,hlab,hfl⟩:=hspec.parts
 have hna:na=N:=by
  have h1:=hva.1
  have h2:=hlab.len
  unfold aHg at h1
  rw[AX,List.length_range] at h1
  omega
 subst hna
 have hT:=bGm pa na ka (aHg lab) ca hva pf nf kf (aCq (edT es) fl) cf hvf (by omega) (by omega) (by
  intro t ht
  obtain⟨t',ht',rfl⟩:=bJs ht
  obtain⟨j,e,he,rfl⟩:=aMd ht'
  have h1:=hf e (AZ he)
  have h2:=(AK.1 he).1
  unfold inE at h1
  dsimp only
  omega) (((aMn es).map _ (fun a b h=>by omega:∀a b:T5,a.c0<b.c0→a.c0≠b.c0)).sublist (aHt _ _))
 repeat(first|(refine st ?_;intros)|refine G.draw [] (h:= ?_))
 refine R.call (hct:=hT) (h:= ?_)
 rintro _ _ ⟨pt,nt,kt,ct,r,rfl,rfl,hnt,hVt,hA,hrl⟩
 try dsimp only[AA,AB]
 have hpa:aAm na es lab fl r (aGf r):=⟨hlab,hfl,hA,by rw[hrl,hvf.1],rfl⟩
 obtain⟨tl,_,hTab⟩:=hpa.tab hf (by omega)
 have h17:=bHd na es lab fl r _ tl _ hpa hf hTab (by omega) pa ka ca hva pt nt kt ct (RV.vec hVt) (by have:=hpa.b_len hf (by omega);omega)
 generalize hlis:aKy (aHg lab) (aGf r)=l at*
 repeat(first|(refine st ?_;intros)|refine G.draw [] (h:= ?_))
 refine R.call (hct:=h17) (h:= ?_)
 rintro _ _ ⟨bo,rfl,rfl⟩
 try dsimp only[AA,AB]
 repeat(first|(refine st ?_;intros)|refine G.draw [] (h:= ?_))
 (refine Dn.post (Hr:=[c,ch,ca,cf,ct,[(bo,row (l.flatMap aAl) 49)]]) Tryz.results33 (hR:= ?_);exact⟨q,qc,ch,pa,ka,ca,pf,nf,kf,cf,pt,nt,kt,ct,_,_,_,lab,fl,r,_,tl,l,rfl,rfl,⟨by rw[hl];exact RV.vec hV,hva,hvf,RV.vec hVt,RV.row hTab.len,hpa,hTab,hlis⟩⟩)
end Go.Proofs.YtammjnjpheobaaaGreat
