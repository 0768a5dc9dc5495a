/-
  Parts of the proof, put together (15). No condition.
-/
import Derived.Test.YtaofijjjheiknaaGreatM14
set_option linter.unusedVariables false
set_option linter.unusedSimpArgs false
set_option linter.unnecessarySimpa false
set_option maxHeartbeats 4000000
open Bool renaming and_eq_true→DT
open Classical renaming byContradiction→DI
open Go.IntKind renaming wrap→AJ
open Go.Proofs.Tryz renaming prog→AC
open Int renaming toNat_natCast→AR
open List renaming cons_append→AA,getElem?_eq_getElem→AE,length_append→AF,mem_cons_self→AH,mem_cons_of_mem→AI,getElem?_eq_some_iff→AK,length_cons→AL,mem_cons→AM,getD_eq_getElem?_getD→AN,mem_append→AO,append_assoc→AP,append_nil→AQ,mem_singleton→AT,mem_map→AU,length_nil→AV,map_append→AX,map_cons→AZ,mem_of_getElem?→A3,mem_range→A6,flatMap_cons→A8,getElem?_append_right→A9,pairwise_map→BC,pairwise_cons→BF,range→BH,getElem?_append_left→BI,pairwise_iff_getElem→BJ,getElem?_eq_none→BL,mem_append_right→BM,length_take→BN,mem_append_left→BO,take_add_one→BP,drop_eq_getElem_cons→BQ,pairwise_append→BS,getElem?_map→BU,take_append_drop→BV,getElem?_take→BW,replicate→BY,mem_filter→B0,nodup_append→B8,mem_flatMap→B9,nodup_cons→CB,filter_append→CC,flatMap_append→CF,mem_iff_getElem→CG,ext_getElem?→CH,singleton_append→CM,map_congr_left→CZ,getElem?_set_ne→DC,map_map→DE,length_set→DS,getElem?_set_self→DV,getElem?_range→DY,take→D2,mem_iff_getElem?→D5,perm_ext_iff_of_nodup→EN
open List.Pairwise renaming nil→CI,imp_of_mem→D6
open Nat renaming le_refl→AG,zero_le→AS,zero_add→BT,lt_trichotomy→CJ,lt_or_ge→DO
open Option renaming map_some→DL
open Option.some renaming injEq→BA,inj→BD
namespace Go.Proofs.YtaofijjjheiknaaGreat
open Go.SL Go.Tup Go.Gr Go.Srt
theorem aJo {α β:Type} {f g:α→List β}:∀{l:List α},(∀x∈l,f x=g x)→l.flatMap f=l.flatMap g
 |[],_=>rfl
 |x::l,h=>by rw[A8,A8,h x AH,aJo fun y hy=>h y (AI _ hy)]
def Je (es:List IE) (u:Int) (v:Nat):Prop:=0≤u∧Jn (gE es) (fun i=>i<es.length) u.toNat v
def aIe (b:List T5) (x:Int):List T5:=b.filter fun t=>decide (t.c3=x)
structure LabT (es:List IE) (lab:List Int) (b:List T5) (x:Nat) (T:Fo):Prop where
 vis:(aIe b x).map (aJn b)=trv x 0 x T
 nd:T.vs.Nodup
 vs:∀v,v∈T.vs↔lab[v]? =some (x:Int)∧v≠x
 jo:T.Jo (Je es) x
 root:lab[x]? =some (x:Int)
namespace aAh
variable {N:Nat} {es:List IE} {lab:List Int} {fl:List Bool} {r b:List T5}
theorem lab_cn (h:aAh N es lab fl r b) {v x:Nat} (hv:lab[v]? =some (x:Int)):v<N∧Cn (gE es) (Fs fl) v x:=by
 have hN:v<N:=by rw[←h.labs.len];exact(AK.1 hv).1
 obtain⟨y,h1,_,h3,_⟩:=h.labs.root hN
 have:=BD (hv.symm.trans h1)
 obtain rfl:x=y:=by omega
 exact⟨hN,h.cn_f.1 h3⟩
theorem lab_arc (h:aAh N es lab fl r b) (hf:∀e∈es,inE N e) {v x:Nat} (hv:lab[v]? =some (x:Int)) (aa:v≠x):∃k,k<r.length∧(at5 r k).c1=v∧(at5 r k).c3=x:=by
 obtain⟨hN,hc⟩:=h.lab_cn hv
 have hs:=hc.symm
 cases hs with
 |refl=>exact(aa rfl).elim
 |step _ hj=>
  obtain⟨k,hk,k1,_⟩:=h.arc_at hf hj.symm
  obtain⟨y,y1,_,y2,_⟩:=h.lab_at hf hk
  refine⟨k,hk,k1,?_⟩
  rw[k1,AR,hv] at y2
  rw[y1]
  exact(BD y2).symm
theorem ofLab_eq (h:aAh N es lab fl r b) (hf:∀e∈es,inE N e) (x:Int):aIe b x=(BH r.length).flatMap fun j=>if aEs r j then(if(at5 r j).c3=x then aKm r j else[]) else[]:=by
 unfold aIe
 conv=>lhs;rw[h.tours]
 unfold aFk aCn
 rw[List.filter_flatMap]
 refine aJo fun j hj=> ?_
 have hj:=A6.1 hj
 split
 next hr=>
  have hc:∀t∈aKm r j,t.c3=(at5 r j).c3:=fun t ht=>by
   obtain⟨n,_,rfl⟩:=AU.1 ht
   exact h.arcs.it_lab (h.hl hf) hj n
  split
  next hx=>exact List.filter_eq_self.2 fun t ht=>decide_eq_true (by rw[hc t ht,hx])
  next hx=>
   exact List.filter_eq_nil_iff.2 fun t ht=>by
    have:=hc t ht
    simp only[decide_eq_true_eq]
    rw[this];exact hx
 next=>rfl
theorem label_tree (h:aAh N es lab fl r b) (hf:∀e∈es,inE N e) {x:Nat} (hx:lab[x]? =some (x:Int)):∃T,LabT es lab b x T:=by
 by_cases ah:∃i,i<r.length∧aEs r i=true∧(at5 r i).c3=(x:Int)
 ·obtain⟨i,hi,hr,ac⟩:=ah
  have ab:∀j,j<r.length→aEs r j=true→(at5 r j).c3=(x:Int)→j=i:=by
   intro j hj al am
   rcases CJ i j with h1|h1|h1
   ·exact(h.arcs.root_uniq h1 hj hr al (by rw[ac,am])).elim
   ·exact h1.symm
   ·exact(h.arcs.root_uniq h1 hi al hr (by rw[ac,am])).elim
  have hb:aIe b x=aKm r i:=by
   rw[h.ofLab_eq hf]
   have:=bCr (aKm r i) i (p:=fun j=>aEs r j&&decide ((at5 r j).c3=(x:Int))) (n:=r.length) (fun j hj hp=>by
    rw[DT,decide_eq_true_eq] at hp
    exact ab j hj hp.1 hp.2)
   rw[if_pos ⟨hi,by rw[DT,decide_eq_true_eq];exact⟨hr,ac⟩⟩] at this
   rw[←this]
   refine aJo fun j hj=> ?_
   have hj:=A6.1 hj
   by_cases h1:aEs r j=true
   ·by_cases h2:(at5 r j).c3=(x:Int)
    ·have:=ab j hj h1 h2
     subst this
     simp[h1,h2]
    ·simp[h1,h2]
   ·simp[h1]
  have ad:=h.tw hf hi
  obtain⟨T,hT⟩:=ad.trees
  have ao:=hT.len
  have aa:=hr
  unfold aEs at aa
  obtain⟨aa,_⟩:=of_decide_eq_true aa
  have ae:vtA r i 0=x:=by show(at5 r i).c1.toNat=x;rw[aa,ac,AR]
  refine⟨T,?_,ad.vs_nodup (AG _) hT,?_,?_,hx⟩
  ·rw[hb]
   have hv:=hT.vis (x:=(x:Int)) (f:=fun n=>aJn b (aDi r i n)) (fun n hn=>by
    rw[h.vis_at hf hi hr,ac])
   rw[ae] at hv
   rw[←hv,show 2*T.sz=aGo r i by omega]
   unfold aKm
   rw[DE,List.range_eq_range'];rfl
  ·intro v
   rw[hT.vs_mem v]
   constructor
   ·rintro⟨k,_,k2,k3,rfl⟩
    refine⟨?_,fun hq=>ad.first k2 k3 (AS k) (by rw[ae];exact hq.symm)⟩
    obtain⟨y,y1,_,y2,_⟩:=h.lab_at hf (aBx (f:=aDh r) aBi hi (k+1))
    rw[h.arcs.it_lab (h.hl hf) hi,ac] at y1
    unfold vtA
    rw[y2,←y1]
   ·rintro⟨hv,ag⟩
    obtain⟨k,hk,k1,k2⟩:=h.lab_arc hf hv ag
    obtain⟨i',ai,aj,ak,hR⟩:=h.root_of hf hk
    have:=ab i' ai aj (by rw[ak,k2])
    subst this
    obtain⟨n,hn,he⟩:=h.arcs.pos_of hi hR
    have an:vtA r i' n=v:=by unfold vtA;rw[he,k1,AR]
    obtain⟨p,p1,p2,p3⟩:=ad.down_of (j:=n) oM (by rw[an,ae];exact ag)
    exact⟨p,oM,oM,p2,by rw[p3,an]⟩
  ·have:=hT.jo (J:=Je es) (fun k hk=>by
    refine⟨oM,edA r i k,?_,?_⟩
    ·have:=ad.mem k hk
     unfold Fs at this
     have:=(AK.1 this).1
     rw[←h.fors.1];exact this
    ·have:=ad.ends k hk
     rw[AR];exact this)
   rwa[ae] at this
 ·have hb:aIe b x=[]:=by
   rw[h.ofLab_eq hf]
   refine List.flatMap_eq_nil_iff.2 fun j hj=> ?_
   have hj:=A6.1 hj
   split
   next h1=>
    split
    next h2=>exact(ah ⟨j,hj,h1,h2⟩).elim
    next=>rfl
   next=>rfl
  refine⟨.nil,by rw[hb];rfl,by simp[Fo.vs],?_,trivial,hx⟩
  intro v
  simp only[Fo.vs,List.not_mem_nil,false_iff]
  rintro⟨hv,ag⟩
  obtain⟨k,hk,k1,k2⟩:=h.lab_arc hf hv ag
  obtain⟨i',ai,aj,ak,_⟩:=h.root_of hf hk
  exact ah ⟨i',ai,aj,by rw[ak,k2]⟩
end aAh
def vsT (tl:List (Nat×Fo)):List T5:=tl.flatMap fun y=>⟨(y.1:Int),-1,(y.1:Int),-1,((y.2.sz+1:Nat):Int)⟩::trv y.1 0 y.1 y.2
def aCs:List (Nat×Fo)→Fo
 |[]=> .nil
 |y::tl=> .node y.1 y.2 (aCs tl)
theorem aJp (y:Nat×Fo) (tl:List (Nat×Fo)):vsT (y::tl)=⟨(y.1:Int),-1,(y.1:Int),-1,((y.2.sz+1:Nat):Int)⟩::(trv y.1 0 y.1 y.2++vsT tl):=by unfold vsT;rw[A8];rfl
theorem aQy {x:Int}:∀{T:Fo} {p:Nat} {u:Int} {e:T5},e∈trv x p u T→e.c0=x∧(p:Int)≤e.c1∧e.c1<((p+2*T.sz:Nat):Int)
 | .nil,_,_,_,h=>by simp[trv] at h
 | .node v s r,p,u,e,h=>by
  simp only[trv,AM,AO] at h
  simp only[Fo.sz]
  rcases h with rfl|h|rfl|h
  ·refine⟨rfl,oD,oD⟩
  ·have:=aQy h;exact⟨this.1,oM,oM⟩
  ·refine⟨rfl,oD,oD⟩
  ·have:=aQy h;exact⟨this.1,oM,oM⟩
theorem aMt {x:Int}:∀{T:Fo} {p:Nat} {u:Int},(trv x p u T).Pairwise fun a b=>ltO o12 a b=true
 | .nil,_,_=> .nil
 | .node v s r,p,u=>by
  simp only[trv,BF,BS,AO,AM]
  refine⟨?_,aMt,⟨?_,aMt⟩,?_⟩
  ·rintro e (h|rfl|h)<;>rw[aKi]
   ·have:=aQy h;dsimp only;omega
   ·dsimp only;omega
   ·have:=aQy h;dsimp only;omega
  ·intro e h
   have:=aQy h;rw[aKi];dsimp only;omega
  ·rintro a ha e (rfl|h)<;>rw[aKi]<;>have h1:=aQy ha
   ·dsimp only;omega
   ·have:=aQy h;omega
theorem bKb:∀{tl:List (Nat×Fo)} {e:T5},e∈vsT tl→∃y∈tl,e.c0=(y.1:Int)
 |[],_,h=>by simp[vsT] at h
 |y::tl,e,h=>by
  rw[aJp] at h
  simp only[AM,AO] at h
  rcases h with rfl|h|h
  ·exact⟨y,AH,rfl⟩
  ·exact⟨y,AH,(aQy h).1⟩
  ·obtain⟨z,hz,he⟩:=bKb h
   exact⟨z,AI _ hz,he⟩
theorem aSg:∀{tl:List (Nat×Fo)},tl.Pairwise (fun a b=>a.1<b.1)→(vsT tl).Pairwise fun a b=>ltO o12 a b=true
 |[],_=> .nil
 |y::tl,h=>by
  rw[BF] at h
  rw[aJp]
  simp only[BF,BS,AO]
  refine⟨?_,aMt,aSg h.2,?_⟩
  ·rintro e (he|he)<;>rw[aKi]
   ·have:=aQy he;dsimp only;omega
   ·obtain⟨z,hz,hq⟩:=bKb he
    have:=h.1 z hz;dsimp only;omega
  ·intro a ha e he
   rw[aKi]
   obtain⟨z,hz,hq⟩:=bKb he
   have:=h.1 z hz
   have:=aQy ha;omega
theorem aXo {α:Type} (a:α→T5) (g:α→List T5):∀l:List α,(l.flatMap fun y=>a y::g y).Perm (l.map a++l.flatMap g)
 |[]=> .refl _
 |y::l=>by
  rw[A8,A8,AZ,AA,AA]
  exact(((aXo a g l).append_left (g y)).trans (List.perm_append_comm_assoc ..)).cons _
theorem aQh (b:List T5):∀{l:List Int},l.Pairwise (·<·)→(l.flatMap (aIe b)).Perm (b.filter fun t=>decide (t.c3∈l))
 |[],_=>by simp
 |y::l,h=>by
  rw[BF] at h
  rw[A8]
  have h1:=List.filter_append_perm (fun t:T5=>decide (t.c3=y)) (b.filter fun t=>decide (t.c3∈y::l))
  rw[List.filter_filter,List.filter_filter] at h1
  refine List.Perm.trans ?_ h1
  refine List.Perm.trans ((aQh b h.2).append_left _) (List.Perm.of_eq ?_)
  unfold aIe
  congr 1
  ·refine List.filter_congr fun t _=> ?_
   by_cases hq:t.c3=y<;>simp[hq]
  ·refine List.filter_congr fun t _=> ?_
   by_cases hq:t.c3=y
   ·have:¬t.c3∈l:=fun hm=>by have:=h.1 _ hm;omega
    simp[hq] at this⊢
    exact this
   ·simp[hq]
theorem aUb {x:Int}:∀{T:Fo} {p u:Nat} {d:Int} {n:Nat},-1≤d→d+T.sz≤1000000000→n+T.sz≤1000000000→(aMs 0 0).all (d,(n:Int)) (trv x p u T)=aHj u d n T∧(aMs 0 0).st (d,(n:Int)) (trv x p u T)=(d,((n+T.sz:Nat):Int))
 | .nil,_,_,_,_,_,_,_=>⟨rfl,rfl⟩
 | .node v s r,p,u,d,n,h1,h2,h3=>by
  simp only[Fo.sz] at h2 h3⊢
  obtain⟨a1,a2⟩:=aUb (x:=x) (T:=s) (p:=p+1) (u:=v) (d:=d+1) (n:=n+1) oM oM oM
  obtain⟨b1,b2⟩:=aUb (x:=x) (T:=r) (p:=p+2+2*s.sz) (u:=u) (d:=d) (n:=n+1+s.sz) oM oM oM
  have e1:AJ .i64 (d+1)=d+1:=aAd oM
  have e2:AJ .i64 ((n:Int)+1)=((n+1:Nat):Int):=aAd oM
  have e3:AJ .i64 (((n+1:Nat):Int)-1)=(n:Int):=by rw[aAd oM];omega
  have e4:AJ .i64 (d+1-1)=d:=by rw[aAd oM];omega
  have v1:¬(v:Int)= -1:=oM
  have u1:¬(u:Int)= -1:=oM
  have f1:(aMs 0 0).outs (d,(n:Int)) ⟨x,(p:Int),(v:Int),(u:Int),((s.sz+1:Nat):Int)⟩=[⟨(v:Int),(u:Int),(n:Int),((s.sz+1:Nat):Int),d+1⟩]:=by
   unfold aMs;dsimp only;rw[if_neg v1,if_neg u1,e1,e2,e3]
  have f2:(aMs 0 0).next (d,(n:Int)) ⟨x,(p:Int),(v:Int),(u:Int),((s.sz+1:Nat):Int)⟩=(d+1,((n+1:Nat):Int)):=by
   unfold aMs;dsimp only;rw[if_neg v1,if_neg u1,e1,e2]
  have g1:∀m q:Int,(aMs 0 0).outs (d+1,m) ⟨x,q,-1,-1,0⟩=[]:=fun m q=>rfl
  have g2:∀m q:Int,(aMs 0 0).next (d+1,m) ⟨x,q,-1,-1,0⟩=(d,m):=fun m q=>by
   unfold aMs;dsimp only;rw[if_pos rfl,e4]
  simp only[trv,aHj,aAt.all,aAt.st,aAt.all_app,aAt.st_app,f1,f2,a1,a2,g1,g2,b1,b2,CM,List.nil_append]
  refine⟨trivial,?_⟩
  congr 1;omega
theorem aUc:∀{tl:List (Nat×Fo)} {d:Int} {n:Nat},n+(aCs tl).sz≤1000000000→(aMs 0 0).all (d,(n:Int)) (vsT tl)=aHj (-1) (-1) n (aCs tl)
 |[],_,_,_=>rfl
 |y::tl,d,n,h=>by
  simp only[aCs,Fo.sz] at h
  obtain⟨a1,a2⟩:=aUb (x:=(y.1:Int)) (T:=y.2) (p:=0) (u:=y.1) (d:=0) (n:=n+1) oM oM oM
  have b1:=aUc (tl:=tl) (d:=0) (n:=n+1+y.2.sz) oM
  have e2:AJ .i64 ((n:Int)+1)=((n+1:Nat):Int):=aAd oM
  have e3:AJ .i64 (((n+1:Nat):Int)-1)=(n:Int):=by rw[aAd oM];omega
  have v1:¬(y.1:Int)= -1:=oM
  have f1:(aMs 0 0).outs (d,(n:Int)) ⟨(y.1:Int),-1,(y.1:Int),-1,((y.2.sz+1:Nat):Int)⟩=[⟨(y.1:Int),-1,(n:Int),((y.2.sz+1:Nat):Int),0⟩]:=by
   unfold aMs;dsimp only;rw[if_neg v1,if_pos rfl,e2,e3]
  have f2:(aMs 0 0).next (d,(n:Int)) ⟨(y.1:Int),-1,(y.1:Int),-1,((y.2.sz+1:Nat):Int)⟩=(0,((n+1:Nat):Int)):=by
   unfold aMs;dsimp only;rw[if_neg v1,if_pos rfl,e2]
  rw[aJp]
  simp only[aCs,aHj,aAt.all,aAt.all_app,f1,f2,a1,a2,b1,CM]
  rfl
theorem bNr (x:Int):∀(l:List Int) (S:List Nat),S.Nodup→(∀v,v∈S↔l[v]? =some x)→l.count x=S.length:=by
 intro l S hn hS
 have h1:S.Perm ((BH l.length).filter fun v=>l[v]? ==some x):=by
  rw[EN hn (List.nodup_range.sublist List.filter_sublist)]
  intro v
  rw[hS,B0,A6]
  constructor
  ·intro h;exact⟨(AK.1 h).1,by simp[h]⟩
  ·intro h;simpa using h.2
 rw[h1.length_eq,←List.countP_eq_length_filter]
 clear h1 hS hn
 induction l with
 |nil=>rfl
 |cons a l ih=>
  rw[AL,List.range_succ_eq_map,List.countP_cons,List.countP_map,List.count_cons,ih]
  congr 1
theorem bNs {l:List (Int×Nat)} {Q:Nat→Fo→Prop} (h:∀y∈l,∃(x:Nat) (T:Fo),y=((x:Int),T.sz+1)∧Q x T):∃tl:List (Nat×Fo),l=tl.map (fun z=>((z.1:Int),z.2.sz+1))∧∀z∈tl,Q z.1 z.2:=by
 induction l with
 |nil=>exact⟨[],rfl,by simp⟩
 |cons y l ih=>
  obtain⟨tl,h1,h2⟩:=ih fun z hz=>h z (AI _ hz)
  obtain⟨x,T,hy,hq⟩:=h y AH
  refine⟨(x,T)::tl,by rw[AZ,←h1,hy],fun z hz=> ?_⟩
  rcases AM.1 hz with rfl|hz
  ·exact hq
  ·exact h2 z hz
structure bNt (N:Nat) (es:List IE) (lab:List Int) (b:List T5) (tl:List (Nat×Fo)):Prop where
 up:tl.Pairwise fun a b=>a.1<b.1
 tree:∀y∈tl,LabT es lab b y.1 y.2
 all:∀v,v<N→∃y∈tl,lab[v]? =some (y.1:Int)
 len:lab.length=N
theorem aAh.tl {N:Nat} {es:List IE} {lab:List Int} {fl:List Bool} {r b:List T5} (h:aAh N es lab fl r b) (hf:∀e∈es,inE N e) (hN:N≤1000000):∃tl,bNt N es lab b tl∧aUa (aAy lab) b=vsT tl:=by
 obtain⟨l,hl,ac,ai,aj⟩:=aXn (lab:=lab) (fun x hx=>by obtain⟨v,rfl,_⟩:=h.labs.mem hx;omega) (by rw[h.labs.len];exact hN)
 have aa:∀x:Int,x∈lab→∃v:Nat,x=(v:Int)∧v<N∧lab[v]? =some (v:Int):=fun x hx=>by
  obtain⟨i,hi,rfl⟩:=CG.1 hx
  obtain⟨v,h1,h2,h3,_⟩:=h.labs.root (v:=i) (by rw[←h.labs.len];exact hi)
  have ak:i<N:=by rw[←h.labs.len];exact hi
  have h4:=h.labs.same (u:=v) (v:=i) oM ak h3.symm
  rw[AE hi] at h1
  exact⟨v,BD h1,oM,by rw[h4,AE hi,h1]⟩
 obtain⟨tl,ht,hQ⟩:=bNs (l:=l) (Q:=fun x T=>LabT es lab b x T) (fun y hy=>by
  obtain⟨h1,h2⟩:=ai y hy
  obtain⟨v,hv,an,ad⟩:=aa _ h1
  obtain⟨T,hT⟩:=h.label_tree hf ad
  refine⟨v,T,?_,hT⟩
  have hc:=bNr (v:Int) lab (v::T.vs) (CB.2 ⟨fun hm=>((hT.vs v).1 hm).2 rfl,hT.nd⟩) (fun w=>by
   rw[AM,hT.vs w]
   constructor
   ·rintro(rfl|hw)
    ·exact ad
    ·exact hw.1
   ·intro hw
    by_cases hq:w=v
    ·exact .inl hq
    ·exact .inr ⟨hw,hq⟩)
  rw[AL,T.vs_len] at hc
  refine Prod.ext hv ?_
  rw[h2,hv,hc])
 have ab:tl.Pairwise fun a b=>a.1<b.1:=by
  rw[ht,BC] at ac
  exact ac.imp fun {a b} ae=>by simpa using ae
 have hO:bNt N es lab b tl:=by
  refine⟨ab,hQ,fun v hv=> ?_,h.labs.len⟩
  have ag:v<lab.length:=by rw[h.labs.len];exact hv
  obtain⟨x,hx,he⟩:=aj lab[v] (List.getElem_mem ag)
  rw[ht] at hx
  obtain⟨z,hz,rfl⟩:=AU.1 hx
  exact⟨z,hz,by rw[AE ag,←he]⟩
 refine⟨tl,hO,?_⟩
 have al:vsT tl=tl.flatMap fun y=>(⟨(y.1:Int),-1,(y.1:Int),-1,((y.2.sz+1:Nat):Int)⟩:T5)::(aIe b y.1).map (aJn b):=by
  unfold vsT
  refine aJo fun y hy=> ?_
  rw[(hQ y hy).vis]
 refine srtOf ?_ (aSg ab)
 rw[al]
 refine(aXo _ _ tl).trans ?_
 rw[hl,ht,DE]
 refine List.Perm.append (List.Perm.of_eq (CZ fun y _=>rfl)) ?_
 refine List.Perm.trans ?_ (h.turns_perm hf hN).symm
 rw[show(tl.flatMap fun y=>(aIe b y.1).map (aJn b))=((tl.map fun y=>(y.1:Int)).flatMap (aIe b)).map (aJn b) by rw[List.map_flatMap,List.flatMap_map]]
 refine List.Perm.map _ ((aQh b (by rw[BC];exact ab.imp fun {a b} ae=>by omega)).trans (List.Perm.of_eq (List.filter_eq_self.2 fun t am=> ?_)))
 obtain⟨i,n,hi,hr,hn,rfl⟩:=h.b_arc am
 obtain⟨y,y1,y2,y3,_⟩:=h.lab_at hf (aBx (f:=aDh r) aBi hi n)
 obtain⟨_,_,c1,c2,_⟩:=h.arc_g hf (aBx (f:=aDh r) aBi hi n)
 obtain⟨z,hz,ah⟩:=hO.all (at5 r (itF (aDh r) n i)).c1.toNat oM
 refine decide_eq_true (AU.2 ⟨z,hz,?_⟩)
 show(z.1:Int)=(at5 r (itF (aDh r) n i)).c3
 rw[y1]
 rw[y3] at ah
 exact(BD ah).symm
namespace bNt
variable {N:Nat} {es:List IE} {lab:List Int} {b:List T5}
theorem grove_mem:∀{tl:List (Nat×Fo)},(∀y∈tl,LabT es lab b y.1 y.2)→∀v,v∈(aCs tl).vs↔∃y∈tl,lab[v]? =some (y.1:Int)
 |[],_,v=>by simp[aCs,Fo.vs]
 |y::tl,h,v=>by
  have hy:=h y AH
  simp only[aCs,Fo.vs,AM,AO,grove_mem (fun z hz=>h z (AI _ hz)) v,hy.vs v]
  constructor
  ·rintro(rfl|h1|h1)
   ·exact⟨y,.inl rfl,hy.root⟩
   ·exact⟨y,.inl rfl,h1.1⟩
   ·obtain⟨z,hz,h1⟩:=h1
    exact⟨z,.inr hz,h1⟩
  ·rintro⟨z,rfl|hz,h1⟩
   ·by_cases hq:v=z.1
    ·exact .inl hq
    ·exact .inr (.inl ⟨h1,hq⟩)
   ·exact .inr (.inr ⟨z,hz,h1⟩)
theorem grove_nodup:∀{tl:List (Nat×Fo)},(∀y∈tl,LabT es lab b y.1 y.2)→tl.Pairwise (fun a b=>a.1<b.1)→(aCs tl).vs.Nodup
 |[],_,_=>by simp[aCs,Fo.vs]
 |y::tl,h,hp=>by
  have hy:=h y AH
  rw[BF] at hp
  have ht:=fun z hz=>h z (AI y hz)
  have aa:∀v,lab[v]? =some (y.1:Int)→v∉(aCs tl).vs:=fun v hv hm=>by
   obtain⟨z,hz,hq⟩:=(grove_mem ht v).1 hm
   have:=BD (hv.symm.trans hq)
   have:=hp.1 z hz
   omega
  simp only[aCs,Fo.vs,CB,AO,B8,not_or]
  refine⟨⟨fun hm=>((hy.vs _).1 hm).2 rfl,aa _ hy.root⟩,hy.nd,grove_nodup ht hp.2,?_⟩
  intro a ha c hc ab
  subst ab
  exact aa a ((hy.vs a).1 ha).1 hc
def Jr (es:List IE) (lab:List Int) (u:Int) (v:Nat):Prop:=Je es u v∨(u= -1∧lab[v]? =some (v:Int))
theorem jo_mono {J J':Int→Nat→Prop} (hJ:∀u v,J u v→J' u v):∀{T:Fo} {u:Int},T.Jo J u→T.Jo J' u
 | .nil,_,_=>trivial
 | .node v s r,u,h=>⟨hJ _ _ h.1,jo_mono hJ h.2.1,jo_mono hJ h.2.2⟩
theorem grove_jo:∀{tl:List (Nat×Fo)},(∀y∈tl,LabT es lab b y.1 y.2)→(aCs tl).Jo (Jr es lab) (-1)
 |[],_=>trivial
 |y::tl,h=>⟨.inr ⟨rfl,(h y AH).root⟩,jo_mono (fun _ _=> .inl) (h y AH).jo,grove_jo fun z hz=>h z (AI _ hz)⟩
variable {tl:List (Nat×Fo)}
theorem vs_perm (h:bNt N es lab b tl):(aCs tl).vs.Perm (BH N):=by
 rw[EN (grove_nodup h.tree h.up) List.nodup_range]
 intro v
 rw[grove_mem h.tree,A6]
 constructor
 ·rintro⟨y,_,hv⟩
  rw[←h.len];exact(AK.1 hv).1
 ·exact h.all v
theorem sz (h:bNt N es lab b tl):(aCs tl).sz=N:=by
 rw[←(aCs tl).vs_len,h.vs_perm.length_eq,List.length_range]
end bNt
structure aAs (N:Nat) (es:List IE) (lab:List Int) (b:List T5) (tl:List (Nat×Fo)) (l:List T5):Prop where
 tlo:bNt N es lab b tl
 perm:l.Perm (aHj (-1) (-1) 0 (aCs tl))
 len:l.length=N
 at_:∀v,v<N→(at5 l v).c0=(v:Int)
theorem aAh.tab {N:Nat} {es:List IE} {lab:List Int} {fl:List Bool} {r b:List T5} (h:aAh N es lab fl r b) (hf:∀e∈es,inE N e) (hN:N≤1000000):∃tl,aUa (aAy lab) b=vsT tl∧aAs N es lab b tl (aIv (aAy lab) b):=by
 obtain⟨tl,hO,hv⟩:=h.tl hf hN
 have ad:=hO.sz
 have aa:(aMs 0 0).all (0,0) (aUa (aAy lab) b)=aHj (-1) (-1) 0 (aCs tl):=by
  rw[hv]
  exact aUc (d:=0) (n:=0) oM
 have hp:(aIv (aAy lab) b).Perm (aHj (-1) (-1) 0 (aCs tl)):=by
  unfold aIv;rw[aa];exact aBa _
 have ab:(aIv (aAy lab) b).length=N:=by rw[hp.length_eq,aTx,ad]
 refine⟨tl,hv,hO,hp,ab,fun v ae=> ?_⟩
 have h1:(aIv (aAy lab) b).map (·.c0)=(BH N).map fun (v:Nat)=>(v:Int):=by
  refine List.Perm.eq_of_pairwise (le:=fun x y:Int=>x≤y) (fun a b _ _ h1 h2=>by omega) ?_ ?_ ?_
  ·rw[BC]
   unfold aIv
   refine(aJv (aBy o1) false _).imp fun {a b} ac=> ?_
   have h2:ltO o1 b a=false:=by simpa using ac
   have h3:¬(ltO o1 b a=true):=by rw[h2];decide
   rw[aNd] at h3;omega
  ·rw[BC]
   exact List.pairwise_lt_range.imp fun {a b} ac=>by omega
  ·refine(hp.map _).trans ?_
   rw[aKn]
   exact hO.vs_perm.map _
 have h2:=congrArg (·[v]?) h1
 rw[BU,BU,DY ae,aCd oM] at h2
 exact BD h2
namespace aAs
variable {N:Nat} {es:List IE} {lab:List Int} {b:List T5} {tl:List (Nat×Fo)} {l:List T5}
theorem mem (h:aAs N es lab b tl l) {v:Nat} (hv:v<N):at5 l v∈aHj (-1) (-1) 0 (aCs tl):=h.perm.mem_iff.1 (bCn (by rw[h.len];exact hv))
theorem of (h:aAs N es lab b tl l) {e:T5} (he:e∈aHj (-1) (-1) 0 (aCs tl)):∃v,v<N∧e.c0=(v:Int)∧at5 l v=e:=by
 obtain⟨v,hv,hq⟩:=aTs (h.perm.mem_iff.2 he)
 rw[h.len] at hv
 exact⟨v,hv,by rw[←hq,h.at_ v hv],hq⟩
theorem nodup (h:aAs N es lab b tl l):(aCs tl).vs.Nodup:=bNt.grove_nodup h.tlo.tree h.tlo.up
theorem bnd (h:aAs N es lab b tl l) {v:Nat} (hv:v<N):0≤(at5 l v).c2∧(at5 l v).c2<N∧1≤(at5 l v).c3∧(at5 l v).c2+(at5 l v).c3≤N∧0≤(at5 l v).c4∧(at5 l v).c4<N:=by
 have:=aJx (h.mem hv)
 have:=h.tlo.sz
 omega
theorem par (h:aAs N es lab b tl l) {v:Nat} (hv:v<N):((at5 l v).c1= -1∧(at5 l v).c4=0∧lab[v]? =some (v:Int))∨
  ∃p:Nat,p<N∧(at5 l v).c1=(p:Int)∧(at5 l v).c4=(at5 l p).c4+1∧(at5 l p).c2<(at5 l v).c2∧(at5 l v).c2+(at5 l v).c3≤(at5 l p).c2+(at5 l p).c3∧Jn (gE es) (fun i=>i<es.length) p v:=by
 have hm:=h.mem hv
 have hj:=bAd (bNt.grove_jo h.tlo.tree) hm
 rw[h.at_ v hv,AR] at hj
 rcases aOe hm with⟨h1,h2⟩|⟨e',h1,h2,h3,h4,h5⟩
 ·refine .inl ⟨h1,oM,?_⟩
  rcases hj with hj|hj
  ·have:=hj.1;omega
  ·exact hj.2
 ·obtain⟨p,hp,hq,he⟩:=h.of h1
  subst he
  refine .inr ⟨p,hp,oM,h3,h4,h5,?_⟩
  rcases hj with hj|hj
  ·have:=hj.2
   rwa[show(at5 l v).c1.toNat=p by omega] at this
  ·omega
theorem num_inj (h:aAs N es lab b tl l) {u v:Nat} (hu:u<N) (hv:v<N) (he:(at5 l u).c2=(at5 l v).c2):u=v:=by
 have hn:((aHj (-1) (-1) 0 (aCs tl)).map (·.c2)).Nodup:=by
  rw[aTy]
  refine List.Pairwise.map _ (fun a b aa=> ?_) (List.nodup_range' (step:=1))
  exact fun hq=>aa oM
 have:=aIw hn (h.mem hu) (h.mem hv) he
 have:=congrArg T5.c0 this
 rw[h.at_ u hu,h.at_ v hv] at this
 omega
theorem way (h:aAs N es lab b tl l) {v:Nat} (hv:v<N):∃c,(at5 l v,c)∈chF (-1) [] (-1) 0 (aCs tl)∧Way (fun x=>(at5 l x.toNat).c1) v c∧(c.length:Int)=(at5 l v).c4+1∧∀u,u<N→((u:Int)∈c↔(at5 l u).c2≤(at5 l v).c2∧(at5 l v).c2<(at5 l u).c2+(at5 l u).c3):=by
 obtain⟨c,hc⟩:=chF_of [] (h.mem hv)
 refine⟨c,hc,?_,?_,?_⟩
 ·have:=bAf (par:=fun x=>(at5 l x.toNat).c1) (fun e he=>by
   obtain⟨w,hw,hq,he⟩:=h.of he
   rw[hq,AR,he]) (.top oA14) _ hc
  rw[h.at_ v hv] at this
  exact this
 ·have:=(aQf hc).2.2
  simp only[AV] at this
  omega
 ·intro u hu
  have:=bJw h.nodup oA15 _ hc _ (h.mem hu)
  rw[h.at_ u hu] at this
  exact this
end aAs
theorem aAs.below {N:Nat} {es:List IE} {lab:List Int} {b:List T5} {tl:List (Nat×Fo)} {l:List T5} (h:aAs N es lab b tl l) {v:Nat} (hv:v<N):∃c,Way (fun x=>(at5 l x.toNat).c1) v c∧c.length≤N∧(∀w∈c,w<(N:Int))∧
  ∀u,u<N→((u:Int)∈c↔(at5 l u).c2≤(at5 l v).c2∧(at5 l v).c2<(at5 l u).c2+(at5 l u).c3):=by
 obtain⟨c,h1,h2,h3,h4⟩:=h.way hv
 have hb:=h.bnd hv
 refine⟨c,h2,oM,fun w hw=> ?_,h4⟩
 rcases(aQf h1).2.1 w hw with h5|⟨y,hy,rfl⟩
 ·simp at h5
 ·have:=A6.1 (h.tlo.vs_perm.mem_iff.1 hy)
  omega
theorem bSm {N:Nat} {es:List IE} {lab:List Int} {b:List T5} {tl:List (Nat×Fo)} {l:List T5} (hT:aAs N es lab b tl l) {v:Nat} (hv:v<N) (f:T5→Int):bAe (fun e=>decide (e.c0=(v:Int))) f l=f (at5 l v):=by
 have hl:=hT.len
 have e1:l=l.take v++at5 l v::l.drop (v+1):=by
  have:=BQ (l:=l) (i:=v) oM
  have h2:=aCd (r:=l) (k:=v) oM
  rw[AE oM] at h2
  rw[←BD h2,←this,BV]
 have aa:∀i,i<N→i≠v→decide ((at5 l i).c0=(v:Int))=false:=fun i hi ab=>decide_eq_false (by rw[hT.at_ i hi];omega)
 rw[e1,aQd,aFl,aQe (l:=l.take v),aQe (l:=l.drop (v+1)),decide_eq_true (hT.at_ v hv),if_pos rfl]
 ·rw[←e1];omega
 ·intro e he
  obtain⟨i,hi,rfl⟩:=CG.1 he
  rw[List.length_drop] at hi
  have h2:=aCd (r:=l) (k:=v+1+i) oM
  rw[AE oM] at h2
  rw[List.getElem_drop,BD h2]
  exact aa _ oM oM
 ·intro e he
  obtain⟨i,hi,rfl⟩:=CG.1 he
  rw[BN] at hi
  have h2:=aCd (r:=l) (k:=i) oM
  rw[AE oM] at h2
  rw[List.getElem_take,BD h2]
  exact aa _ oM oM
def bFe (b:List T5) (i:Nat):Bool:=(b.take i).any fun t=>decide (t.c2=(at5 b i).c2)
namespace aAh
variable {N:Nat} {es:List IE} {lab:List Int} {fl:List Bool} {r b:List T5}
theorem b_order (h:aAh N es lab fl r b) (hf:∀e∈es,inE N e):b.Pairwise fun a c=>a.c3=c.c3→a.c4<c.c4:=by
 rw[h.tours]
 unfold aFk aCn
 rw[List.pairwise_flatMap]
 refine⟨fun i hi=> ?_,?_⟩
 ·split
  ·unfold aKm
   rw[BC]
   exact List.pairwise_lt_range.imp fun {a c} ab _=>by
    show((a:Nat):Int)<((c:Nat):Int)
    omega
  ·exact .nil
 ·refine D6 (fun {i j} hi hj aa=> ?_) List.pairwise_lt_range
  have hi:=A6.1 hi
  have hj:=A6.1 hj
  intro a ha c hc he
  split at ha
  next hri=>
   split at hc
   next hrj=>
    obtain⟨n,_,rfl⟩:=AU.1 ha
    obtain⟨m,_,rfl⟩:=AU.1 hc
    refine(h.arcs.root_uniq aa hj hri hrj ?_).elim
    rw[←h.arcs.it_lab (h.hl hf) hi n,←h.arcs.it_lab (h.hl hf) hj m]
    exact he
   next=>simp at hc
  next=>simp at ha
theorem vis_seen (h:aAh N es lab fl r b) (hf:∀e∈es,inE N e) {p:Nat} {t:T5} (hp:b[p]? =some t):
  ((aJn b t).c2= -1∧(bFe b p=true∨t.c2=t.c3))∨((aJn b t).c2=t.c2∧(aJn b t).c3=t.c1∧bFe b p=false∧t.c2≠t.c3∧t.c2≠-1):=by
 have ae:=(AK.1 hp).1
 have ak:at5 b p=t:=by
  have:=aCd ae
  rw[hp] at this
  exact(BD this).symm
 obtain⟨i,n,hi,hr,hn,rfl⟩:=h.b_arc (A3 hp)
 have ah:=h.tw hf hi
 have aa:=hr
 unfold aEs at aa
 obtain⟨aa,_⟩:=of_decide_eq_true aa
 have e3:∀{i:Nat},i<r.length→∀m,(aDi r i m).c3=(at5 r i).c3:=fun hi m=>h.arcs.it_lab (h.hl hf) hi m
 have e2:∀{i:Nat},i<r.length→∀m,(aDi r i m).c2=(vtA r i (m+1):Int):=fun {i} hi m=>by
  obtain⟨_,_,_,_,c2,_⟩:=h.arc_g hf (aBx (f:=aDh r) aBi hi m)
  rw[h.vt_succ hi]
  show(at5 r (itF (aDh r) m i)).c2=_
  omega
 have e1:(aDi r i n).c1=(vtA r i n:Int):=by
  obtain⟨_,_,c1,_⟩:=h.arc_g hf (aBx (f:=aDh r) aBi hi n)
  unfold vtA
  show(at5 r (itF (aDh r) n i)).c1=_
  omega
 have al:(vtA r i 0:Int)=(at5 r i).c3:=by
  obtain⟨_,_,c1,_⟩:=h.arc_g hf hi
  show((at5 r i).c1.toNat:Int)=_
  omega
 have hl:∀{i:Nat} (m:Nat),i<r.length→∃x:Nat,(at5 r i).c3=x∧lab[vtA r i m]? =some (x:Int):=fun {i} m hi=>by
  obtain⟨y,y1,_,y2,_⟩:=h.lab_at hf (aBx (f:=aDh r) aBi hi m)
  rw[h.arcs.it_lab (h.hl hf) hi] at y1
  exact⟨y,y1,y2⟩
 have ag:=BJ.1 (h.b_order hf)
 have ai:b[p]=aDi r i n:=by
  have:=AE ae
  rw[hp] at this
  exact(BD this).symm
 rw[h.vis_at hf hi hr]
 by_cases hd:n<aUt r i n
 ·right
  rw[if_pos hd]
  refine⟨(e2 hi n).symm,e1.symm,?_,?_,by rw[e2 hi];omega⟩
  ·unfold bFe
   rw[List.any_eq_false]
   intro u hu
   obtain⟨q,hq,ab⟩:=CG.1 hu
   rw[BN] at hq
   rw[List.getElem_take] at ab
   simp only[decide_eq_true_eq]
   intro hc
   rw[ak] at hc
   obtain⟨i',n',aj,am,au,rfl⟩:=h.b_arc (List.mem_of_mem_take hu)
   rw[e2 hi,e2 aj] at hc
   have an:vtA r i' (n'+1)=vtA r i (n+1):=oM
   obtain⟨x,x1,x2⟩:=hl (n'+1) aj
   obtain⟨y,y1,y2⟩:=hl (n+1) hi
   rw[an,y2] at x2
   have ao:=BD x2
   have ac:(at5 r i').c3=(at5 r i).c3:=by rw[x1,y1,ao]
   have ap:i'=i:=by
    rcases CJ i' i with h1|h1|h1
    ·exact(h.arcs.root_uniq h1 hi am hr ac).elim
    ·exact h1
    ·exact(h.arcs.root_uniq h1 aj hr am ac.symm).elim
   subst ap
   have h1:=ag q p oM ae oM
   rw[ab,ai,e3 hi,e3 hi] at h1
   have h2:((n':Nat):Int)<((n:Nat):Int):=h1 rfl
   exact ah.first hn hd (j:=n'+1) oM an
  ·rw[e2 hi,e3 hi,←al]
   intro hq
   exact ah.first hn hd (AS n) oM
 ·left
  rw[if_neg hd]
  refine⟨rfl,?_⟩
  obtain⟨j,hj,ad⟩:=ah.again hn hd
  match j,hj,ad with
  |0,hj,ad=>
   right
   rw[e2 hi,e3 hi,←al,ad]
  |j+1,hj,ad=>
   left
   unfold bFe
   rw[List.any_eq_true]
   refine⟨aDi r i j,?_,decide_eq_true ?_⟩
   ·obtain⟨q,hq,ab⟩:=CG.1 (h.arc_b hi hr (show j<aGo r i by omega))
    have aq:q<p:=by
     rcases CJ q p with h1|h1|h1
     ·exact h1
     ·exfalso
      subst h1
      rw[ai] at ab
      have h2:((n:Nat):Int)=((j:Nat):Int):=congrArg T5.c4 ab
      omega
     ·exfalso
      have h2:=ag p q ae hq h1
      rw[ab,ai,e3 hi,e3 hi] at h2
      have h3:((n:Nat):Int)<((j:Nat):Int):=h2 rfl
      omega
    refine A3 (i:=q) ?_
    rw[BW,if_pos aq,AE hq,ab]
   ·rw[ak,e2 hi,e2 hi,ad]
end aAh
def aNk (P:List T5):Nat:=((aMs 0 0).all (0,0) P).length
theorem bSn {P:List T5} {v:T5} (h:v.c2= -1):aNk (P++[v])=aNk P:=by
 unfold aNk
 rw[aAt.all_app,AF]
 simp only[aAt.all]
 have:(aMs 0 0).outs ((aMs 0 0).st (0,0) P) v=[]:=by unfold aMs;dsimp only;rw[if_pos h]
 rw[this];rfl
theorem aXp {P Q:List T5} {v:T5} (h:v.c2≠-1):aNk (P++[v])=aNk P+1∧∃e,((aMs 0 0).all (0,0) (P++v::Q))[aNk P]? =some e∧e.c0=v.c2∧e.c1=v.c3:=by
 have ho:∃e,(aMs 0 0).outs ((aMs 0 0).st (0,0) P) v=[e]∧e.c0=v.c2∧e.c1=v.c3:=by
  unfold aMs;dsimp only;rw[if_neg h]
  exact⟨_,rfl,rfl,rfl⟩
 obtain⟨e,he,h1,h2⟩:=ho
 refine⟨?_,e,?_,h1,h2⟩
 ·unfold aNk
  rw[aAt.all_app,AF]
  simp only[aAt.all]
  rw[he];rfl
 ·unfold aNk
  rw[aAt.all_app,A9 (AG _),Nat.sub_self]
  simp only[aAt.all]
  rw[he];rfl
structure Wrt (N:Nat) (L:List T5) (k:Nat) (o:List T5):Prop where
 len:o.length=N
 got:∀j e,j<k→L[j]? =some e→o[e.c0.toNat]? =some {e with c3:=0}
def aQi (tl:List (Nat×Fo)):List T5:=aHj (-1) (-1) 0 (aCs tl)
namespace aAs
variable {N:Nat} {es:List IE} {lab:List Int} {b:List T5} {tl:List (Nat×Fo)} {l:List T5}
theorem tabL_len (h:aAs N es lab b tl l):(aQi tl).length=N:=by unfold aQi;rw[aTx,h.tlo.sz]
theorem tab_c2 {k:Nat} {e:T5} (hk:(aQi tl)[k]? =some e):e.c2=(k:Int):=by
 have h1:=congrArg (·[k]?) (aTy (aCs tl) (-1) (-1) 0)
 unfold aQi at hk
 simp only[BU,hk,DL] at h1
 have aa:k<(aCs tl).sz:=by
  rw[←aTx (aCs tl) (-1) (-1) 0]
  exact(AK.1 hk).1
 rw[List.getElem?_range' oM] at h1
 simp only[DL,BA] at h1
 omega
theorem entry (h:aAs N es lab b tl l) {k:Nat} {e:T5} (hk:(aQi tl)[k]? =some e):k<N∧e.c2=(k:Int)∧∃v,v<N∧e.c0=(v:Int)∧at5 l v=e∧
  ((e.c1= -1∧e.c4=0)∨∃j e',j<k∧(aQi tl)[j]? =some e'∧e'.c0=e.c1∧e.c4=e'.c4+1):=by
 have aa:k<N:=by
  rw[←h.tabL_len]
  exact(AK.1 hk).1
 have hm:=A3 hk
 have hc:=tab_c2 hk
 obtain⟨v,hv,h1,h2⟩:=h.of hm
 refine⟨aa,hc,v,hv,h1,h2,?_⟩
 rcases aOe hm with⟨h3,h4⟩|⟨e',h3,h4,h5,h6,_⟩
 ·exact .inl ⟨h3,oM⟩
 ·obtain⟨j,hj⟩:=D5.1 h3
  have ab:=tab_c2 (tl:=tl) hj
  exact .inr ⟨j,e',oM,hj,h4,h5⟩
theorem c0inj (h:aAs N es lab b tl l) {j k:Nat} {e e':T5} (hj:(aQi tl)[j]? =some e') (hk:(aQi tl)[k]? =some e) (hq:e'.c0=e.c0):j=k:=by
 obtain⟨_,c1,v,_,v1,v2,_⟩:=h.entry hj
 obtain⟨_,d1,w,_,w1,w2,_⟩:=h.entry hk
 obtain rfl:v=w:=by omega
 rw[v2] at w2
 subst w2
 omega
theorem wstart (N:Nat) (tl:List (Nat×Fo)):Wrt N (aQi tl) 0 (BY N T5.zero):=⟨by simp,fun j e hj=>by omega⟩
theorem wstep (h:aAs N es lab b tl l) {k:Nat} {o:List T5} {e:T5} (hw:Wrt N (aQi tl) k o) (hk:(aQi tl)[k]? =some e):Wrt N (aQi tl) (k+1) (o.set e.c0.toNat {e with c3:=0}):=by
 obtain⟨_,_,v,hv,h1,_⟩:=h.entry hk
 refine⟨by rw[DS];exact hw.len,fun j e' hj aa=> ?_⟩
 by_cases ab:j=k
 ·subst ab
  rw[hk] at aa
  obtain rfl:=BD aa
  rw[DV (by rw[hw.len];omega)]
 ·have ac:e.c0.toNat≠e'.c0.toNat:=fun hq=>by
   obtain⟨_,_,w,_,w1,_⟩:=h.entry aa
   rw[h1,w1,AR,AR] at hq
   exact ab (h.c0inj aa hk (by rw[h1,w1,hq]))
  rw[DC ac]
  exact hw.got j e' oM aa
def outC (N:Nat) (l:List T5) (dn:List Int):List T5:=(BH N).map fun w=>{at5 l w with c3:=(dn.count (w:Int):Int)}
theorem outC_get {dn:List Int} {v:Nat} (hv:v<N):(outC N l dn)[v]? =some {at5 l v with c3:=(dn.count (v:Int):Int)}:=by
 unfold outC
 rw[BU,DY hv];rfl
theorem wend (h:aAs N es lab b tl l) {o:List T5} (hw:Wrt N (aQi tl) N o):o=outC N l []:=by
 apply CH
 intro v
 by_cases hv:v<N
 ·rw[outC_get hv]
  obtain⟨j,hj⟩:=D5.1 (h.mem hv)
  obtain⟨aa,_⟩:=h.entry hj
  have:=hw.got j _ aa hj
  have h0:=h.at_ v hv
  rw[show(at5 l v).c0.toNat=v by omega] at this
  exact this
 ·rw[BL (by rw[hw.len];omega),BL (by unfold outC;simp;omega)]
theorem outC_set {dn:List Int} {v:Nat} (hv:v<N) {x:Int} (hx:x=(dn.count (v:Int):Int)+1):(outC N l dn).set v {at5 l v with c3:=x}=outC N l ((v:Int)::dn):=by
 apply CH
 intro w
 by_cases hw:w<N
 ·rw[outC_get hw]
  by_cases hq:v=w
  ·subst hq
   rw[DV (by unfold outC;simpa using hv),List.count_cons_self,hx]
   congr 1
  ·rw[DC hq,outC_get hw,List.count_cons_of_ne oM]
 ·rw[BL (by rw[DS];unfold outC;simp;omega),BL (by unfold outC;simp;omega)]
def wayF (tl:List (Nat×Fo)) (v:Nat):List Int:=(((chF (-1) [] (-1) 0 (aCs tl)).find? fun x=>decide (x.1.c0=(v:Int))).map (·.2)).getD []
theorem chF_nd:∀{T:Fo} {u:Int} {up:List Int} {d:Int} {n:Nat},T.vs.Nodup→(∀v∈T.vs,(v:Int)∉up)→up.Nodup→∀x∈chF u up d n T,x.2.Nodup
 | .nil,_,_,_,_,_,_,_,x,h=>by simp[chF] at h
 | .node v s r,u,up,d,n,hn,hu,hup,x,h=>by
  simp only[Fo.vs,CB,AO,B8,not_or] at hn
  obtain⟨⟨ab,ae⟩,ac,ad,_⟩:=hn
  simp only[Fo.vs,AM,AO] at hu
  simp only[chF,AM,AO] at h
  have aa:((v:Int)::up).Nodup:=CB.2 ⟨hu v (.inl rfl),hup⟩
  rcases h with rfl|h|h
  ·exact aa
  ·refine chF_nd ac (fun y hy hq=> ?_) aa x h
   rcases AM.1 hq with h1|h1
   ·exact ab (by rw[show v=y by omega];exact hy)
   ·exact hu y (.inr (.inl hy)) h1
  ·exact chF_nd ad (fun y hy=>hu y (.inr (.inr hy))) hup x h
theorem way_mem (h:aAs N es lab b tl l) {v:Nat} (hv:v<N):(at5 l v,wayF tl v)∈chF (-1) [] (-1) 0 (aCs tl):=by
 obtain⟨c,hc,_⟩:=h.way hv
 unfold wayF
 cases hf:(chF (-1) [] (-1) 0 (aCs tl)).find? fun x=>decide (x.1.c0=(v:Int)) with
 |none=>
  rw[List.find?_eq_none] at hf
  exact(hf _ hc (by simp[h.at_ v hv])).elim
 |some x=>
  have h1:x.1.c0=(v:Int):=by simpa using List.find?_some hf
  have h2:=List.mem_of_find?_eq_some hf
  obtain⟨w,hw,h3,h4⟩:=h.of (aTz h2)
  obtain rfl:w=v:=by omega
  rw[h4]
  exact h2
theorem ch_inj (h:aAs N es lab b tl l) {x y:T5×List Int} (hx:x∈chF (-1) [] (-1) 0 (aCs tl)) (hy:y∈chF (-1) [] (-1) 0 (aCs tl)) (he:x.1.c0=y.1.c0):x=y:=by
 have hn:((chF (-1) [] (-1) 0 (aCs tl)).map fun x=>x.1.c0).Nodup:=by
  have h1:=congrArg (List.map fun t:T5=>t.c0) (aMr (aCs tl) (-1) [] (-1) 0)
  rw[aKn,DE] at h1
  rw[show(fun x:T5×List Int=>x.1.c0)=(fun t:T5=>t.c0)∘(fun x:T5×List Int=>x.1) from rfl,h1]
  exact List.Pairwise.map _ (fun a c aa=>fun hq=>aa oM) h.nodup
 exact aIw hn hx hy he
theorem way_is (h:aAs N es lab b tl l) {v:Nat} (hv:v<N):Way (fun x=>(at5 l x.toNat).c1) v (wayF tl v)∧(wayF tl v).length≤N∧(∀w∈wayF tl v,w<(N:Int))∧(wayF tl v).Nodup:=by
 obtain⟨c,h1,h2,h3,_⟩:=h.way hv
 have h5:=h.ch_inj h1 (h.way_mem hv) rfl
 have hb:=h.bnd hv
 obtain rfl:c=wayF tl v:=congrArg Prod.snd h5
 refine⟨h2,oM,fun w hw=> ?_,chF_nd h.nodup oA15 .nil _ h1⟩
 rcases(aQf h1).2.1 w hw with h5|⟨y,hy,rfl⟩
 ·simp at h5
 ·have:=A6.1 (h.tlo.vs_perm.mem_iff.1 hy)
  omega
theorem count_flat {α:Type} {f:α→List Int} (w:Int):∀{l:List α},(∀x∈l,(f x).Nodup)→(l.flatMap f).count w=l.countP fun x=>decide (w∈f x)
 |[],_=>rfl
 |x::l,h=>by
  have h1:=h x AH
  rw[A8,List.count_append,List.countP_cons,count_flat w fun y hy=>h y (AI _ hy)]
  by_cases hw:w∈f x
  ·rw[h1.count,if_pos hw];simp[hw];omega
  ·rw[h1.count,if_neg hw];simp[hw]
theorem way_count (h:aAs N es lab b tl l) {v:Nat} (hv:v<N):((((BH N).flatMap (wayF tl)).count (v:Int):Nat):Int)=(at5 l v).c3:=by
 have hp:(chF (-1) [] (-1) 0 (aCs tl)).Perm ((BH N).map fun v=>(at5 l v,wayF tl v)):=by
  have hn:(chF (-1) [] (-1) 0 (aCs tl)).Nodup:=by
   have:((chF (-1) [] (-1) 0 (aCs tl)).map fun x=>x.1.c0).Nodup:=by
    have h1:=congrArg (List.map fun t:T5=>t.c0) (aMr (aCs tl) (-1) [] (-1) 0)
    rw[aKn,DE] at h1
    rw[show(fun x:T5×List Int=>x.1.c0)=(fun t:T5=>t.c0)∘(fun x:T5×List Int=>x.1) from rfl,h1]
    exact List.Pairwise.map _ (fun a c aa=>fun hq=>aa oM) h.nodup
   exact(BC.1 this).imp fun {a c} aa=>fun hq=>aa (by rw[hq])
  have ab:((BH N).map fun v=>(at5 l v,wayF tl v)).Nodup:=by
   refine BC.2 (D6 (fun {a c} ha hc aa=> ?_) List.nodup_range)
   intro hq
   have h1:=congrArg (fun x:T5×List Int=>x.1.c0) hq
   dsimp only at h1
   rw[h.at_ a (A6.1 ha),h.at_ c (A6.1 hc)] at h1
   exact aa oM
  rw[EN hn ab]
  intro x
  rw[AU]
  constructor
  ·intro hx
   obtain⟨w,hw,h3,_⟩:=h.of (aTz hx)
   exact⟨w,A6.2 hw,h.ch_inj (h.way_mem hw) hx (by rw[h.at_ w hw,h3])⟩
  ·rintro⟨w,hw,rfl⟩
   exact h.way_mem (A6.1 hw)
 rw[count_flat _ fun x hx=>(h.way_is (A6.1 hx)).2.2.2]
 have h1:=bAg (v:Int) (T:=aCs tl) (u:= -1) (up:=[]) (d:= -1) (n:=0) h.nodup
 rw[if_neg oA15,←bJv _ _ h.perm,bSm h hv] at h1
 rw[←h1,hp.countP_eq,List.countP_map]
 rfl
theorem outC_end (h:aAs N es lab b tl l) {dn:List Int} (hd:dn.Perm ((BH N).flatMap (wayF tl))):outC N l dn=l:=by
 apply CH
 intro v
 by_cases hv:v<N
 ·rw[outC_get hv,hd.count_eq,h.way_count hv,aCd (by rw[h.len];exact hv)]
 ·rw[BL (by unfold outC;simp;omega),BL (by rw[h.len];omega)]
theorem flat_le (f:Nat→List Int) (m:Nat):∀n,(∀v,v<n→(f v).length≤m)→((BH n).flatMap f).length≤n*m
 |0,_=>by simp
 |n+1,h=>by
  have h1:=h n (Nat.lt_succ_self n)
  have h2:=flat_le f m n fun v hv=>h v oM
  rw[List.range_succ,CF,AF,Nat.succ_mul]
  simp only[A8,List.flatMap_nil,AQ]
  omega
end aAs
def Sub (l:List T5) (v u:Nat):Prop:=(at5 l v).c2≤(at5 l u).c2∧(at5 l u).c2<(at5 l v).c2+(at5 l v).c3
namespace aAs
variable {N:Nat} {es:List IE} {lab:List Int} {fl:List Bool} {r b:List T5} {tl:List (Nat×Fo)} {l:List T5}
theorem mem_l (h:aAs N es lab b tl l) {t:T5}:t∈l↔∃v,v<N∧at5 l v=t:=by
 constructor
 ·intro ht
  obtain⟨k,hk,e⟩:=aTs ht
  exact⟨k,by rw[←h.len];exact hk,e⟩
 ·rintro⟨v,hv,rfl⟩
  exact bCn (by rw[h.len];exact hv)
theorem rise (h:aAs N es lab b tl l):l.Pairwise fun a c=>a.c0<c.c0:=by
 rw[BJ]
 intro i j hi hj aa
 have e1:=aCd (r:=l) hi
 have e2:=aCd (r:=l) hj
 rw[AE hi] at e1
 rw[AE hj] at e2
 rw[BD e1,BD e2,h.at_ i (by rw[←h.len];exact hi),h.at_ j (by rw[←h.len];exact hj)]
 omega
theorem okT (h:aAs N es lab b tl l) (hN:N≤1000000):∀t∈l,okT 5 t:=by
 intro t ht
 obtain⟨v,hv,rfl⟩:=h.mem_l.1 ht
 obtain⟨h1,h2,h3,h4,h5,h6⟩:=h.bnd hv
 have h0:=h.at_ v hv
 have hp: -1≤(at5 l v).c1∧(at5 l v).c1<N:=by
  rcases h.par hv with⟨h7,_⟩|⟨u,h7⟩
  ·omega
  ·omega
 generalize at5 l v=t at h1 h2 h3 h4 h5 h6 h0 hp⊢
 obtain⟨c0,c1,c2,c3,c4⟩:=t
 dsimp only at h1 h2 h3 h4 h5 h6 h0 hp
 exact okT5 ⟨oM,oM⟩ ⟨oM,oM⟩ ⟨oM,oM⟩ ⟨oM,oM⟩ ⟨oM,oM⟩
theorem look (h:aAs N es lab b tl l) {v:Nat} (hv:v<N) (c:Nat):lkV l (v:Int) c=(at5 l v).col c:=aLd h.rise (h.mem_l.2 ⟨v,hv,rfl⟩) (h.at_ v hv)
end aAs
section
variable {N:Nat} {es:List IE} {lab:List Int} {fl:List Bool} {b:List T5} {tl:List (Nat×Fo)} {l:List T5}
end
theorem Sub.refl {l:List T5} {u:Nat} (h:1≤(at5 l u).c3):Sub l u u:=⟨Int.le_refl _,oM⟩
theorem bPe:∀{P:List T5} {k:Int},(∃y∈P,y.c0=k)→∃z∈P,z.c0=k∧∀x∈P,x.c0=k→z.c1≤x.c1
 |[],_,⟨_,h,_⟩=>by cases h
 |a::P,k,⟨y,hy,h0⟩=>by
  by_cases hP:∃y∈P,y.c0=k
  ·obtain⟨z,hz,ac,ab⟩:=bPe hP
   by_cases ha:a.c0=k∧a.c1<z.c1
   ·refine⟨a,AH,ha.1,fun x hx aa=> ?_⟩
    rcases AM.1 hx with rfl|hx
    ·exact Int.le_refl _
    ·have:=ab x hx aa;omega
   ·refine⟨z,AI _ hz,ac,fun x hx aa=> ?_⟩
    rcases AM.1 hx with rfl|hx
    ·omega
    ·exact ab x hx aa
  ·rcases AM.1 hy with rfl|hy
   ·refine⟨y,AH,h0,fun x hx aa=> ?_⟩
    rcases AM.1 hx with rfl|hx
    ·exact Int.le_refl _
    ·exact absurd ⟨x,hx,aa⟩ hP
   ·exact absurd ⟨y,hy,h0⟩ hP
theorem Way.one {par:Int→Int} {v:Int} {c c':List Int} (h:Way par v c) (h':Way par v c'):c=c':=by
 induction h generalizing c' with
 |top hv=>
  cases h' with
  |top _=>rfl
  |up h2 _=>omega
 |up hv _ ih=>
  cases h' with
  |top h2=>omega
  |up _ h2=>rw[ih h2]
section
variable {N:Nat} {es:List IE} {lab:List Int} {b:List T5} {tl:List (Nat×Fo)} {l:List T5}
theorem aLk (hT:aAs N es lab b tl l) {a v p:Nat} (ha:a<N) (hv:v<N) (hp:p<N) (h:(at5 l v).c1=(p:Int)):Sub l a v↔a=v∨Sub l a p:=by
 obtain⟨c,hw,_,_,hc⟩:=hT.below hv
 obtain⟨c',aa,_,_,ab⟩:=hT.below hp
 have e:c=(v:Int)::c':=by
  refine hw.one (.up oM ?_)
  rw[AR,h];exact aa
 have h1:=hc a ha
 have h2:=ab a ha
 unfold Sub
 rw[←h1,←h2,e,AM]
 constructor
 ·rintro(h3|h3)
  ·exact .inl oM
  ·exact .inr h3
 ·rintro(rfl|h3)
  ·exact .inl rfl
  ·exact .inr h3
theorem aOf (hT:aAs N es lab b tl l) {a v:Nat} (ha:a<N) (hv:v<N) (h:(at5 l v).c1= -1):Sub l a v↔a=v:=by
 obtain⟨c,hw,_,_,hc⟩:=hT.below hv
 have e:c=[(v:Int)]:=by
  refine hw.one (.up oM (.top ?_))
  rw[AR,h];decide
 have h1:=hc a ha
 unfold Sub
 rw[←h1,e,AT]
 omega
theorem aIx (hT:aAs N es lab b tl l) {v:Nat} (hv:v<N):Sub l v v:=Sub.refl (hT.bnd hv).2.2.1
theorem bKc (hT:aAs N es lab b tl l) {m:Nat} (hm:m<N):∀(q:Nat) {a:Nat},a<N→(at5 l a).c2≤(q:Int)→Sub l m a→a≠m→∃c,c<N∧(at5 l c).c1=(m:Int)∧Sub l c a:=by
 intro q
 induction q with
 |zero=>
  intro a ha hq hs aa
  have h1:=hT.bnd ha
  have h2:=hT.bnd hm
  exact absurd (hT.num_inj ha hm (by have:=hs.1;omega)) aa
 |succ q ih=>
  intro a ha hq hs aa
  rcases hT.par ha with⟨h1,_⟩|⟨p,hp,h1,_,h2,_⟩
  ·exact absurd ((aOf hT hm ha h1).1 hs).symm aa
  ·have h3:=((aLk hT hm ha hp h1).1 hs).resolve_left fun h=>aa h.symm
   by_cases ab:p=m
   ·subst ab
    exact⟨a,ha,h1,aIx hT ha⟩
   ·obtain⟨c,hc,ac,ad⟩:=ih hp oM h3 ab
    exact⟨c,hc,ac,(aLk hT hc ha hp h1).2 (.inr ad)⟩
end
theorem aUd {Q:Nat→Prop} {i:Nat}:∀{j:Nat},i≤j→Q i→¬Q j→∃e,i≤e∧e<j∧Q e∧¬Q (e+1)
 |0,h,hi,hj=>by
  obtain rfl:i=0:=by omega
  exact absurd hi hj
 |j+1,h,hi,hj=>by
  by_cases aa:i=j+1
  ·subst aa;exact absurd hi hj
  ·by_cases hq:Q j
   ·exact⟨j,oM,oM,hq,hj⟩
   ·obtain⟨e,h1,h2,h3,h4⟩:=aUd (i:=i) (j:=j) oM hi hq
    exact⟨e,h1,oM,h3,h4⟩
structure bPf (N:Nat) (lab:List Int) (l:List T5) (x P:Nat) (W:Nat→Nat):Prop where
 start:W 0=x
 root:(at5 l x).c1= -1
 lt:∀k,k≤P→W k<N
 step:∀k,k<P→(at5 l (W (k+1))).c1=(W k:Int)∨(at5 l (W k)).c1=(W (k+1):Int)
 once:∀j k,j<P→k<P→W j=W k→W (j+1)=W (k+1)→j=k
 all:∀v,v<N→(lab[v]? =some (x:Int)↔∃k,k≤P∧W k=v)
namespace bPf
variable {N:Nat} {es:List IE} {lab:List Int} {b:List T5} {tl:List (Nat×Fo)} {l:List T5} {x P:Nat} {W:Nat→Nat}
theorem enter (h:bPf N lab l x P W) (hT:aAs N es lab b tl l) {m d:Nat} (hm:m<N) (hd:d<P) (h1:¬Sub l m (W d)) (h2:Sub l m (W (d+1))):W (d+1)=m∧(at5 l m).c1=(W d:Int):=by
 have l1:=h.lt d oM
 have l2:=h.lt (d+1) oM
 rcases h.step d hd with h3|h3
 ·rcases(aLk hT hm l2 l1 h3).1 h2 with h4|h4
  ·rw[←h4] at h3;exact⟨h4.symm,h3⟩
  ·exact absurd h4 h1
 ·exact absurd ((aLk hT hm l1 l2 h3).2 (.inr h2)) h1
theorem leave (h:bPf N lab l x P W) (hT:aAs N es lab b tl l) {c d:Nat} (hc:c<N) (hd:d<P) (h1:Sub l c (W d)) (h2:¬Sub l c (W (d+1))):W d=c∧(at5 l c).c1=(W (d+1):Int):=by
 have l1:=h.lt d oM
 have l2:=h.lt (d+1) oM
 rcases h.step d hd with h3|h3
 ·exact absurd ((aLk hT hc l2 l1 h3).2 (.inr h1)) h2
 ·rcases(aLk hT hc l1 l2 h3).1 h1 with h4|h4
  ·rw[←h4] at h3;exact⟨h4.symm,h3⟩
  ·exact absurd h4 h2
theorem below (h:bPf N lab l x P W) (hT:aAs N es lab b tl l):∀k,k≤P→Sub l x (W k):=by
 have hx:x<N:=by rw[←h.start];exact h.lt 0 oM
 intro k
 induction k with
 |zero=>intro _;rw[h.start];exact aIx hT hx
 |succ k ih=>
  intro hk
  have h1:=ih oM
  by_cases h2:Sub l x (W (k+1))
  ·exact h2
  ·obtain⟨_,h3⟩:=h.leave hT hx oM h1 h2
   rw[h.root] at h3;omega
theorem meet (h:bPf N lab l x P W) (hT:aAs N es lab b tl l) {k k' m:Nat} (ab:k≤k') (hk:k'≤P) (hm:m<N) (h1:Sub l m (W k)) (h2:Sub l m (W k')) (aa:∀z,z<N→Sub l z (W k)→Sub l z (W k')→(at5 l z).c2≤(at5 l m).c2):
  (∃d,k≤d∧d≤k'∧W d=m)∧∀d,k≤d→d≤k'→Sub l m (W d):=by
 constructor
 ·by_cases e1:W k=m
  ·exact⟨k,AG _,ab,e1⟩
  ·obtain⟨c,hc,ae,ac⟩:=bKc hT hm _ (h.lt k oM) (Int.self_le_toNat _) h1 e1
   have hn:¬Sub l c (W k'):=fun h3=>by
    have h4:=aa c hc ac h3
    rcases hT.par hc with⟨h5,_⟩|⟨p,hp,h5,_,h6,_⟩
    ·omega
    ·obtain rfl:p=m:=by omega
     omega
   obtain⟨e,g1,g2,g3,g4⟩:=aUd (Q:=fun d=>Sub l c (W d)) ab ac hn
   obtain⟨_,g5⟩:=h.leave hT hc oM g3 g4
   exact⟨e+1,oM,oM,oM⟩
 ·intro d ag ad
  apply DI
  intro hn
  by_cases h0:Sub l m (W 0)
  ·have hx:x<N:=by rw[←h.start];exact h.lt 0 oM
   rw[h.start] at h0
   obtain rfl:=(aOf hT hm hx h.root).1 h0
   exact hn (h.below hT d oM)
  ·obtain⟨e0,a1,a2,a3,a4⟩:=aUd (Q:=fun d=>¬Sub l m (W d)) (AS k) h0 (fun g=>g h1)
   obtain⟨e1,b1,b2,b3,b4⟩:=aUd (Q:=fun d=>¬Sub l m (W d)) ad hn (fun g=>g h2)
   obtain⟨p1,p2⟩:=h.enter hT hm oM a3 (Classical.not_not.1 a4)
   obtain⟨q1,q2⟩:=h.enter hT hm oM b3 (Classical.not_not.1 b4)
   have:=h.once e0 e1 oM oM oM oM
   omega
end bPf
def keyL (x y:T5):Prop:=x.c3<y.c3∨x.c3=y.c3∧x.c4<y.c4
namespace aAh
variable {N:Nat} {es:List IE} {lab:List Int} {fl:List Bool} {r b:List T5}
theorem keys (h:aAh N es lab fl r b) (hf:∀e∈es,inE N e):b.Pairwise keyL:=by
 rw[h.tours]
 unfold aFk aCn
 rw[List.pairwise_flatMap]
 constructor
 ·intro i hi
  have hi:=A6.1 hi
  split
  ·unfold aKm
   rw[BC]
   refine List.pairwise_lt_range.imp fun {n m} ab=> ?_
   have h1:=h.arcs.it_lab (h.hl hf) hi n
   have h2:=h.arcs.it_lab (h.hl hf) hi m
   right
   unfold aDi
   dsimp only
   exact⟨h1.trans h2.symm,oM⟩
  ·exact CI
 ·rw[BJ]
  intro i j hi hj aa x hx y hy
  rw[List.length_range] at hi hj
  simp only[List.getElem_range] at hx hy
  split at hx
  next hri=>
   split at hy
   next hrj=>
    unfold aKm at hx hy
    obtain⟨n,_,rfl⟩:=AU.1 hx
    obtain⟨m,_,rfl⟩:=AU.1 hy
    left
    have h1:=h.arcs.it_lab (h.hl hf) hi n
    have h2:=h.arcs.it_lab (h.hl hf) hj m
    have h3:=h.arcs.root_uniq aa hj hri hrj
    have h4:=aTt h.arcs.sa (show i≤j by omega) hj
    have h5:=hri
    have h6:=hrj
    unfold aEs at h5 h6
    have h5:=(of_decide_eq_true h5).1
    have h6:=(of_decide_eq_true h6).1
    unfold aDi
    dsimp only
    omega
   next=>simp at hy
  next=>simp at hx
end aAh
theorem bNu {b:List T5} {i:Nat} (hi:i<b.length):bFe b i=true↔∃q,q<i∧(at5 b q).c2=(at5 b i).c2:=by
 unfold bFe
 rw[List.any_eq_true]
 constructor
 ·rintro⟨t,ht,he⟩
  obtain⟨q,hq,rfl⟩:=CG.1 ht
  rw[BN] at hq
  have h1:=aCd (r:=b) (k:=q) oM
  rw[AE oM] at h1
  refine⟨q,oM,?_⟩
  rw[←BD h1]
  have:=of_decide_eq_true he
  rwa[List.getElem_take] at this
 ·rintro⟨q,hq,he⟩
  refine⟨at5 b q,?_,decide_eq_true he⟩
  refine A3 (i:=q) ?_
  rw[BW,if_pos hq]
  exact aCd oM
theorem bSo (p:Option Addr) (m cap:Nat) (b:List T5) (c:aAc) (hv:RV p m b c) (hm:m≤1000000) (i:Nat) (hi:i<m):
  CtQ AC 105 [.slice p m cap,.int .i64 (i:Int)] [c] (.bool (bFe b i)):=by
 have hl:=hv.1
 have aa:=bNu (b:=b) (i:=i) oM
 obtain⟨bb,off,cs,T,fz,rfl,rfl,_,ab⟩:=(RV.rw hv).pos aAr oM
 have hg:∀j,j<m→cs[off+j*5+2]? =some (.int .i64 (at5 b j).c2):=fun j hj=>ab j 2 _ _ (aCd oM) rfl
 have ai:=hg i hi
 refine Ct.intro Tryz.func105 rfl Tryz.ntmps105 (nle rfl) fun w0=> ?_;dsimp only[aAa,Nat.reduceAdd]
 repeat(refine sv ?_;intros)
 refine G.loop (X:=Nat) (fun j=>j≤i∧∀q,q<j→(at5 b q).c2≠(at5 b i).c2) (fun j=>[(5,.int .i64 (j:Int)),(0,.slice (some ⟨bb,off,none⟩) m cap),(1,.int .i64 (i:Int))]) (fun _=>[[(bb,aBs cs T fz)]]) (fun j=>i-j) 0 ⟨AS _,fun q h=>by omega⟩ (body:= ?_)
 rintro j ⟨hj,ac⟩
 by_cases ad:j<i
 ·have aj:=hg j oM
  have ae:(at5 b j).c2≠(at5 b i).c2→∀q,q<j+1→(at5 b q).c2≠(at5 b i).c2:=fun ag q hq=>by
   rcases Nat.eq_or_lt_of_le (Nat.lt_succ_iff.1 hq) with rfl|h1
   ·exact ag
   ·exact ac q h1
  have ah:(at5 b j).c2=(at5 b i).c2→bFe b i=true:=fun he=>aa.2 ⟨j,ad,he⟩
  generalize (at5 b j).c2=x at*
  generalize (at5 b i).c2=y at*
  by_cases hq:x=y
  ·rw[ah hq]
   repeat(refine sv ?_;intros)
   (refine Dn.post (Hr:=[[(bb,aBs cs T fz)]]) Tryz.results105 (hR:= ?_);exact⟨rfl,rfl⟩)
  ·repeat(refine sv ?_;intros)
   refine Dn.round (j+1) ⟨ad,ae hq⟩ oM
 ·obtain rfl:j=i:=by omega
  have hf:bFe b j=false:=by
   cases hb:bFe b j with
   |false=>rfl
   |true=>
    obtain⟨q,hq,he⟩:=aa.1 hb
    exact(ac q hq he).elim
  rw[hf]
  repeat(refine sv ?_;intros)
  (refine Dn.post (Hr:=[[(bb,aBs cs T fz)]]) Tryz.results105 (hR:= ?_);exact⟨rfl,rfl⟩)
theorem bKd:∀n,aEu n [Value.int .i64 0,.int .i64 0,.int .i64 0,.int .i64 0,.int .i64 0]=(BY n T5.zero).flatMap aAk
 |0=>rfl
 |n+1=>by rw[List.replicate_succ,A8,←bKd n];rfl
theorem tset (o:List T5) (i:Nat) (t:T5) (h:i<o.length):aFm (o.flatMap aAk) (i*5) [.int .i64 t.c0,.int .i64 t.c1,.int .i64 t.c2,.int .i64 t.c3,.int .i64 t.c4]=(o.set i t).flatMap aAk:=by
 have:=bJi aAr o i t [] h
 rw[AQ,AQ] at this
 exact this
theorem bSp {o:List T5} {i j:Nat} {t:T5} {v:Value} (h:o[i]? =some t) (hj:(aAk t)[j]? =some v):(o.flatMap aAk)[i*5+j]? =some v:=by
 have:=bOz aAr h hj []
 rwa[AQ] at this
theorem tset3 {o:List T5} {i:Nat} {t:T5} (h:o[i]? =some t) (x:Int):(o.flatMap aAk).set (i*5+3) (.int .i64 x)=(o.set i {t with c3:=x}).flatMap aAk:=by
 obtain⟨hi,rfl⟩:=AK.1 h
 rw[←tset o i _ hi]
 have h1:=aHv aAr o
 have h2:(i+1)*5≤o.length*5:=Nat.mul_le_mul_right _ hi
 apply CH
 intro k
 rw[aGb _ _ _ oA6]
 by_cases hk:k=i*5+3
 ·subst hk
  rw[DV oM,AP,A9 oA6,BI oA6]
  have:i*5+3-(D2 (i*5) (o.flatMap aAk)).length=3:=by rw[BN];omega
  rw[this];rfl
 ·rw[DC oM]
  rcases DO k (i*5) with h3|h3
  ·rw[AP,BI oA6,BW,if_pos h3]
  ·rw[AP,A9 oA6]
   have h4:(D2 (i*5) (o.flatMap aAk)).length=i*5:=by rw[BN];omega
   rw[h4]
   rcases DO k (i*5+5) with h5|h5
   ·rw[BI oA6]
    obtain⟨j,rfl⟩:∃j,k=i*5+j:=⟨k-i*5,oM⟩
    rw[Nat.add_sub_cancel_left]
    have hj:j=0∨j=1∨j=2∨j=4:=oM
    rcases hj with rfl|rfl|rfl|rfl
    ·exact bSp h rfl
    ·exact bSp h rfl
    ·exact bSp h rfl
    ·exact bSp h rfl
   ·rw[A9 oA6,List.getElem?_drop]
    congr 1
    simp only[AL,AV]
    omega
def aSh (b:List T5) (x i:Nat):List T5:=(aIe (b.take i) x).map (aJn b)
theorem bKe {b:List T5} {x i:Nat} {t:T5} (h:b[i]? =some t) (aa:t.c3≠(x:Int)):aSh b x (i+1)=aSh b x i:=by
 unfold aSh aIe
 rw[BP,h,CC]
 simp[aa]
theorem bKf {b:List T5} {x i:Nat} {t:T5} (h:b[i]? =some t) (he:t.c3=(x:Int)):aSh b x (i+1)=aSh b x i++[aJn b t]:=by
 unfold aSh aIe
 rw[BP,h,CC]
 simp[he]
theorem bKg {b:List T5} {x i:Nat} {t:T5} (h:b[i]? =some t) (he:t.c3=(x:Int)):(aIe b x).map (aJn b)=aSh b x i++aJn b t::(aIe (b.drop (i+1)) x).map (aJn b):=by
 obtain⟨hi,rfl⟩:=AK.1 h
 have h1:b=b.take i++b[i]::b.drop (i+1):=by rw[←BQ hi,BV]
 unfold aSh aIe
 have h2:List.filter (fun t=>decide (t.c3=(x:Int))) b=List.filter (fun t=>decide (t.c3=(x:Int))) (b.take i)++b[i]::List.filter (fun t=>decide (t.c3=(x:Int))) (b.drop (i+1)):=by
  conv=>lhs;rw[h1]
  rw[CC,List.filter_cons,if_pos (by simpa using he)]
 rw[h2,AX,AZ]
def aJr (y:Nat×Fo):T5:=⟨(y.1:Int),-1,(y.1:Int),-1,((y.2.sz+1:Nat):Int)⟩
structure RtX where
 v:Nat
 n:Nat
 tl1:List (Nat×Fo)
 tl2:List (Nat×Fo)
 o:List T5
structure bAi (N:Nat) (tl:List (Nat×Fo)) (s:RtX):Prop where
 v:s.v≤N
 spl:tl=s.tl1++s.tl2
 lo:∀y∈s.tl1,y.1<s.v
 hi:∀y∈s.tl2,s.v≤y.1
 w:Wrt N (aQi tl) (aNk (vsT s.tl1)) s.o
 n:s.n=aNk (vsT s.tl1)
structure RuX where
 i:Nat
 n:Nat
 o:List T5
structure RwX where
 u:Nat
 dn:List Int
structure RfX where
 k:Int
 rest:List Int
 dn:List Int
section
variable {N:Nat} {es:List IE} {lab:List Int} {fl:List Bool} {r b:List T5} {tl:List (Nat×Fo)} {l:List T5}
theorem aAs.all_is (h:aAs N es lab b tl l) (hN:N≤1000000):(aMs 0 0).all (0,0) (vsT tl)=aQi tl:=aUc (d:=0) (n:=0) (by have:=h.tlo.sz;omega)
theorem aAs.cnt_all (h:aAs N es lab b tl l) (hN:N≤1000000):aNk (vsT tl)=N:=by
 unfold aNk
 rw[h.all_is hN,h.tabL_len]
theorem bAj (a c:List (Nat×Fo)):vsT (a++c)=vsT a++vsT c:=by unfold vsT;rw[CF]
theorem bAi.root (h:aAs N es lab b tl l) {s:RtX} (hs:bAi N tl s) (hv:lab[s.v]? =some (s.v:Int)):∃T tl2,s.tl2=(s.v,T)::tl2:=by
 have ab:s.v<N:=by rw[←h.tlo.len];exact(AK.1 hv).1
 obtain⟨y,hy,he⟩:=h.tlo.all s.v ab
 rw[hv] at he
 have ac:y.1=s.v:=by have:=BD he;omega
 rw[hs.spl,AO] at hy
 have aa:=h.tlo.up
 rw[hs.spl,BS] at aa
 rcases hy with hy|hy
 ·have:=hs.lo y hy;omega
 ·match ht:s.tl2,hy with
  |z::t2,hy=>
   rw[ht] at aa
   rcases AM.1 hy with rfl|hy
   ·exact⟨y.2,t2,by rw[←ac]⟩
   ·have h1:=List.rel_of_pairwise_cons aa.2.1 hy
    have h2:=hs.hi z (by rw[ht];exact AH)
    omega
theorem bAi.skip (h:aAs N es lab b tl l) {s:RtX} (hs:bAi N tl s) (aa:s.v<N) {x:Int} (hx:lab[s.v]? =some x) (ab:x≠(s.v:Int)):bAi N tl ⟨s.v+1,s.n,s.tl1,s.tl2,s.o⟩:=by
 refine⟨aa,hs.spl,fun y hy=>Nat.lt_succ_of_lt (hs.lo y hy),fun y hy=> ?_,hs.w,hs.n⟩
 have h1:=hs.hi y hy
 have h2:=(h.tlo.tree y (by rw[hs.spl];exact BM _ hy)).root
 rcases Nat.eq_or_lt_of_le h1 with h3|h3
 ·rw[←h3,hx] at h2
  exact(ab (BD h2)).elim
 ·exact h3
theorem bAi.tell (h:aAs N es lab b tl l) (hN:N≤1000000) {s:RtX} (hs:bAi N tl s) {T:Fo} {t2:List (Nat×Fo)} (ht:s.tl2=(s.v,T)::t2):
  aNk (vsT s.tl1)<N∧aNk (vsT s.tl1++[aJr (s.v,T)])=aNk (vsT s.tl1)+1∧
  Wrt N (aQi tl) (aNk (vsT s.tl1)+1) (s.o.set s.v ⟨(s.v:Int),-1,(aNk (vsT s.tl1):Int),0,0⟩):=by
 have e1:vsT tl=vsT s.tl1++aJr (s.v,T)::(trv s.v 0 s.v T++vsT t2):=by
  rw[hs.spl,bAj,ht,aJp];rfl
 obtain⟨h1,e,h2,h3,h4⟩:=aXp (P:=vsT s.tl1) (Q:=trv s.v 0 s.v T++vsT t2) (v:=aJr (s.v,T)) (by show(s.v:Int)≠-1;omega)
 rw[←e1,h.all_is hN] at h2
 obtain⟨k1,k2,w,_,k3,_,k4⟩:=h.entry h2
 have k5:e.c4=0:=by
  rcases k4 with k4|⟨j,e',_,g1,g2,_⟩
  ·exact k4.2
  ·obtain⟨_,_,w',_,g3,_⟩:=h.entry g1
   have:e.c1= -1:=h4
   omega
 have hw:=h.wstep hs.w h2
 have aa:e.c0=(s.v:Int):=h3
 have ab:e.c1= -1:=h4
 have e2:({e with c3:=0}:T5)=⟨(s.v:Int),-1,(aNk (vsT s.tl1):Int),0,0⟩:=by
  cases e;simp_all
 rw[e2,aa,AR] at hw
 exact⟨k1,h1,hw⟩
theorem bAi.tell2 (hP:aAh N es lab fl r b) (hf:∀e∈es,inE N e) (h:aAs N es lab b tl l) (hN:N≤1000000) {s:RtX} (hs:bAi N tl s) {T:Fo} {t2:List (Nat×Fo)} (ht:s.tl2=(s.v,T)::t2) {i:Nat} {t:T5} (hi:b[i]? =some t) (ab:t.c3=(s.v:Int)):
  let k:=aNk (vsT s.tl1++aJr (s.v,T)::aSh b s.v i)
  ((bFe b i=true∨t.c2=(s.v:Int))∧aNk (vsT s.tl1++aJr (s.v,T)::aSh b s.v (i+1))=k)∨
  (bFe b i=false∧t.c2≠(s.v:Int)∧aNk (vsT s.tl1++aJr (s.v,T)::aSh b s.v (i+1))=k+1∧k<N∧∀o,Wrt N (aQi tl) k o→
   ∃to aa:Nat,∃d:Int,to<N∧aa<N∧t.c2=(to:Int)∧t.c1=(aa:Int)∧(at5 o aa).c4=d∧0≤d∧d+1<N∧Wrt N (aQi tl) (k+1) (o.set to ⟨(to:Int),(aa:Int),(k:Int),0,d+1⟩)):=by
 intro k
 have hT:=h.tlo.tree (s.v,T) (by rw[hs.spl,ht];exact BM _ AH)
 have ac:=hT.vis
 dsimp only at ac
 have e1:vsT tl=(vsT s.tl1++aJr (s.v,T)::aSh b s.v i)++aJn b t::((aIe (b.drop (i+1)) s.v).map (aJn b)++vsT t2):=by
  rw[hs.spl,bAj,ht,aJp,←ac,bKg hi ab]
  simp[aJr]
 have e2:vsT s.tl1++aJr (s.v,T)::aSh b s.v (i+1)=(vsT s.tl1++aJr (s.v,T)::aSh b s.v i)++[aJn b t]:=by
  rw[bKf hi ab];simp
 rcases hP.vis_seen hf hi with⟨h1,h2⟩|⟨h1,h2,h3,h4,h5⟩
 ·left
  rw[ab] at h2
  exact⟨h2,by rw[e2];exact bSn h1⟩
 ·right
  rw[ab] at h4
  obtain⟨g1,e,g2,g3,g4⟩:=aXp (P:=vsT s.tl1++aJr (s.v,T)::aSh b s.v i) (Q:=(aIe (b.drop (i+1)) s.v).map (aJn b)++vsT t2) (v:=aJn b t) (by rw[h1];exact h5)
  rw[←e1,h.all_is hN] at g2
  obtain⟨k1,k2,w,hw,k3,ae,k4⟩:=h.entry g2
  refine⟨h3,h4,by rw[e2];exact g1,k1,fun o ho=> ?_⟩
  rw[h1] at g3
  rw[h2] at g4
  obtain⟨j,e',hj,q1,q2,q3⟩:∃j e',j<k∧(aQi tl)[j]? =some e'∧e'.c0=e.c1∧e.c4=e'.c4+1:=by
   rcases k4 with k4|k4
   ·exfalso
    obtain⟨i',n',ag,aj,_,rfl⟩:=hP.b_arc (A3 hi)
    obtain⟨_,_,c1,_⟩:=hP.arc_g hf (aBx (f:=aDh r) aBi ag n')
    have:(aDi r i' n').c1=(at5 r (itF (aDh r) n' i')).c1:=rfl
    omega
   ·exact k4
  obtain⟨_,_,u,hu,q4,q5,_⟩:=h.entry q1
  have ah:=h.bnd hu
  rw[q5] at ah
  have ai:=h.bnd hw
  rw[ae] at ai
  have q6:=ho.got j e' hj q1
  rw[q4,AR] at q6
  have q7:(at5 o u).c4=e'.c4:=by
   have:=aCd (r:=o) (k:=u) (by rw[ho.len];exact hu)
   rw[q6] at this
   rw[←BD this]
  refine⟨w,u,e'.c4,hw,hu,oM,oM,q7,oM,oM,?_⟩
  have ad:=h.wstep ho g2
  have e3:({e with c3:=0}:T5)=⟨(w:Int),(u:Int),(k:Int),0,e'.c4+1⟩:=by
   show(⟨e.c0,e.c1,e.c2,0,e.c4⟩:T5)=_
   rw[k3,k2,q3,←q2,q4]
  rw[e3,k3,AR] at ad
  exact ad
theorem bAi.done (h:aAs N es lab b tl l) {s:RtX} (hs:bAi N tl s) (ac:s.v<N) {T:Fo} {t2:List (Nat×Fo)} (ht:s.tl2=(s.v,T)::t2) {o:List T5} {m:Nat} (hm:b.length≤m) (ho:Wrt N (aQi tl) (aNk (vsT s.tl1++aJr (s.v,T)::aSh b s.v m)) o):bAi N tl ⟨s.v+1,aNk (vsT s.tl1++aJr (s.v,T)::aSh b s.v m),s.tl1++[(s.v,T)],t2,o⟩:=by
 have hT:=h.tlo.tree (s.v,T) (by rw[hs.spl,ht];exact BM _ AH)
 have ab:=h.tlo.up
 rw[hs.spl,ht,BS,BF] at ab
 have e1:vsT (s.tl1++[(s.v,T)])=vsT s.tl1++aJr (s.v,T)::aSh b s.v m:=by
  have aa:=hT.vis
  dsimp only at aa
  unfold aSh
  rw[List.take_of_length_le hm,bAj,aJp,aa]
  simp[aJr,vsT]
 refine⟨ac,by rw[hs.spl,ht,AP];rfl,fun y hy=> ?_,fun y hy=>ab.2.1.1 y hy,?_,by rw[e1]⟩
 ·rcases AO.1 hy with h1|h1
  ·exact Nat.lt_succ_of_lt (hs.lo y h1)
  ·rw[AT.1 h1];exact Nat.lt_succ_self _
 ·show Wrt N (aQi tl) (aNk (vsT (s.tl1++[(s.v,T)]))) o
  rw[e1]
  exact ho
theorem bAi.end_ (h:aAs N es lab b tl l) (hN:N≤1000000) {s:RtX} (hs:bAi N tl s) (hv:s.v=N):s.o=aAs.outC N l []:=by
 have h0:s.tl2=[]:=by
  cases ht:s.tl2 with
  |nil=>rfl
  |cons y t2=>
   exfalso
   have hy:y∈s.tl2:=by rw[ht];exact AH
   have h1:=hs.hi y hy
   have h2:=(h.tlo.tree y (by rw[hs.spl];exact BM _ hy)).root
   have h3:=(AK.1 h2).1
   rw[h.tlo.len] at h3
   omega
 have h1:=hs.spl
 rw[h0,AQ] at h1
 have hw:=hs.w
 rw[←h1,h.cnt_all hN] at hw
 exact h.wend hw
end
theorem bCs {v:T5} (hv:v.c2≠-1):∀(ts:List T5) (k:Int×Int),v∈ts→∃e∈(aMs 0 0).all k ts,e.c0=v.c2∧e.c1=v.c3
 |[],_,h=>by cases h
 |t::ts,k,h=>by
  simp only[aAt.all]
  rcases AM.1 h with rfl|h
  ·have ho:(aMs 0 0).outs k v=[⟨v.c2,v.c3,AJ .i64 (AJ .i64 (k.2+1)-1),v.c4,if v.c3= -1 then 0 else AJ .i64 (k.1+1)⟩]:=if_neg hv
   exact⟨_,BO _ (by rw[ho];exact List.mem_singleton_self _),rfl,rfl⟩
  ·obtain⟨e,he,h1⟩:=bCs hv ts _ h
   exact⟨e,BM _ he,h1⟩
section
variable {N:Nat} {es:List IE} {lab:List Int} {fl:List Bool} {r b:List T5} {tl:List (Nat×Fo)} {l:List T5}
theorem bKh (hT:aAs N es lab b tl l) (hN:N≤1000000) {v:T5} (hv:v∈vsT tl) (hd:v.c2≠-1):∃w,w<N∧v.c2=(w:Int)∧(at5 l w).c1=v.c3:=by
 obtain⟨e,he,h1,h2⟩:=bCs hd _ (0,0) hv
 rw[hT.all_is hN] at he
 unfold aQi at he
 obtain⟨w,hw,h3,h4⟩:=hT.of he
 exact⟨w,hw,oM,by rw[h4,h2]⟩
theorem bPg (hT:aAs N es lab b tl l) {v p:Nat} (hv:v<N) (h:(at5 l v).c1=(p:Int)):p≠v:=by
 rintro rfl
 rcases hT.par hv with⟨h1,_⟩|⟨q,hq,h1,_,h2,_⟩
 ·omega
 ·obtain rfl:q=p:=by omega
  omega
theorem bSq (hP:aAh N es lab fl r b) (hf:∀e∈es,inE N e) (hT:aAs N es lab b tl l) (hN:N≤1000000) {x:Nat} (hx:lab[x]? =some (x:Int)):
  ∃P W,bPf N lab l x P W∧(∀t∈b,t.c3=(x:Int)→∃n,n<P∧t.c4=(n:Int)∧t.c2=(W (n+1):Int))∧∀n,n<P→∃t∈b,t.c3=(x:Int)∧t.c4=(n:Int)∧t.c2=(W (n+1):Int):=by
 have au:x<N:=by rw[←hP.labs.len];exact(AK.1 hx).1
 obtain⟨y,hy,av⟩:=hT.tlo.all x au
 rw[hx] at av
 obtain rfl:x=y.1:=by have:=BD av;omega
 have aw:=(hT.tlo.tree y hy).vis
 have ae:(at5 l y.1).c1= -1:=by
  have hm:(⟨(y.1:Int),-1,(y.1:Int),-1,((y.2.sz+1:Nat):Int)⟩:T5)∈vsT tl:=B9.2 ⟨y,hy,AH⟩
  obtain⟨w,hw,h1,h2⟩:=bKh hT hN hm oD
  dsimp only at h1 h2
  obtain rfl:y.1=w:=by omega
  exact h2
 have a0:∀t∈b,t.c3=(y.1:Int)→aJn b t∈vsT tl:=fun t ht hc=>by
  refine B9.2 ⟨y,hy,AI _ ?_⟩
  rw[←aw]
  exact List.mem_map_of_mem (B0.2 ⟨ht,decide_eq_true hc⟩)
 by_cases ao:∃i,i<r.length∧aEs r i=true∧(at5 r i).c3=(y.1:Int)
 ·obtain⟨i,hi,hr,ag⟩:=ao
  have ah:∀j,j<r.length→aEs r j=true→(at5 r j).c3=(y.1:Int)→j=i:=by
   intro j hj ax ay
   rcases CJ i j with h1|h1|h1
   ·exact(hP.arcs.root_uniq h1 hj hr ax (by rw[ag,ay])).elim
   ·exact h1.symm
   ·exact(hP.arcs.root_uniq h1 hi ax hr (by rw[ag,ay])).elim
  have aa:=hP.tw hf hi
  have am:=hr
  unfold aEs at am
  obtain⟨am,_⟩:=of_decide_eq_true am
  have az:vtA r i 0=y.1:=by show(at5 r i).c1.toNat=y.1;rw[am,ag,AR]
  have hit:=fun n=>hP.arcs.it_lab (hP.hl hf) hi n
  have an:∀k,lab[vtA r i k]? =some (y.1:Int):=fun k=>by
   obtain⟨z,y1,_,y2,_⟩:=hP.lab_at hf (aBx (f:=aDh r) aBi hi k)
   rw[hit,ag] at y1
   unfold vtA
   rw[y2,←y1]
  have ai:∀n,n<aGo r i→aDi r i n∈b∧(aDi r i n).c3=(y.1:Int)∧(aDi r i n).c4=(n:Int)∧(aDi r i n).c2=(vtA r i (n+1):Int):=fun n hn=>by
   refine⟨hP.arc_b hi hr hn,by rw[show(aDi r i n).c3=(at5 r i).c3 from hit n];exact ag,rfl,?_⟩
   obtain⟨_,_,c1,_,c2,_⟩:=hP.arc_g hf (aBx (f:=aDh r) aBi hi n)
   rw[hP.vt_succ hi]
   show(at5 r (itF (aDh r) n i)).c2=_
   omega
  have aj:∀n,n<aGo r i→n<aUt r i n→(at5 l (vtA r i (n+1))).c1=(vtA r i n:Int):=fun n hn ak=>by
   obtain⟨a1,a2,_,_⟩:=ai n hn
   have h1:=a0 _ a1 a2
   rw[hP.vis_at hf hi hr,if_pos ak] at h1
   obtain⟨w,hw,h2,h3⟩:=bKh hT hN h1 oD
   dsimp only at h2 h3
   rwa[show w=vtA r i (n+1) by omega] at h3
  have ak:∀k,vtA r i k<N:=fun k=>by rw[←hP.labs.len];exact(AK.1 (an k)).1
  have al:∀k,k<aGo r i→(at5 l (vtA r i (k+1))).c1=(vtA r i k:Int)∨(at5 l (vtA r i k)).c1=(vtA r i (k+1):Int):=fun k hk=>by
   by_cases a5:k<aUt r i k
   ·exact .inl (aj k hk a5)
   ·have h1:=aa.bro_lt k hk
    have h2:=aa.bro_ne k hk
    have h3:=aa.bro_bro k hk
    have h4:=aj (aUt r i k) h1 oM
    rw[aa.bro_to k hk,aa.bro_from k hk] at h4
    exact .inr h4
  refine⟨aGo r i,vtA r i,⟨az,ae,fun k _=>ak k,al,fun j k hj hk h1 h2=> ?_,fun v hv=> ?_⟩,fun t ht hc=> ?_,fun n hn=> ?_⟩
  ·have a6:edA r i j=edA r i k:=by
    apply DI
    intro ad
    refine aa.bridge _ (aa.mem j hj) (.one ⟨edA r i k,⟨aa.mem k hk,fun h=>ad h.symm⟩,?_⟩)
    have e1:=aa.ends j hj
    have e2:=aa.ends k hk
    rw[←h1,←h2] at e2
    rcases e1 with⟨e3,e4⟩|⟨e3,e4⟩<;>rw[e3,e4]
    ·exact e2
    ·exact e2.symm
   rcases aa.uniq j k hj hk a6 with h3|h3
   ·exact h3
   ·exfalso
    have h4:=aa.bro_from k hk
    rw[←h3,←h2] at h4
    rcases al j hj with h5|h5
    ·exact bPg hT (ak _) h5 h4
    ·exact bPg hT (ak _) h5 h4.symm
  ·constructor
   ·intro ap
    by_cases ad:v=y.1
    ·exact⟨0,AS _,by rw[az,ad]⟩
    ·obtain⟨k,hk,k1,k2⟩:=hP.lab_arc hf ap ad
     obtain⟨i',ab,ac,aq,hR⟩:=hP.root_of hf hk
     have:=ah i' ab ac (by rw[aq,k2])
     subst this
     obtain⟨n,hn,he⟩:=hP.arcs.pos_of hi hR
     exact⟨n,oM,by unfold vtA;rw[he,k1,AR]⟩
   ·rintro⟨k,_,rfl⟩
    exact an k
  ·obtain⟨i',n,ab,ac,hn,rfl⟩:=hP.b_arc ht
   have h1:=hP.arcs.it_lab (hP.hl hf) ab n
   have:=ah i' ab ac (by rw[←hc,←h1];rfl)
   subst this
   obtain⟨_,_,a3,a4⟩:=ai n hn
   exact⟨n,hn,a3,a4⟩
  ·obtain⟨a1,a2,a3,a4⟩:=ai n hn
   exact⟨_,a1,a2,a3,a4⟩
 ·refine⟨0,fun _=>y.1,⟨rfl,ae,fun _ _=>au,fun k hk=>by omega,fun j k hj=>by omega,fun v hv=> ?_⟩,fun t ht hc=> ?_,fun n hn=>by omega⟩
  ·constructor
   ·intro ap
    refine⟨0,AG _,?_⟩
    apply DI
    intro ad
    obtain⟨k,hk,k1,k2⟩:=hP.lab_arc hf ap fun h=>ad h.symm
    obtain⟨i',ab,ac,aq,_⟩:=hP.root_of hf hk
    exact ao ⟨i',ab,ac,by rw[aq,k2]⟩
   ·rintro⟨_,_,rfl⟩
    exact hx
  ·exfalso
   obtain⟨i',n,ab,ac,hn,rfl⟩:=hP.b_arc ht
   have h1:=hP.arcs.it_lab (hP.hl hf) ab n
   exact ao ⟨i',ab,ac,by rw[←hc,←h1];rfl⟩
end
def aUe (x y:T5):Prop:=x.c0<y.c0∨x.c0=y.c0∧x.c1<y.c1
theorem bSr {S:List T5} (hs:S.Pairwise aUe) {x:Int} {P:Nat} {E:Nat→T5} (h0:∀k,k≤P→(E k).c0=x∧(E k).c1=(k:Int)-1) (hm:∀k,k≤P→E k∈S):∃s,∀k,k≤P→S[s+k]? =some (E k):=by
 have aa:∀{i j:Nat} {a c:T5},S[i]? =some a→S[j]? =some c→i<j→aUe a c:=by
  intro i j a c ha hc ab
  obtain⟨i1,rfl⟩:=AK.1 ha
  obtain⟨j1,rfl⟩:=AK.1 hc
  exact BJ.1 hs i j i1 j1 ab
 obtain⟨s,ac⟩:=D5.1 (hm 0 (AS _))
 refine⟨s,fun k=> ?_⟩
 induction k with
 |zero=>intro _;exact ac
 |succ k ih=>
  intro hk
  have h1:=ih oM
  obtain⟨a1,a2⟩:=h0 k oM
  obtain⟨b1,b2⟩:=h0 (k+1) hk
  obtain⟨j,hj⟩:=D5.1 (hm (k+1) hk)
  have ad:=(AK.1 hj).1
  rcases CJ j (s+k) with h2|h2|h2
  ·have:=aa hj h1 h2
   unfold aUe at this;omega
  ·subst h2
   rw[h1] at hj
   have:=congrArg T5.c1 (BD hj)
   omega
  ·by_cases h3:j=s+k+1
   ·rw[show s+(k+1)=j by omega];exact hj
   ·have hu:S[s+k+1]? =some S[s+k+1]:=AE oM
    have h4:=aa h1 hu oM
    have h5:=aa hu hj oM
    unfold aUe at h4 h5
    omega
theorem bNv {S:List T5} (hs:S.Pairwise aUe) {i j:Nat} {a:T5} (hi:S[i]? =some a) (hj:S[j]? =some a):i=j:=by
 obtain⟨i1,e1⟩:=AK.1 hi
 obtain⟨j1,e2⟩:=AK.1 hj
 rcases CJ i j with h|h|h
 ·have:=BJ.1 hs i j i1 j1 h
  rw[e1,e2] at this;unfold aUe at this;omega
 ·exact h
 ·have:=BJ.1 hs j i j1 i1 h
  rw[e1,e2] at this;unfold aUe at this;omega
def bCt (la to tr:List T5):List T5:=srt (ltO o12) false (aDo 2 2 tr (aQq la++aUs to))
section
variable {N:Nat} {es:List IE} {lab:List Int} {fl:List Bool} {r b:List T5} {tl:List (Nat×Fo)} {l:List T5}
theorem aUf {t:T5}:t∈aQq (aAy lab)↔∃x:Nat,lab[x]? =some (x:Int)∧t=⟨(x:Int),-1,(x:Int),0,0⟩:=by
 unfold aQq
 rw[B9]
 constructor
 ·rintro⟨u,hu,ht⟩
  unfold aAy at hu
  obtain⟨x,hx,rfl⟩:=AU.1 hu
  have hx:=A6.1 hx
  unfold aUo at ht
  dsimp only at ht
  split at ht
  ·rename_i hq
   rw[AT] at ht
   refine⟨x,?_,ht⟩
   rw[AN,AE hx] at hq
   rw[AE hx]
   simp only[Option.getD_some] at hq
   rw[←hq]
  ·cases ht
 ·rintro⟨x,hx,rfl⟩
  have aa:=(AK.1 hx).1
  refine⟨⟨(x:Int),(x:Int),0,0,0⟩,?_,by simp[aUo]⟩
  unfold aAy
  refine AU.2 ⟨x,A6.2 aa,?_⟩
  rw[AN,hx];rfl
theorem aOg {z:T5}:z∈bCt (aAy lab) b l↔∃y∈aQq (aAy lab)++aUs b,z=⟨y.c0,y.c1,lkV l y.c2 2,y.c3,y.c4⟩:=by
 unfold bCt
 rw[(aBa _).mem_iff,(aJi _ _ _ _).mem_iff,AU]
 constructor
 ·rintro⟨y,hy,rfl⟩;exact⟨y,hy,rfl⟩
 ·rintro⟨y,hy,rfl⟩;exact⟨y,hy,rfl⟩
theorem bNw (hP:aAh N es lab fl r b) (hf:∀e∈es,inE N e) (hT:aAs N es lab b tl l) (hN:N≤1000000) {t:T5} (ht:t∈b):∃x:Nat,t.c3=(x:Int)∧lab[x]? =some (x:Int):=by
 obtain⟨i,n,hi,hr,hn,rfl⟩:=hP.b_arc ht
 obtain⟨x,h1,_,_,_,h2⟩:=hP.lab_at hf hi
 exact⟨x,by rw[show(aDi r i n).c3=(at5 r i).c3 from hP.arcs.it_lab (hP.hl hf) hi n];exact h1,h2⟩
theorem aXq (hP:aAh N es lab fl r b) (hf:∀e∈es,inE N e) (hT:aAs N es lab b tl l) (hN:N≤1000000):(bCt (aAy lab) b l).Pairwise aUe:=by
 have h1:(bCt (aAy lab) b l).Pairwise fun a c=>a.c0<c.c0∨a.c0=c.c0∧a.c1≤c.c1:=(aZl false _).imp fun h=>by simpa using h
 have h2:(aQq (aAy lab)++aUs b).Pairwise fun a c=>¬(a.c0=c.c0∧a.c1=c.c1):=by
  rw[BS]
  refine⟨?_,?_,?_⟩
  ·unfold aQq
   rw[List.pairwise_flatMap]
   refine⟨fun u _=>by unfold aUo;split<;>simp,?_⟩
   have hl:(aAy lab).Pairwise fun a c=>a.c0<c.c0:=by
    unfold aAy
    rw[BC]
    exact List.pairwise_lt_range.imp fun h=>by dsimp only;omega
   refine hl.imp fun {a c} aa x hx y hy=> ?_
   unfold aUo at hx hy
   split at hx
   ·split at hy
    ·rw[AT] at hx hy
     subst hx hy
     dsimp only;omega
    ·cases hy
   ·cases hx
  ·unfold aUs
   rw[BC]
   exact(hP.keys hf).imp fun {a c} h=>by unfold keyL at h;dsimp only;omega
  ·intro a ha c hc
   obtain⟨x,_,rfl⟩:=aUf.1 ha
   unfold aUs at hc
   obtain⟨t,ht,rfl⟩:=AU.1 hc
   obtain⟨i,n,_,_,_,rfl⟩:=hP.b_arc ht
   have:(aDi r i n).c4=(n:Int):=rfl
   dsimp only;omega
 have h3:(aDo 2 2 l (aQq (aAy lab)++aUs b)).Pairwise fun a c=>¬(a.c0=c.c0∧a.c1=c.c1):=by
  refine(aJi _ _ _ _).symm.pairwise ?_ fun h g=>h ⟨g.1.symm,g.2.symm⟩
  rw[BC]
  exact h2.imp fun h=>h
 have h4:(bCt (aAy lab) b l).Pairwise fun a c=>¬(a.c0=c.c0∧a.c1=c.c1):=(aBa (lt:=ltO o12) _).symm.pairwise h3 fun h g=>h ⟨g.1.symm,g.2.symm⟩
 exact(h1.and h4).imp fun {a c} h=>by unfold aUe;omega
theorem aIy (hP:aAh N es lab fl r b) (hf:∀e∈es,inE N e) (hT:aAs N es lab b tl l) (hN:N≤1000000) {x:Nat} (hx:lab[x]? =some (x:Int)):
  ∃P W s,bPf N lab l x P W∧(∀k,k≤P→(bCt (aAy lab) b l)[s+k]? =some ⟨(x:Int),(k:Int)-1,(at5 l (W k)).c2,0,0⟩)∧∀z∈bCt (aAy lab) b l,z.c0=(x:Int)→∃k,k≤P∧z=⟨(x:Int),(k:Int)-1,(at5 l (W k)).c2,0,0⟩:=by
 obtain⟨P,W,hw,hA,hB⟩:=bSq hP hf hT hN hx
 have aa:x<N:=by rw[←hw.start];exact hw.lt 0 (AS _)
 have ab:∀k,k≤P→(⟨(x:Int),(k:Int)-1,(at5 l (W k)).c2,0,0⟩:T5)∈bCt (aAy lab) b l:=by
  intro k hk
  match k,hk with
  |0,_=>
   refine aOg.2 ⟨⟨(x:Int),-1,(x:Int),0,0⟩,BO _ (aUf.2 ⟨x,hx,rfl⟩),?_⟩
   dsimp only
   rw[hT.look aa,hw.start];rfl
  |k+1,hk=>
   obtain⟨t,ht,h3,h4,h2⟩:=hB k oM
   refine aOg.2 ⟨⟨t.c3,t.c4,t.c2,0,0⟩,BM _ (AU.2 ⟨t,ht,rfl⟩),?_⟩
   dsimp only
   rw[h2,h3,h4,hT.look (hw.lt (k+1) hk)]
   simp only[T5.mk.injEq,and_true,true_and]
   exact⟨oM,rfl⟩
 obtain⟨s,hs⟩:=bSr (aXq hP hf hT hN) (x:=(x:Int)) (P:=P) (E:=fun k=>⟨(x:Int),(k:Int)-1,(at5 l (W k)).c2,0,0⟩) (fun k _=>⟨rfl,rfl⟩) ab
 refine⟨P,W,s,hw,hs,fun z hz hc=> ?_⟩
 obtain⟨y,hy,rfl⟩:=aOg.1 hz
 dsimp only at hc
 rcases AO.1 hy with hy|hy
 ·obtain⟨x',ac,rfl⟩:=aUf.1 hy
  dsimp only at hc
  obtain rfl:x'=x:=by omega
  refine⟨0,AS _,?_⟩
  dsimp only
  rw[hT.look aa,hw.start];rfl
 ·obtain⟨t,ht,rfl⟩:=AU.1 hy
  dsimp only at hc⊢
  obtain⟨n,hn,h4,h2⟩:=hA t ht hc
  refine⟨n+1,oM,?_⟩
  rw[h2,h4,hc,hT.look (hw.lt (n+1) oM)]
  simp only[T5.mk.injEq,and_true,true_and]
  exact⟨oM,rfl⟩
end
theorem bAk:∀{ts:List T5} {i k:Nat} {t:T5},ts[k]? =some t→(atF i ts)[k]? =some ⟨t.c0,((i+k:Nat):Int),0,0,0⟩
 |[],_,_,_,h=>by simp at h
 |u::ts,i,0,t,h=>by
  simp only[List.getElem?_cons_zero,BA] at h
  subst h;rfl
 |u::ts,i,k+1,t,h=>by
  rw[List.getElem?_cons_succ] at h
  have:=bAk (i:=i+1) h
  show(atF (i+1) ts)[k]? =_
  rw[this,show i+1+k=i+(k+1) by omega]
theorem bAl {ts:List T5} {z:T5}:z∈atF 0 ts↔∃(k:Nat) (t:T5),ts[k]? =some t∧z=⟨t.c0,(k:Int),0,0,0⟩:=by
 constructor
 ·intro hz
  obtain⟨k,hk⟩:=D5.1 hz
  have hl:=(AK.1 hk).1
  rw[aZn] at hl
  have ht:ts[k]? =some ts[k]:=AE hl
  have:=bAk (i:=0) ht
  rw[hk,BT] at this
  exact⟨k,_,ht,BD this⟩
 ·rintro⟨k,t,ht,rfl⟩
  have:=bAk (i:=0) ht
  rw[BT] at this
  exact A3 this
theorem atF_ok {ts:List T5} (h:∀t∈ts,okT 1 t) (hl:ts.length≤1000000):∀z∈atF 0 ts,okT 2 z:=by
 intro z hz
 obtain⟨k,t,ht,rfl⟩:=bAl.1 hz
 have:=(AK.1 ht).1
 exact bEh (aBb (h t (A3 ht))).1 ⟨oM,oM⟩
def aDa (N:Nat) (lab:List Int) (l:List T5) (u v:Nat) (m:Int):Prop:=
 (lab[u]? =lab[v]?∧∃w:Nat,m=(w:Int)∧w<N∧Sub l w u∧Sub l w v∧∀z,z<N→Sub l z u→Sub l z v→(at5 l z).c2≤(at5 l w).c2)∨(lab[u]?≠lab[v]?∧m= -1)
section
variable {N:Nat} {es:List IE} {lab:List Int} {fl:List Bool} {r b:List T5} {tl:List (Nat×Fo)} {l:List T5}
theorem aDa.one (hT:aAs N es lab b tl l) {u v:Nat} {m m':Int} (h:aDa N lab l u v m) (h':aDa N lab l u v m'):m=m':=by
 rcases h with⟨h1,w,rfl,hw,h2,h3,h4⟩|⟨h1,rfl⟩
 ·rcases h' with⟨_,w',rfl,aa,g2,g3,g4⟩|⟨g1,_⟩
  ·have e1:=h4 w' aa g2 g3
   have e2:=g4 w hw h2 h3
   rw[hT.num_inj hw aa oM]
  ·exact absurd h1 g1
 ·rcases h' with⟨g1,_⟩|⟨_,rfl⟩
  ·exact absurd g1 h1
  ·rfl
theorem aUg (hP:aAh N es lab fl r b) {v:Nat} (hv:v<N):∃x:Nat,lab[v]? =some (x:Int)∧lab[x]? =some (x:Int):=by
 obtain⟨x,h1,h2,h3,_⟩:=hP.labs.root hv
 exact⟨x,h1,by rw[←hP.labs.same hv oM h3];exact h1⟩
theorem bAm (hP:aAh N es lab fl r b) (hf:∀e∈es,inE N e) (hT:aAs N es lab b tl l) (hN:N≤1000000) {u v:Nat} (hu:u<N) (hv:v<N):∃m,aDa N lab l u v m:=by
 by_cases hl:lab[u]? =lab[v]?
 rotate_left
 ·exact⟨-1,.inr ⟨hl,rfl⟩⟩
 obtain⟨x,h1,hx⟩:=aUg hP hu
 obtain⟨P,W,s,hw,_,_⟩:=aIy hP hf hT hN hx
 have aa:x<N:=by rw[←hw.start];exact hw.lt 0 (AS _)
 obtain⟨k,hk,rfl⟩:=(hw.all u hu).1 h1
 obtain⟨k',ab,rfl⟩:=(hw.all v hv).1 (hl▸h1)
 have ac:∀q:Nat,(∃z,z<N∧Sub l z (W k)∧Sub l z (W k')∧(N:Int)-q≤(at5 l z).c2)→∃w,w<N∧Sub l w (W k)∧Sub l w (W k')∧∀z,z<N→Sub l z (W k)→Sub l z (W k')→(at5 l z).c2≤(at5 l w).c2:=by
  intro q
  induction q with
  |zero=>
   rintro⟨z,hz,_,_,h3⟩
   have:=hT.bnd hz;omega
  |succ q ih=>
   rintro⟨z,hz,h3,h4,h5⟩
   by_cases hc:∃z,z<N∧Sub l z (W k)∧Sub l z (W k')∧(N:Int)-q≤(at5 l z).c2
   ·exact ih hc
   ·refine⟨z,hz,h3,h4,fun y hy g3 g4=> ?_⟩
    apply DI
    intro hn
    exact hc ⟨y,hy,g3,g4,oM⟩
 obtain⟨w,ad,ae,ag,ah⟩:=ac N ⟨x,aa,hw.below hT k hk,hw.below hT k' ab,by have:=hT.bnd aa;omega⟩
 exact⟨_,.inl ⟨hl,w,rfl,ad,ae,ag,ah⟩⟩
theorem bCu {k:Nat}:(aBe (aAy lab) b l)[k]? =((bCt (aAy lab) b l)[k]?).map fun t=>⟨t.c2,0,0,0,0⟩:=by
 unfold aBe;rw[BU];rfl
theorem bKi {k:Nat} {t:T5} (h:(bCt (aAy lab) b l)[k]? =some t):at0 (aBe (aAy lab) b l) k=t.c2:=aNe (t:=⟨t.c2,0,0,0,0⟩) (by rw[bCu,h];rfl)
def aIz (lab:List Int) (b l:List T5) (v:Nat) (j:Nat):Prop:=j<(aBe (aAy lab) b l).length∧at0 (aBe (aAy lab) b l) j=(at5 l v).c2
theorem aSi (hP:aAh N es lab fl r b) (hf:∀e∈es,inE N e) (hT:aAs N es lab b tl l) (hN:N≤1000000) {u v i j w:Nat} (hu:u<N) (hv:v<N) (hi:aIz lab b l u i) (hj:aIz lab b l v j) (a1:i≤j) (hl:lab[u]? =lab[v]?) (hw:w<N) (h1:Sub l w u) (h2:Sub l w v) (am:∀z,z<N→Sub l z u→Sub l z v→(at5 l z).c2≤(at5 l w).c2):
  aJw (at0 (aBe (aAy lab) b l)) i (j-i)=(at5 l w).c2:=by
 obtain⟨x,g1,hx⟩:=aUg hP hu
 obtain⟨P,W,s,an,hs,ao⟩:=aIy hP hf hT hN hx
 have a0:(aBe (aAy lab) b l).length=(bCt (aAy lab) b l).length:=by unfold aBe;rw[List.length_map];rfl
 have ap:∀{q v:Nat},v<N→lab[v]? =some (x:Int)→aIz lab b l v q→∃k,k≤P∧q=s+k∧W k=v:=by
  intro q v hv aw ⟨a2,ag⟩
  have hq:(bCt (aAy lab) b l)[q]? =some ((bCt (aAy lab) b l)[q]' oM):=AE oM
  rw[bKi hq] at ag
  have aa:=A3 hq
  generalize (bCt (aAy lab) b l)[q]' oM=z at*
  obtain⟨y,hy,aq⟩:=aOg.1 aa
  have ah:∃x':Nat,z.c0=(x':Int)∧lab[x']? =some (x':Int):=by
   rcases AO.1 hy with hy|hy
   ·obtain⟨x',ai,rfl⟩:=aUf.1 hy
    exact⟨x',by rw[aq],ai⟩
   ·obtain⟨t,ht,rfl⟩:=AU.1 hy
    obtain⟨x',h3,h4⟩:=bNw hP hf hT hN ht
    exact⟨x',by rw[aq];exact h3,h4⟩
  obtain⟨x',au,ai⟩:=ah
  obtain⟨P',W',s',ab,a3,aj⟩:=aIy hP hf hT hN ai
  obtain⟨k,hk,ax⟩:=aj z aa au
  have ak:W' k=v:=hT.num_inj (ab.lt k hk) hv (by rw[←ag,ax])
  have ac:=(ab.all v hv).2 ⟨k,hk,ak⟩
  rw[aw] at ac
  obtain rfl:x=x':=by have:=BD ac;omega
  obtain⟨k2,al,ad⟩:=ao z aa au
  have h3:=hs k2 al
  rw[←ad] at h3
  refine⟨k2,al,bNv (aXq hP hf hT hN) hq h3,hT.num_inj (an.lt k2 al) hv (by rw[←ag,ad])⟩
 obtain⟨k,hk,rfl,ak⟩:=ap hu g1 hi
 obtain⟨k',ay,rfl,av⟩:=ap hv (hl▸g1) hj
 subst ak av
 obtain⟨⟨d,d1,d2,d3⟩,az⟩:=an.meet hT (show k≤k' by omega) ay hw h1 h2 am
 have ae:∀q,q≤P→at0 (aBe (aAy lab) b l) (s+q)=(at5 l (W q)).c2:=fun q hq=>(bKi (hs q hq)).trans rfl
 refine(bIo (fun q hq=> ?_) ⟨d-k,oM,?_⟩).symm
 ·rw[show s+k+q=s+(k+q) by omega,ae _ oM]
  exact(az (k+q) oM oM).1
 ·rw[show s+k+(d-k)=s+d by omega,ae _ oM,d3]
theorem aOh (hP:aAh N es lab fl r b) (hf:∀e∈es,inE N e) (hT:aAs N es lab b tl l) (hN:N≤1000000) (ac:∀t∈aBe (aAy lab) b l,okT 1 t) (ab:(aBe (aAy lab) b l).length≤1000000) {v:Nat} (hv:v<N):∃j:Nat,lkV (aCc (aBe (aAy lab) b l)) (at5 l v).c2 1=(j:Int)∧aIz lab b l v j:=by
 obtain⟨x,g1,hx⟩:=aUg hP hv
 obtain⟨P,W,s,ad,hs,_⟩:=aIy hP hf hT hN hx
 obtain⟨k,hk,rfl⟩:=(ad.all v hv).1 g1
 have hg:(aBe (aAy lab) b l)[s+k]? =some ⟨(at5 l (W k)).c2,0,0,0,0⟩:=by rw[bCu,hs k hk];rfl
 obtain⟨z,hz,aa,ae⟩:=bPe (k:=(at5 l (W k)).c2) ⟨_,bAl.2 ⟨s+k,_,hg,rfl⟩,rfl⟩
 have hm:z∈aCc (aBe (aAy lab) b l):=(aWy (atF_ok ac ab)).2 ⟨hz,fun y hy h=>ae y hy oM⟩
 obtain⟨j,t,ht,rfl⟩:=bAl.1 hz
 dsimp only at aa
 refine⟨j,aLd (aTh _) hm aa,(AK.1 ht).1,?_⟩
 rw[aNe ht];exact aa
end
theorem aDr {v col:Nat} {hts ts:List T5} {z:T5}:z∈aDo v col hts ts↔∃t∈ts,z=aDu hts col v col t:=by
 rw[(aJi _ _ _ _).mem_iff,AU]
 exact⟨fun ⟨t,h,e⟩=>⟨t,h,e.symm⟩,fun ⟨t,h,e⟩=>⟨t,h,e.symm⟩⟩
theorem aLl {v col:Nat} (hc:col=1∨col=2) (hts ts:List T5):((aDo v col hts ts).map (·.c0)).Perm (ts.map (·.c0)):=by
 refine((aJi _ _ _ _).map _).trans (List.Perm.of_eq ?_)
 rw[DE]
 refine CZ fun t _=> ?_
 rcases hc with rfl|rfl<;>rfl
section
variable {N:Nat} {es:List IE} {lab:List Int} {fl:List Bool} {r b:List T5} {tl:List (Nat×Fo)} {l:List T5} {qs:List T5}
theorem bCv (lab:List Int):(aAy lab).Pairwise fun a c=>a.c0<c.c0:=by
 unfold aAy
 rw[BC]
 exact List.pairwise_lt_range.imp fun h=>by dsimp only;omega
theorem aOi {u:Nat} {x:Int} (h:lab[u]? =some x):lkV (aAy lab) (u:Int) 1=x:=by
 have hu:=(AK.1 h).1
 refine aLd (t:=⟨(u:Int),x,0,0,0⟩) (bCv lab) ?_ rfl
 unfold aAy
 refine AU.2 ⟨u,A6.2 hu,?_⟩
 rw[AN,h];rfl
structure Qu (N:Nat) (lab:List Int) (q:T5) (u v:Nat) (x y:Int):Prop where
 hu:u<N
 hv:v<N
 hq:q=⟨q.c0,(u:Int),(v:Int),0,0⟩
 hx:lab[u]? =some x
 hy:lab[v]? =some y
 c0:0≤q.c0∧aAv q.c0
theorem qu_of (hl:lab.length=N) (hq:aIb N qs) (aa:∀t∈qs,okT 3 t) {q:T5} (h:q∈qs):∃u v x y,Qu N lab q u v x y:=by
 have h1:=hq.1 q h
 have h2:=aa q h
 unfold okM at h1
 obtain⟨u,hu⟩:∃u:Nat,q.c1=(u:Int):=⟨q.c1.toNat,oM⟩
 obtain⟨v,hv⟩:∃v:Nat,q.c2=(v:Int):=⟨q.c2.toNat,oM⟩
 refine⟨u,v,_,_,⟨oM,oM,?_,AE oM,AE oM,h1.1,(aBb h2).1⟩⟩
 have h3:q.c3=0:=h2.2 3 oM
 have h4:q.c4=0:=h2.2 4 oM
 obtain⟨c0,c1,c2,c3,c4⟩:=q
 dsimp only at hu hv h3 h4⊢
 rw[hu,hv,h3,h4]
theorem aUh (hl:lab.length=N) (hq:aIb N qs) (ab:∀t∈qs,okT 3 t) {z:T5}:z∈aPu (aAy lab) qs↔∃q∈qs,∃u v x y,Qu N lab q u v x y∧z=⟨q.c0,(u:Int),(v:Int),x,y⟩:=by
 have aa:∀z,z∈srt (ltO (oK 2)) false ((srt (ltO (oK 1)) false qs).map (aDu (aAy lab) 1 1 3))↔∃q∈qs,z=aDu (aAy lab) 1 1 3 q:=by
  intro z
  rw[(aBa _).mem_iff,AU]
  constructor
  ·rintro⟨q,h,rfl⟩;exact⟨q,aDf h,rfl⟩
  ·rintro⟨q,h,rfl⟩;exact⟨q,(aBa _).mem_iff.2 h,rfl⟩
 unfold aPu
 rw[AU]
 constructor
 ·rintro⟨y,hy,rfl⟩
  obtain⟨q,h,rfl⟩:=(aa y).1 hy
  obtain⟨u,v,x,y,hQ⟩:=qu_of hl hq ab h
  refine⟨q,h,u,v,x,y,hQ,?_⟩
  rw[hQ.hq]
  show(⟨q.c0,(u:Int),(v:Int),lkV (aAy lab) (u:Int) 1,lkV (aAy lab) (v:Int) 1⟩:T5)=_
  rw[aOi hQ.hx,aOi hQ.hy]
 ·rintro⟨q,h,u,v,x,y,hQ,rfl⟩
  refine⟨_,(aa _).2 ⟨q,h,rfl⟩,?_⟩
  rw[hQ.hq]
  show(⟨q.c0,(u:Int),(v:Int),lkV (aAy lab) (u:Int) 1,lkV (aAy lab) (v:Int) 1⟩:T5)=_
  rw[aOi hQ.hx,aOi hQ.hy]
theorem aXr (hl:lab.length=N) (hq:aIb N qs) (ab:∀t∈qs,okT 3 t) {z:T5}:z∈aHg (aAy lab) qs↔∃q∈qs,∃u v x y,Qu N lab q u v x y∧x≠y∧z=⟨q.c0,-1,0,0,0⟩:=by
 unfold aHg
 rw[B9]
 constructor
 ·rintro⟨t,ht,hz⟩
  obtain⟨q,h,u,v,x,y,hQ,rfl⟩:=(aUh hl hq ab).1 ht
  unfold aUp at hz
  dsimp only at hz
  split at hz
  ·cases hz
  ·rename_i aa
   rw[AT] at hz
   exact⟨q,h,u,v,x,y,hQ,aa,hz⟩
 ·rintro⟨q,h,u,v,x,y,hQ,aa,rfl⟩
  refine⟨_,(aUh hl hq ab).2 ⟨q,h,u,v,x,y,hQ,rfl⟩,?_⟩
  unfold aUp
  dsimp only
  rw[if_neg aa,AT]
theorem bCw (hl:lab.length=N) (hq:aIb N qs) (aa:∀t∈qs,okT 3 t) {z:T5}:z∈aFi (aAy lab) qs↔∃q∈qs,∃u v x,Qu N lab q u v x x∧z=⟨q.c0,(u:Int),(v:Int),0,0⟩:=by
 unfold aFi
 rw[B9]
 constructor
 ·rintro⟨t,ht,hz⟩
  obtain⟨q,h,u,v,x,y,hQ,rfl⟩:=(aUh hl hq aa).1 ht
  unfold aUq at hz
  dsimp only at hz
  split at hz
  ·rename_i he
   subst he
   rw[AT] at hz
   exact⟨q,h,u,v,x,hQ,hz⟩
  ·cases hz
 ·rintro⟨q,h,u,v,x,hQ,rfl⟩
  refine⟨_,(aUh hl hq aa).2 ⟨q,h,u,v,x,x,hQ,rfl⟩,?_⟩
  unfold aUq
  dsimp only
  rw[if_pos rfl,AT]
theorem bSs (la:List T5) (hq:qs.Pairwise fun a c=>a.c0≠c.c0):(aFi la qs).Pairwise fun a c=>a.c0≠c.c0:=by
 have h0:(qs.map (·.c0)).Nodup:=by rw[List.Nodup,BC];exact hq
 have h1:((aPu la qs).map (·.c0)).Nodup:=by
  unfold aPu
  rw[DE]
  refine(List.Perm.nodup_iff ?_).2 h0
  have e1:∀l:List T5,l.map ((fun t:T5=>t.c0)∘aDu la 2 1 4)=l.map (·.c0):=fun l=>CZ fun t _=>rfl
  rw[e1]
  refine((aBa _).map _).trans ?_
  rw[DE]
  have e2:∀l:List T5,l.map ((fun t:T5=>t.c0)∘aDu la 1 1 3)=l.map (·.c0):=fun l=>CZ fun t _=>rfl
  rw[e2]
  exact(aBa _).map _
 have h2:(aPu la qs).Pairwise fun a c=>a.c0≠c.c0:=by rwa[List.Nodup,BC] at h1
 unfold aFi
 rw[List.pairwise_flatMap]
 refine⟨fun t _=>by unfold aUq;split<;>simp,h2.imp fun {a c} aa x hx y hy=> ?_⟩
 unfold aUq at hx hy
 split at hx
 ·split at hy
  ·rw[AT] at hx hy
   subst hx hy;exact aa
  ·cases hy
 ·cases hx
theorem bSt (la to tr:List T5) (hq:qs.Pairwise fun a c=>a.c0≠c.c0):(aMl la to tr qs).Pairwise fun a c=>a.c0≠c.c0:=by
 have h1:=bSs la hq
 have h2:((aPw tr (aCc (aBe la to tr)) (aFi la qs)).map (·.c0)).Perm ((aFi la qs).map (·.c0)):=by
  unfold aPw
  exact(((aLl (.inr rfl) _ _).trans (aLl (.inr rfl) _ _)).trans (aLl (.inl rfl) _ _)).trans (aLl (.inl rfl) _ _)
 have h3:((aFi la qs).map (·.c0)).Nodup:=by rw[List.Nodup,BC];exact h1
 have h4:=h2.nodup_iff.2 h3
 unfold aMl aZr
 rw[BC]
 rwa[List.Nodup,BC] at h4
theorem bKj (hP:aAh N es lab fl r b) (hf:∀e∈es,inE N e) (hT:aAs N es lab b tl l) (hN:N≤1000000) (ac:∀t∈aBe (aAy lab) b l,okT 1 t) (ab:(aBe (aAy lab) b l).length≤1000000) (hq:aIb N qs) (aa:∀t∈qs,okT 3 t) {z:T5}:
  z∈aMl (aAy lab) b l qs↔∃q∈qs,∃u v x,Qu N lab q u v x x∧∃i j:Nat,lkV (aCc (aBe (aAy lab) b l)) (at5 l u).c2 1=(i:Int)∧aIz lab b l u i∧lkV (aCc (aBe (aAy lab) b l)) (at5 l v).c2 1=(j:Int)∧aIz lab b l v j∧z=⟨q.c0,((min i j:Nat):Int),((max i j:Nat):Int),0,0⟩:=by
 have hl:=hP.labs.len
 have ad:∀z,z∈aPw l (aCc (aBe (aAy lab) b l)) (aFi (aAy lab) qs)↔∃q∈qs,∃u v x,Qu N lab q u v x x∧z=⟨q.c0,lkV (aCc (aBe (aAy lab) b l)) (at5 l u).c2 1,lkV (aCc (aBe (aAy lab) b l)) (at5 l v).c2 1,0,0⟩:=by
  intro z
  unfold aPw
  constructor
  ·intro hz
   obtain⟨a,ha,rfl⟩:=aDr.1 hz
   obtain⟨c,hc,rfl⟩:=aDr.1 ha
   obtain⟨d,hd,rfl⟩:=aDr.1 hc
   obtain⟨e,he,rfl⟩:=aDr.1 hd
   obtain⟨q,h,u,v,x,hQ,rfl⟩:=(bCw hl hq aa).1 he
   refine⟨q,h,u,v,x,hQ,?_⟩
   show(⟨q.c0,lkV _ (lkV l (u:Int) 2) 1,lkV _ (lkV l (v:Int) 2) 1,0,0⟩:T5)=_
   rw[hT.look hQ.hu,hT.look hQ.hv];rfl
  ·rintro⟨q,h,u,v,x,hQ,rfl⟩
   refine aDr.2 ⟨_,aDr.2 ⟨_,aDr.2 ⟨_,aDr.2 ⟨_,(bCw hl hq aa).2 ⟨q,h,u,v,x,hQ,rfl⟩,rfl⟩,rfl⟩,rfl⟩,?_⟩
   show _=(⟨q.c0,lkV _ (lkV l (u:Int) 2) 1,lkV _ (lkV l (v:Int) 2) 1,0,0⟩:T5)
   rw[hT.look hQ.hu,hT.look hQ.hv];rfl
 unfold aMl aZr
 rw[AU]
 constructor
 ·rintro⟨y,hy,rfl⟩
  obtain⟨q,h,u,v,x,hQ,rfl⟩:=(ad y).1 hy
  obtain⟨i,hi,ae⟩:=aOh hP hf hT hN ac ab hQ.hu
  obtain⟨j,hj,ag⟩:=aOh hP hf hT hN ac ab hQ.hv
  refine⟨q,h,u,v,x,hQ,i,j,hi,ae,hj,ag,?_⟩
  dsimp only
  rw[hi,hj]
  simp only[T5.mk.injEq,true_and,and_true]
  omega
 ·rintro⟨q,h,u,v,x,hQ,i,j,hi,ae,hj,ag,rfl⟩
  refine⟨_,(ad _).2 ⟨q,h,u,v,x,hQ,rfl⟩,?_⟩
  dsimp only
  rw[hi,hj]
  simp only[T5.mk.injEq,true_and,and_true]
  omega
theorem bCx (hT:aAs N es lab b tl l):l.Pairwise fun a c=>a.c2≠c.c2:=by
 rw[BJ]
 intro i j hi hj aa hc
 have e1:=aCd (r:=l) hi
 have e2:=aCd (r:=l) hj
 rw[AE hi] at e1
 rw[AE hj] at e2
 rw[BD e1,BD e2] at hc
 have:=hT.num_inj (by rw[←hT.len];exact hi) (by rw[←hT.len];exact hj) hc
 omega
theorem aXs (hT:aAs N es lab b tl l) {w:Nat} (hw:w<N):lkV (aLh l) (at5 l w).c2 1=(w:Int):=by
 have aa:l.Pairwise fun a c=>a.c2≠c.c2:=bCx hT
 refine aLd (t:=⟨(at5 l w).c2,(w:Int),0,0,0⟩) (aSb aa) ?_ rfl
 unfold aLh
 rw[(aBa _).mem_iff]
 exact AU.2 ⟨at5 l w,hT.mem_l.2 ⟨w,hw,rfl⟩,by rw[hT.at_ w hw]⟩
theorem aQj (hP:aAh N es lab fl r b) (hf:∀e∈es,inE N e) (hT:aAs N es lab b tl l) (hN:N≤1000000) (ac:∀t∈aBe (aAy lab) b l,okT 1 t) (ah:(aBe (aAy lab) b l).length≤1000000) (hq:aIb N qs) (ag:∀t∈qs,okT 3 t):
  (∀z,z∈aBw (aAy lab) b l qs↔∃q∈qs,∃m,aDa N lab l q.c1.toNat q.c2.toNat m∧z=⟨q.c0,m,0,0,0⟩)∧aZs (aAy lab) b l qs N=none:=by
 have hl:=hP.labs.len
 have ad:=fun z=>bKj hP hf hT hN ac ah hq ag (z:=z)
 have ak:bMs (aBe (aAy lab) b l).length (aMl (aAy lab) b l qs):=by
  refine⟨fun z hz=> ?_,bSt _ _ _ hq.2⟩
  obtain⟨q,_,u,v,x,hQ,i,j,_,hi,_,hj,rfl⟩:=(ad z).1 hz
  have h1:=hQ.c0
  have h2:=hi.1
  have h3:=hj.1
  unfold okQ
  dsimp only
  omega
 have ao:∀z∈aMl (aAy lab) b l qs,aAv z.c0:=fun z hz=>by
  obtain⟨q,_,u,v,x,hQ,_,_,_,_,_,_,rfl⟩:=(ad z).1 hz
  exact hQ.c0.2
 have ap:∀t∈aBe (aAy lab) b l,aAv t.c0:=fun t h=>(aBb (ac t h)).1
 have al:=fun z=>bEm ap ao ak (z:=z)
 have ae:∀{q:T5} {u v:Nat} {x:Int},Qu N lab q u v x x→∀{i j:Nat},aIz lab b l u i→aIz lab b l v j→∃w:Nat,w<N∧aDa N lab l u v (w:Int)∧aJw (at0 (aBe (aAy lab) b l)) (min i j) (max i j-min i j)=(at5 l w).c2:=by
  intro q u v x hQ i j hi hj
  obtain⟨m,hm⟩:=bAm hP hf hT hN hQ.hu hQ.hv
  have ai:=hm
  have ab:lab[u]? =lab[v]? :=by rw[hQ.hx,hQ.hy]
  rcases hm with⟨_,w,rfl,hw,h1,h2,h3⟩|⟨h1,_⟩
  ·refine⟨w,hw,ai,?_⟩
   rcases Nat.le_total i j with aa|aa
   ·rw[Nat.min_eq_left aa,Nat.max_eq_right aa]
    exact aSi hP hf hT hN hQ.hu hQ.hv hi hj aa ab hw h1 h2 h3
   ·rw[Nat.min_eq_right aa,Nat.max_eq_left aa]
    exact aSi hP hf hT hN hQ.hv hQ.hu hj hi aa ab.symm hw h2 h1 fun z hz g1 g2=>h3 z hz g2 g1
  ·exact absurd ab h1
 constructor
 ·intro z
  unfold aBw
  rw[(aBa _).mem_iff,AO,aXr hl hq ag]
  constructor
  ·rintro(hz|⟨q,h,u,v,x,y,hQ,aq,rfl⟩)
   ·obtain⟨t,ht,rfl⟩:=aDr.1 hz
    obtain⟨g,hg,rfl⟩:=(al t).1 ht
    obtain⟨q,h,u,v,x,hQ,i,j,_,hi,_,hj,rfl⟩:=(ad g).1 hg
    obtain⟨w,hw,hm,he⟩:=ae hQ hi hj
    refine⟨q,h,(w:Int),?_,?_⟩
    ·rw[hQ.hq];exact hm
    ·show(⟨q.c0,lkV (aLh l) (aJw (at0 (aBe (aAy lab) b l)) ((min i j:Nat):Int).toNat (((max i j:Nat):Int)-((min i j:Nat):Int)).toNat) 1,0,0,0⟩:T5)=_
     rw[show((min i j:Nat):Int).toNat=min i j by omega,show(((max i j:Nat):Int)-((min i j:Nat):Int)).toNat=max i j-min i j by omega,he,aXs hT hw]
   ·refine⟨q,h,-1,?_,rfl⟩
    rw[hQ.hq]
    refine .inr ⟨?_,rfl⟩
    dsimp only
    rw[AR,AR,hQ.hx,hQ.hy]
    exact fun h=>aq (BD h)
  ·rintro⟨q,h,m,hm,rfl⟩
   obtain⟨u,v,x,y,hQ⟩:=qu_of hl hq ag h
   rw[hQ.hq] at hm
   dsimp only at hm
   rw[AR,AR] at hm
   by_cases aj:x=y
   ·subst aj
    left
    obtain⟨i,hi,am⟩:=aOh hP hf hT hN ac ah hQ.hu
    obtain⟨j,hj,an⟩:=aOh hP hf hT hN ac ah hQ.hv
    obtain⟨w,hw,ai,he⟩:=ae hQ am an
    obtain rfl:=hm.one hT ai
    refine aDr.2 ⟨_,(al _).2 ⟨_,(ad _).2 ⟨q,h,u,v,x,hQ,i,j,hi,am,hj,an,rfl⟩,rfl⟩,?_⟩
    show _=(⟨q.c0,lkV (aLh l) (aJw (at0 (aBe (aAy lab) b l)) ((min i j:Nat):Int).toNat (((max i j:Nat):Int)-((min i j:Nat):Int)).toNat) 1,0,0,0⟩:T5)
    rw[show((min i j:Nat):Int).toNat=min i j by omega,show(((max i j:Nat):Int)-((min i j:Nat):Int)).toNat=max i j-min i j by omega,he,aXs hT hw]
   ·right
    refine⟨q,h,u,v,x,y,hQ,aj,?_⟩
    rcases hm with⟨h1,_⟩|⟨_,rfl⟩
    ·rw[hQ.hx,hQ.hy] at h1
     exact absurd (BD h1) aj
    ·rfl
 ·unfold aZs bMu bEn
  rw[if_pos hq,if_pos ak];rfl
end
open Go.Spc
theorem fl4len (f:Fl):(fl4 f).length=4:=rfl
def aUu (fs:List Fl):Nat:=(fs.map (·.blocks)).sum
theorem bKk {fs:List Fl} {i:Nat} {f:Fl} (h:fs[i]? =some f):aUu (fs.take (i+1))=aUu (fs.take i)+f.blocks:=by
 unfold aUu;rw[BP,h];simp
theorem bKl (fs:List Fl) (i:Nat):aUu (fs.take i)≤aUu fs:=by
 have h:=congrArg aUu (BV i fs)
 unfold aUu at h⊢
 rw[AX,List.sum_append] at h
 omega
theorem bSu {ba:Nat} {α:Ar} {c:aAc} (h:aKu ba α c):α.peak≤α.room:=by
 obtain⟨c0,⟨bm,ck,_,h1⟩,_⟩:=h
 omega
def Wk.flt (W:Wk) (n:Int):Wk:={W with δ:={W.δ with fault:=n}}
theorem Wc.flt {bd ba bs:Nat} {W:Wk} {cd ca cs aa:aAc} {n:Int} (h:Wc bd ba bs W cd ca cs) (hd:aEc bd {W.δ with fault:=n} aa):Wc bd ba bs (W.flt n) aa ca cs:=⟨hd,h.ar,h.sp,h.nn,h.live⟩
theorem bKm {bd ba bs:Nat} {W:Wk} {cd ca cs:aAc} (h:Wc bd ba bs W cd ca cs) {fs:List Fl} (hl:W.live.Perm (aAz fs [])) {N:Nat} (hn:W.σ.n=N):aBg W.σ.free+aUu fs=N:=by
 have h1:=bRc h hl
 rw[aGg] at h1
 unfold aUu
 rw[show aBg []=0 from rfl] at h1
 omega
theorem aOj {bd ba bs:Nat} {W:Wk} {cd ca cs:aAc} (h:Wc bd ba bs W cd ca cs) {fs:List Fl} (hl:W.live.Perm (aAz fs [])) (hn:W.σ.n=9000):aBg W.σ.free+aUu fs=9000:=bKm h hl hn
theorem aLm {W:Wk} {k:Nat} {bd:Nat} {cd:aAc} (hd:aEc bd W.δ cd) (h1:1≤k) (h2:k≤5):aBm W (⟨0,0,k,0⟩,[]):=by
 obtain⟨⟨hs,_⟩,_⟩:=hd.num
 have hp:=aAl hs h1 h2
 refine⟨[],⟨h1,h2,rfl,AS _,?_,by simp,fun j hj=>absurd hj (Nat.not_lt_zero j),fun h=>absurd rfl h⟩,by simp⟩
 show 0=(0+aAf W.δ.size k-1)/aAf W.δ.size k
 rw[Nat.div_eq_of_lt oM]
end Go.Proofs.YtaofijjjheiknaaGreat
namespace Go.SL
section
variable {P:Program} {ops:Array Oper} {Q:Exit→Act→World→Prop} {cls:Nat→Oper→Cls} {w0:World} {S:List Nat} {n:Nat} {l:List (Nat×Oper)} {L:aBk} {D:List Deferred} {H:Hp} {qs:List Rd} {k d T yT:Nat} {x y:Operand} {ty:TypeId} {pos:String} {af:Array Edge} {g:Option (Nat×Bool)}
end
end Go.SL
namespace Go.Proofs.YtaofijjjheiknaaGreat
open Go.SL Go.Spc Go.Tup Go.Srt
structure Ons (n ro:Nat) (W:Wk) (fs:List Fl):Prop where
 size:W.δ.size=10
 room:W.α.room=ro
 used:W.α.used=0
 acts:W.δ.acts≤1000000000
 n:W.σ.n=n
 live:W.live.Perm (aAz fs [])
theorem Ons.flt {n ro:Nat} {W:Wk} {fs:List Fl} (h:Ons n ro W fs) (x:Int):Ons n ro (W.flt x) fs:={h with}
theorem Ons.fresh (n ro:Nat):Ons n ro (wk0 10 n ro) []:=⟨rfl,rfl,rfl,AS _,rfl,.refl _⟩
theorem Ons.lay {n ro k m:Nat} {bd ba bs:Nat} {cd ca cs ae ab ad:aAc} {W W1:Wk} {f:Fl} {fs:List Fl} {ts:List T5} (h:Ons n ro W fs) (hW:Wc bd ba bs W cd ca cs) (aa:Wc bd ba bs W1 ae ab ad) (hE:Ev W W1 (aAb 10 k m) (aAb 10 k m)) (hg:W1.α.gs.Perm W.α.gs) (hl:W1.live.Perm (aCj f W.live)) (ac:aAq W1.δ.disk 10 [f.ext] f ts) (ha:W.δ.acts+aAb 10 k m≤1000000000):
  Ons n ro W1 (fs++[f])∧aBm W1 (f,ts):=by
 have h1:W1.δ.size=10:=hE.size.trans h.size
 have h2:=hE.acts.2
 exact⟨⟨h1,hE.room.trans h.room,(aKg hW aa hg).trans h.used,oM,hE.n.trans h.n,(hl.trans (aCw h.live)).trans (by rw[←aIm])⟩,aBm.new ac h1 hl⟩
theorem nb3 {n:Nat}:aAb 10 3 n≤(n+1)/2:=by
 unfold aAb
 have:aAf 10 3=2:=by decide
 rw[this];omega
theorem Ons.stepped {n ro A T wd:Nat} {p:Jp} {bd ba bs:Nat} {cd ca cs ag ad ae:aAc} {W W1:Wk} {x:Fl} {fs:List Fl} {ts:List T5} (h:Ons n ro W fs) (hW:Wc bd ba bs W cd ca cs) (ac:Wc bd ba bs W1 ag ad ae) (hS:aEh p W W1 A T none ts x 0) (hw:x.width=wd) (ha:W.δ.acts+A≤1000000000):
  Ons n ro W1 (fs++[x])∧aBm W1 (x,ts)∧x.count=ts.length∧(∀z,aBm W z→aBm W1 z):=by
 obtain⟨hl,aa⟩:W1.live.Perm (aCj x W.live)∧aAq W1.δ.disk W.δ.size [x.ext] x ts:=hS.res.elim (fun h=>⟨h.2.2.1,h.2.2.2⟩) (fun h=>absurd rfl h.1)
 have ab:W1.δ.size=10:=hS.size.trans h.size
 rw[h.size] at aa
 have ah:=hS.acts
 refine⟨⟨ab,hS.room.trans h.room,(aKg hW ac hS.gs).trans h.used,oM,hS.n.trans h.n,(hl.trans (aCw h.live)).trans (by rw[←aIm])⟩,aBm.new aa ab hl,aa.len.symm,fun z hz=>hz.stay hS.size hS.keep (bCo hl)⟩
theorem Ons.tot {n ro:Nat} {W:Wk} {fs:List Fl} (h:Ons n ro W fs):W.live.length≤fs.length∧aBg W.live=(fs.map (·.blocks)).sum:=by
 have h1:=h.live.length_eq
 have h2:=aGl fs []
 have h3:=(aFy h.live).trans (aGg fs [])
 rw[show aBg []=0 from rfl] at h3
 simp only[AV] at h2
 exact⟨oM,oM⟩
theorem aOk {bw bd ba bs n ro:Nat} (ag:10≤ro) {W:Wk} {cd ca cs:aAc} (hW:Wc bd ba bs W cd ca cs) {fs:List Fl} (hO:Ons n ro W fs) (hf:W.δ.fault= -1) (ah:W.δ.acts≤1000000) (k:Nat) (h1:1≤k) (h2:k≤5) {p:Option Addr} {m cap:Nat} {ts:List T5} {c:aAc} (hv:RV p m ts c) (hm:m≤10000) (ac:∀t∈ts,okT k t) (hb:m≤big W.σ.free):
  Ct AC 73 [pv bw,.int .i64 (k:Int),.slice p m cap] [aAi bw bd ba bs,cd,ca,cs,c] fun v H'=>
   ∃cd' ca' cs' W' f,v= .tuple #[flv f,.int .i64 0]∧H'=[aAi bw bd ba bs,cd',ca',cs',c]∧Wc bd ba bs W' cd' ca' cs'∧Ons n ro W' (fs++[f])∧aBm W' (f,ts)∧f.width=k∧f.count=m∧W'.δ.fault= -1∧W'.δ.acts≤W.δ.acts+m∧big W.σ.free≤big W'.σ.free+m∧(∀z,aBm W z→aBm W' z):=by
 have ai:aAb 10 k m≤m:=aAx (aAl oM h1 h2)
 have h:=Lay_k bw bd ba bs W cd ca cs hW k h1 h2 p m cap ts c hv oM ac (by rw[hO.size,hO.room,hO.used];omega) hf oM (by rw[hO.size];omega)
 refine h.mono ?_
 rintro v H' ⟨cd',ca',cs',W',f,rfl,rfl,aa,hE,hK,hg,hl,ad,ae,aj,ab⟩
 rw[hO.size] at hE ab
 obtain⟨h3,h4⟩:=hO.lay hW aa hE hg hl ab oM
 have h5:=hE.acts.2
 have h6:=hE.big
 exact⟨cd',ca',cs',W',f,rfl,rfl,aa,h3,h4,ad,ae,hE.fault hf,oM,oM,fun z hz=>hz.stay hE.size hK (bCo hl)⟩
end Go.Proofs.YtaofijjjheiknaaGreat
