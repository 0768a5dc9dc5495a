/-
  Parts of the proof, put together (12). No condition.
-/
import Derived.Test.YtaofijjjheiknaaGreatP11
set_option linter.unusedVariables false
set_option linter.unusedSimpArgs false
set_option linter.unnecessarySimpa false
set_option maxHeartbeats 4000000
open Bool renaming and_eq_true→D3
open Classical renaming byContradiction→BS
open Go.IntKind renaming wrap→AL
open Go.Proofs.Tryz renaming prog→AC
open Int renaming toNat_natCast→AU
open List renaming cons_append→AA,nil_append→AB,mem_cons_self→AE,mem_cons_of_mem→AF,getElem?_eq_getElem→AG,length_append→AH,length_cons→AJ,getElem?_eq_some_iff→AK,getD_eq_getElem?_getD→AM,mem_cons→AN,mem_map→AO,append_nil→AP,length_map→AQ,mem_append→AR,length_nil→AS,append_assoc→AV,mem_singleton→AX,map_append→AY,map_cons→AZ,mem_of_getElem?→A0,pairwise_map→A6,mem_range→A9,range→BA,pairwise_iff_getElem→BB,flatMap_cons→BC,getElem?_append_right→BE,getElem?_map→BH,pairwise_cons→BI,getElem?_append_left→BK,drop_eq_getElem_cons→BM,mem_append_right→BN,take_add_one→BP,length_take→BQ,take_append_drop→BT,mem_filter→BV,getElem?_eq_none→BW,replicate→BX,getElem?_take→BY,mem_flatMap→BZ,mem_iff_getElem→B0,getElem_mem→B7,flatMap_append→B9,filter_append→CA,pairwise_append→CB,nodup_append→CC,nodup_cons→CF,map_map→CH,getElem?_range→CK,singleton_append→CO,pairwise_lt_range→CV,getElem?_set_ne→CW,mem_iff_getElem?→DA,length_set→DE,ext_getElem?→DI,getElem?_set_self→DK,getElem?_zip_eq_some→DR,range_succ→DT,replicate_succ→D6,take→D8,perm_ext_iff_of_nodup→EQ
open List.Pairwise renaming imp_of_mem→EA
open List.Perm renaming of_eq→DF
open Nat renaming reduceAdd→AD,le_refl→AI,zero_le→AT,lt_trichotomy→B5,add_zero→B6,sub_self→DS,not_lt_zero→ED,eq_or_lt_of_le→EH
open Option renaming map_some→DN
open Option.some renaming inj→BF,injEq→BG
open Go.Proofs.Tryz
open Go.Value renaming int→Z9
open Go.IntKind renaming i64→Z8
namespace Go.Proofs.YtaofijjjheiknaaGreat
open Go.SL Go.Tup Go.Gr Go.Srt
theorem Xo {α β:Type} {f g:α→List β}:∀{l:List α},(∀x∈l,f x=g x)→l.flatMap f=l.flatMap g
 |[],_=>rfl
 |x::l,h=>by rw[BC,BC,h x AE,Xo fun y hy=>h y (AF _ hy)]
def Je (es:List IE) (u:Int) (v:Nat):Prop:=0≤u∧Jn (gE es) (fun i=>i<es.length) u.toNat v
def Hq (b:List T5) (x:Int):List T5:=b.filter fun t=>decide (t.c3=x)
structure LabT (es:List IE) (lab:List Int) (b:List T5) (x:Nat) (T:Fo):Prop where
 vis:(Hq b x).map (Dc b)=trv x 0 x T
 nd:T.vs.Nodup
 vs:∀v,v∈T.vs↔lab[v]? =some (x:Int)∧v≠x
 jo:T.Jo (Je es) x
 root:lab[x]? =some (x:Int)
namespace Av
variable {N:Nat} {es:List IE} {lab:List Int} {fl:List Bool} {r b:List T5}
theorem lab_cn (h:Av N es lab fl r b) {v x:Nat} (hv:lab[v]? =some (x:Int)):v<N∧Cn (gE es) (Fs fl) v x:=by
 have hN:v<N:=by rw[←h.labs.len];exact(AK.1 hv).1
 obtain⟨y,h1,_,h3,_⟩:=h.labs.root hN;have:=BF (hv.symm.trans h1);obtain rfl:x=y:=by omega
 exact⟨hN,h.cn_f.1 h3⟩
theorem lab_arc (h:Av N es lab fl r b) (hf:∀e∈es,inE N e) {v x:Nat} (hv:lab[v]? =some (x:Int)) (aa:v≠x):∃k,k<r.length∧(at5 r k).c1=v∧(at5 r k).c3=x:=by
 obtain⟨hN,hc⟩:=h.lab_cn hv;have hs:=hc.symm;cases hs with
 |refl=>exact(aa rfl).elim
 |step _ hj=>
  obtain⟨k,hk,k1,_⟩:=h.arc_at hf hj.symm;obtain⟨y,y1,_,y2,_⟩:=h.lab_at hf hk;refine⟨k,hk,k1,?_⟩;rw[k1,AU,hv] at y2;rw[y1];exact(BF y2).symm
theorem ofLab_eq (h:Av N es lab fl r b) (hf:∀e∈es,inE N e) (x:Int):Hq b x=(BA r.length).flatMap fun j=>if Fc r j then(if(at5 r j).c3=x then Ls r j else[]) else[]:=by
 unfold Hq
 conv=>lhs;rw[h.tours]
 unfold Ke Gx;rw[List.filter_flatMap];refine Xo fun j hj=>?_;have hj:=A9.1 hj;split
 next hr=>
  have hc:∀t∈Ls r j,t.c3=(at5 r j).c3:=fun t ht=>by obtain⟨n,_,rfl⟩:=AO.1 ht;exact h.arcs.it_lab (h.hl hf) hj n
  split
  next hx=>exact List.filter_eq_self.2 fun t ht=>decide_eq_true (by rw[hc t ht,hx])
  next hx=>
   exact List.filter_eq_nil_iff.2 fun t ht=>by have:=hc t ht;simp only[decide_eq_true_eq];rw[this];exact hx
 next=>rfl
theorem label_tree (h:Av N es lab fl r b) (hf:∀e∈es,inE N e) {x:Nat} (hx:lab[x]? =some (x:Int)):∃T,LabT es lab b x T:=by
 by_cases ah:∃i,i<r.length∧Fc r i=true∧(at5 r i).c3=(x:Int)
 ·obtain⟨i,hi,hr,ac⟩:=ah;have ab:∀j,j<r.length→Fc r j=true→(at5 r j).c3=(x:Int)→j=i:=by
   intro j hj al am;rcases B5 i j with h1|h1|h1
   ·exact(h.arcs.root_uniq h1 hj hr al (by rw[ac,am])).elim
   ·exact h1.symm
   ·exact(h.arcs.root_uniq h1 hi al hr (by rw[ac,am])).elim
  have hb:Hq b x=Ls r i:=by
   rw[h.ofLab_eq hf];have:=kQ (Ls r i) i (p:=fun j=>Fc r j&&decide ((at5 r j).c3=(x:Int))) (n:=r.length) (fun j hj hp=>by
    rw[D3,decide_eq_true_eq] at hp;exact ab j hj hp.1 hp.2)
   rw[if_pos ⟨hi,by rw[D3,decide_eq_true_eq];exact⟨hr,ac⟩⟩] at this;rw[←this];refine Xo fun j hj=>?_;have hj:=A9.1 hj;by_cases h1:Fc r j=true
   ·by_cases h2:(at5 r j).c3=(x:Int)
    ·have:=ab j hj h1 h2;subst this;simp[h1,h2]
    ·simp[h1,h2]
   ·simp[h1]
  have ad:=h.tw hf hi;obtain⟨T,hT⟩:=ad.trees;have ao:=hT.len;have aa:=hr;unfold Fc at aa;obtain⟨aa,_⟩:=of_decide_eq_true aa;have ae:vtA r i 0=x:=by show(at5 r i).c1.toNat=x;rw[aa,ac,AU]
  refine⟨T,?_,ad.vs_nodup (AI _) hT,?_,?_,hx⟩
  ·rw[hb];have hv:=hT.vis (x:=(x:Int)) (f:=fun n=>Dc b (Dq r i n)) (fun n hn=>by
    rw[h.vis_at hf hi hr,ac])
   rw[ae] at hv;rw[←hv,show 2*T.sz=Ca r i by omega];unfold Ls;rw[CH,List.range_eq_range'];rfl
  ·intro v;rw[hT.vs_mem v];constructor
   ·rintro⟨k,_,k2,k3,rfl⟩;refine⟨?_,fun hq=>ad.first k2 k3 (AT k) (by rw[ae];exact hq.symm)⟩;obtain⟨y,y1,_,y2,_⟩:=h.lab_at hf (Di (f:=Ay r) Dp hi (k+1));rw[h.arcs.it_lab (h.hl hf) hi,ac] at y1;unfold vtA;rw[y2,←y1]
   ·rintro⟨hv,ag⟩;obtain⟨k,hk,k1,k2⟩:=h.lab_arc hf hv ag;obtain⟨i',ai,aj,ak,hR⟩:=h.root_of hf hk;have:=ab i' ai aj (by rw[ak,k2]);subst this;obtain⟨n,hn,he⟩:=h.arcs.pos_of hi hR;have an:vtA r i' n=v:=by unfold vtA;rw[he,k1,AU]
    obtain⟨p,p1,p2,p3⟩:=ad.down_of (j:=n) oM (by rw[an,ae];exact ag);exact⟨p,oM,oM,p2,by rw[p3,an]⟩
  ·have:=hT.jo (J:=Je es) (fun k hk=>by
    refine⟨oM,edA r i k,?_,?_⟩
    ·have:=ad.mem k hk;unfold Fs at this;have:=(AK.1 this).1;rw[←h.fors.1];exact this
    ·have:=ad.ends k hk;rw[AU];exact this)
   rwa[ae] at this
 ·have hb:Hq b x=[]:=by
   rw[h.ofLab_eq hf];refine List.flatMap_eq_nil_iff.2 fun j hj=>?_;have hj:=A9.1 hj;split
   next h1=>
    split
    next h2=>exact(ah ⟨j,hj,h1,h2⟩).elim
    next=>rfl
   next=>rfl
  refine⟨.nil,by rw[hb];rfl,by simp[Fo.vs],?_,trivial,hx⟩;intro v;simp only[Fo.vs,List.not_mem_nil,false_iff];rintro⟨hv,ag⟩;obtain⟨k,hk,k1,k2⟩:=h.lab_arc hf hv ag;obtain⟨i',ai,aj,ak,_⟩:=h.root_of hf hk;exact ah ⟨i',ai,aj,by rw[ak,k2]⟩
end Av
def vsT (tl:List (Nat×Fo)):List T5:=tl.flatMap fun y=>⟨(y.1:Int),-1,(y.1:Int),-1,((y.2.sz+1:Nat):Int)⟩::trv y.1 0 y.1 y.2
def Cf:List (Nat×Fo)→Fo
 |[]=> .nil
 |y::tl=> .node y.1 y.2 (Cf tl)
theorem Sz (y:Nat×Fo) (tl:List (Nat×Fo)):vsT (y::tl)=⟨(y.1:Int),-1,(y.1:Int),-1,((y.2.sz+1:Nat):Int)⟩::(trv y.1 0 y.1 y.2++vsT tl):=by unfold vsT;rw[BC];rfl
theorem Nj {x:Int}:∀{T:Fo} {p:Nat} {u:Int} {e:T5},e∈trv x p u T→e.c0=x∧(p:Int)≤e.c1∧e.c1<((p+2*T.sz:Nat):Int)
 | .nil,_,_,_,h=>by simp[trv] at h
 | .node v s r,p,u,e,h=>by
  simp only[trv,AN,AR] at h;simp only[Fo.sz];rcases h with rfl|h|rfl|h
  ·refine⟨rfl,oD,oD⟩
  ·have:=Nj h;exact⟨this.1,oM,oM⟩
  ·refine⟨rfl,oD,oD⟩
  ·have:=Nj h;exact⟨this.1,oM,oM⟩
theorem bW {x:Int}:∀{T:Fo} {p:Nat} {u:Int},(trv x p u T).Pairwise fun a b=>ltO o12 a b=true
 | .nil,_,_=> .nil
 | .node v s r,p,u=>by
  simp only[trv,BI,CB,AR,AN];refine⟨?_,bW,⟨?_,bW⟩,?_⟩
  ·rintro e (h|rfl|h)<;>rw[Qm]
   ·have:=Nj h;dsimp only;omega
   ·dsimp only;omega
   ·have:=Nj h;dsimp only;omega
  ·intro e h;have:=Nj h;rw[Qm];dsimp only;omega
  ·rintro a ha e (rfl|h)<;>rw[Qm]<;>have h1:=Nj ha
   ·dsimp only;omega
   ·have:=Nj h;omega
theorem bX:∀{tl:List (Nat×Fo)} {e:T5},e∈vsT tl→∃y∈tl,e.c0=(y.1:Int)
 |[],_,h=>by simp[vsT] at h
 |y::tl,e,h=>by
  rw[Sz] at h;simp only[AN,AR] at h;rcases h with rfl|h|h
  ·exact⟨y,AE,rfl⟩
  ·exact⟨y,AE,(Nj h).1⟩
  ·obtain⟨z,hz,he⟩:=bX h;exact⟨z,AF _ hz,he⟩
theorem kR:∀{tl:List (Nat×Fo)},tl.Pairwise (fun a b=>a.1<b.1)→(vsT tl).Pairwise fun a b=>ltO o12 a b=true
 |[],_=> .nil
 |y::tl,h=>by
  rw[BI] at h;rw[Sz];simp only[BI,CB,AR];refine⟨?_,bW,kR h.2,?_⟩
  ·rintro e (he|he)<;>rw[Qm]
   ·have:=Nj he;dsimp only;omega
   ·obtain⟨z,hz,hq⟩:=bX he;have:=h.1 z hz;dsimp only;omega
  ·intro a ha e he;rw[Qm];obtain⟨z,hz,hq⟩:=bX he;have:=h.1 z hz;have:=Nj ha;omega
theorem kS {α:Type} (a:α→T5) (g:α→List T5):∀l:List α,(l.flatMap fun y=>a y::g y).Perm (l.map a++l.flatMap g)
 |[]=> .refl _
 |y::l=>by rw[BC,BC,AZ,AA,AA];exact(((kS a g l).append_left (g y)).trans (List.perm_append_comm_assoc ..)).cons _
theorem kT (b:List T5):∀{l:List Int},l.Pairwise (·<·)→(l.flatMap (Hq b)).Perm (b.filter fun t=>decide (t.c3∈l))
 |[],_=>by simp
 |y::l,h=>by
  rw[BI] at h;rw[BC];have h1:=List.filter_append_perm (fun t:T5=>decide (t.c3=y)) (b.filter fun t=>decide (t.c3∈y::l));rw[List.filter_filter,List.filter_filter] at h1;refine List.Perm.trans ?_ h1;refine List.Perm.trans ((kT b h.2).append_left _) (DF ?_);unfold Hq;congr 1
  ·refine List.filter_congr fun t _=>?_;by_cases hq:t.c3=y<;>simp[hq]
  ·refine List.filter_congr fun t _=>?_;by_cases hq:t.c3=y
   ·have:¬t.c3∈l:=fun hm=>by have:=h.1 _ hm;omega
    simp[hq] at this⊢;exact this
   ·simp[hq]
theorem bY {x:Int}:∀{T:Fo} {p u:Nat} {d:Int} {n:Nat},-1≤d→d+T.sz≤1000000000→n+T.sz≤1000000000→(Ej 0 0).all (d,(n:Int)) (trv x p u T)=Cc u d n T∧(Ej 0 0).st (d,(n:Int)) (trv x p u T)=(d,((n+T.sz:Nat):Int))
 | .nil,_,_,_,_,_,_,_=>⟨rfl,rfl⟩
 | .node v s r,p,u,d,n,h1,h2,h3=>by
  simp only[Fo.sz] at h2 h3⊢;obtain⟨a1,a2⟩:=bY (x:=x) (T:=s) (p:=p+1) (u:=v) (d:=d+1) (n:=n+1) oM oM oM;obtain⟨b1,b2⟩:=bY (x:=x) (T:=r) (p:=p+2+2*s.sz) (u:=u) (d:=d) (n:=n+1+s.sz) oM oM oM;have e1:AL .i64 (d+1)=d+1:=Ah oM;have e2:AL .i64 ((n:Int)+1)=((n+1:Nat):Int):=Ah oM;have e3:AL .i64 (((n+1:Nat):Int)-1)=(n:Int):=by rw[Ah oM];omega
  have e4:AL .i64 (d+1-1)=d:=by rw[Ah oM];omega
  have v1:¬(v:Int)= -1:=oM;have u1:¬(u:Int)= -1:=oM;have f1:(Ej 0 0).outs (d,(n:Int)) ⟨x,(p:Int),(v:Int),(u:Int),((s.sz+1:Nat):Int)⟩=[⟨(v:Int),(u:Int),(n:Int),((s.sz+1:Nat):Int),d+1⟩]:=by unfold Ej;dsimp only;rw[if_neg v1,if_neg u1,e1,e2,e3]
  have f2:(Ej 0 0).next (d,(n:Int)) ⟨x,(p:Int),(v:Int),(u:Int),((s.sz+1:Nat):Int)⟩=(d+1,((n+1:Nat):Int)):=by unfold Ej;dsimp only;rw[if_neg v1,if_neg u1,e1,e2]
  have g1:∀m q:Int,(Ej 0 0).outs (d+1,m) ⟨x,q,-1,-1,0⟩=[]:=fun m q=>rfl;have g2:∀m q:Int,(Ej 0 0).next (d+1,m) ⟨x,q,-1,-1,0⟩=(d,m):=fun m q=>by unfold Ej;dsimp only;rw[if_pos rfl,e4]
  simp only[trv,Cc,Am.all,Am.st,Am.all_app,Am.st_app,f1,f2,a1,a2,g1,g2,b1,b2,CO,AB];refine⟨trivial,?_⟩;congr 1;omega
theorem bZ:∀{tl:List (Nat×Fo)} {d:Int} {n:Nat},n+(Cf tl).sz≤1000000000→(Ej 0 0).all (d,(n:Int)) (vsT tl)=Cc (-1) (-1) n (Cf tl)
 |[],_,_,_=>rfl
 |y::tl,d,n,h=>by
  simp only[Cf,Fo.sz] at h;obtain⟨a1,a2⟩:=bY (x:=(y.1:Int)) (T:=y.2) (p:=0) (u:=y.1) (d:=0) (n:=n+1) oM oM oM;have b1:=bZ (tl:=tl) (d:=0) (n:=n+1+y.2.sz) oM;have e2:AL .i64 ((n:Int)+1)=((n+1:Nat):Int):=Ah oM;have e3:AL .i64 (((n+1:Nat):Int)-1)=(n:Int):=by rw[Ah oM];omega
  have v1:¬(y.1:Int)= -1:=oM;have f1:(Ej 0 0).outs (d,(n:Int)) ⟨(y.1:Int),-1,(y.1:Int),-1,((y.2.sz+1:Nat):Int)⟩=[⟨(y.1:Int),-1,(n:Int),((y.2.sz+1:Nat):Int),0⟩]:=by unfold Ej;dsimp only;rw[if_neg v1,if_pos rfl,e2,e3]
  have f2:(Ej 0 0).next (d,(n:Int)) ⟨(y.1:Int),-1,(y.1:Int),-1,((y.2.sz+1:Nat):Int)⟩=(0,((n+1:Nat):Int)):=by unfold Ej;dsimp only;rw[if_neg v1,if_pos rfl,e2]
  rw[Sz];simp only[Cf,Cc,Am.all,Am.all_app,f1,f2,a1,a2,b1,CO];rfl
theorem xJ (x:Int):∀(l:List Int) (S:List Nat),S.Nodup→(∀v,v∈S↔l[v]? =some x)→l.count x=S.length:=by
 intro l S hn hS;have h1:S.Perm ((BA l.length).filter fun v=>l[v]? ==some x):=by
  rw[EQ hn (List.nodup_range.sublist List.filter_sublist)];intro v;rw[hS,BV,A9];constructor
  ·intro h;exact⟨(AK.1 h).1,by simp[h]⟩
  ·intro h;simpa using h.2
 rw[h1.length_eq,←List.countP_eq_length_filter];clear h1 hS hn;induction l with
 |nil=>rfl
 |cons a l ih=>
  rw[AJ,List.range_succ_eq_map,List.countP_cons,List.countP_map,List.count_cons,ih];congr 1
theorem xK {l:List (Int×Nat)} {Q:Nat→Fo→Prop} (h:∀y∈l,∃(x:Nat) (T:Fo),y=((x:Int),T.sz+1)∧Q x T):∃tl:List (Nat×Fo),l=tl.map (fun z=>((z.1:Int),z.2.sz+1))∧∀z∈tl,Q z.1 z.2:=by
 induction l with
 |nil=>exact⟨[],rfl,by simp⟩
 |cons y l ih=>
  obtain⟨tl,h1,h2⟩:=ih fun z hz=>h z (AF _ hz);obtain⟨x,T,hy,hq⟩:=h y AE;refine⟨(x,T)::tl,by rw[AZ,←h1,hy],fun z hz=>?_⟩;rcases AN.1 hz with rfl|hz
  ·exact hq
  ·exact h2 z hz
structure Nz (N:Nat) (es:List IE) (lab:List Int) (b:List T5) (tl:List (Nat×Fo)):Prop where
 up:tl.Pairwise fun a b=>a.1<b.1
 tree:∀y∈tl,LabT es lab b y.1 y.2
 all:∀v,v<N→∃y∈tl,lab[v]? =some (y.1:Int)
 len:lab.length=N
theorem Av.tl {N:Nat} {es:List IE} {lab:List Int} {fl:List Bool} {r b:List T5} (h:Av N es lab fl r b) (hf:∀e∈es,inE N e) (hN:N≤1000000):∃tl,Nz N es lab b tl∧Xm (Bb lab) b=vsT tl:=by
 obtain⟨l,hl,ac,ai,aj⟩:=kO (lab:=lab) (fun x hx=>by obtain⟨v,rfl,_⟩:=h.labs.mem hx;omega) (by rw[h.labs.len];exact hN);have aa:∀x:Int,x∈lab→∃v:Nat,x=(v:Int)∧v<N∧lab[v]? =some (v:Int):=fun x hx=>by
  obtain⟨i,hi,rfl⟩:=B0.1 hx;obtain⟨v,h1,h2,h3,_⟩:=h.labs.root (v:=i) (by rw[←h.labs.len];exact hi);have ak:i<N:=by rw[←h.labs.len];exact hi
  have h4:=h.labs.same (u:=v) (v:=i) oM ak h3.symm;rw[AG hi] at h1;exact⟨v,BF h1,oM,by rw[h4,AG hi,h1]⟩
 obtain⟨tl,ht,hQ⟩:=xK (l:=l) (Q:=fun x T=>LabT es lab b x T) (fun y hy=>by
  obtain⟨h1,h2⟩:=ai y hy;obtain⟨v,hv,an,ad⟩:=aa _ h1;obtain⟨T,hT⟩:=h.label_tree hf ad;refine⟨v,T,?_,hT⟩;have hc:=xJ (v:Int) lab (v::T.vs) (CF.2 ⟨fun hm=>((hT.vs v).1 hm).2 rfl,hT.nd⟩) (fun w=>by
   rw[AN,hT.vs w];constructor
   ·rintro(rfl|hw)
    ·exact ad
    ·exact hw.1
   ·intro hw;by_cases hq:w=v
    ·exact .inl hq
    ·exact .inr ⟨hw,hq⟩)
  rw[AJ,T.vs_len] at hc;refine Prod.ext hv ?_;rw[h2,hv,hc])
 have ab:tl.Pairwise fun a b=>a.1<b.1:=by rw[ht,A6] at ac;exact ac.imp fun {a b} ae=>by simpa using ae
 have hO:Nz N es lab b tl:=by
  refine⟨ab,hQ,fun v hv=>?_,h.labs.len⟩;have ag:v<lab.length:=by rw[h.labs.len];exact hv
  obtain⟨x,hx,he⟩:=aj lab[v] (B7 ag);rw[ht] at hx;obtain⟨z,hz,rfl⟩:=AO.1 hx;exact⟨z,hz,by rw[AG ag,←he]⟩
 refine⟨tl,hO,?_⟩;have al:vsT tl=tl.flatMap fun y=>(⟨(y.1:Int),-1,(y.1:Int),-1,((y.2.sz+1:Nat):Int)⟩:T5)::(Hq b y.1).map (Dc b):=by unfold vsT;refine Xo fun y hy=>?_;rw[(hQ y hy).vis]
 refine srtOf ?_ (kR ab);rw[al];refine(kS _ _ tl).trans ?_;rw[hl,ht,CH];refine List.Perm.append (DF (List.map_congr_left fun y _=>rfl)) ?_;refine List.Perm.trans ?_ (h.turns_perm hf hN).symm;rw[show(tl.flatMap fun y=>(Hq b y.1).map (Dc b))=((tl.map fun y=>(y.1:Int)).flatMap (Hq b)).map (Dc b) by rw[List.map_flatMap,List.flatMap_map]];refine List.Perm.map _ ((kT b (by rw[A6];exact ab.imp fun {a b} ae=>by omega)).trans (DF (List.filter_eq_self.2 fun t am=>?_)));obtain⟨i,n,hi,hr,hn,rfl⟩:=h.b_arc am;obtain⟨y,y1,y2,y3,_⟩:=h.lab_at hf (Di (f:=Ay r) Dp hi n);obtain⟨_,_,c1,c2,_⟩:=h.arc_g hf (Di (f:=Ay r) Dp hi n);obtain⟨z,hz,ah⟩:=hO.all (at5 r (itF (Ay r) n i)).c1.toNat oM;refine decide_eq_true (AO.2 ⟨z,hz,?_⟩);show(z.1:Int)=(at5 r (itF (Ay r) n i)).c3;rw[y1];rw[y3] at ah;exact(BF ah).symm
namespace Nz
variable {N:Nat} {es:List IE} {lab:List Int} {b:List T5}
theorem grove_mem:∀{tl:List (Nat×Fo)},(∀y∈tl,LabT es lab b y.1 y.2)→∀v,v∈(Cf tl).vs↔∃y∈tl,lab[v]? =some (y.1:Int)
 |[],_,v=>by simp[Cf,Fo.vs]
 |y::tl,h,v=>by
  have hy:=h y AE;simp only[Cf,Fo.vs,AN,AR,grove_mem (fun z hz=>h z (AF _ hz)) v,hy.vs v];constructor
  ·rintro(rfl|h1|h1)
   ·exact⟨y,.inl rfl,hy.root⟩
   ·exact⟨y,.inl rfl,h1.1⟩
   ·obtain⟨z,hz,h1⟩:=h1;exact⟨z,.inr hz,h1⟩
  ·rintro⟨z,rfl|hz,h1⟩
   ·by_cases hq:v=z.1
    ·exact .inl hq
    ·exact .inr (.inl ⟨h1,hq⟩)
   ·exact .inr (.inr ⟨z,hz,h1⟩)
theorem grove_nodup:∀{tl:List (Nat×Fo)},(∀y∈tl,LabT es lab b y.1 y.2)→tl.Pairwise (fun a b=>a.1<b.1)→(Cf tl).vs.Nodup
 |[],_,_=>by simp[Cf,Fo.vs]
 |y::tl,h,hp=>by
  have hy:=h y AE;rw[BI] at hp;have ht:=fun z hz=>h z (AF y hz);have aa:∀v,lab[v]? =some (y.1:Int)→v∉(Cf tl).vs:=fun v hv hm=>by obtain⟨z,hz,hq⟩:=(grove_mem ht v).1 hm;have:=BF (hv.symm.trans hq);have:=hp.1 z hz;omega
  simp only[Cf,Fo.vs,CF,AR,CC,not_or];refine⟨⟨fun hm=>((hy.vs _).1 hm).2 rfl,aa _ hy.root⟩,hy.nd,grove_nodup ht hp.2,?_⟩;intro a ha c hc ab;subst ab;exact aa a ((hy.vs a).1 ha).1 hc
def Jr (es:List IE) (lab:List Int) (u:Int) (v:Nat):Prop:=Je es u v∨(u= -1∧lab[v]? =some (v:Int))
theorem jo_mono {J J':Int→Nat→Prop} (hJ:∀u v,J u v→J' u v):∀{T:Fo} {u:Int},T.Jo J u→T.Jo J' u
 | .nil,_,_=>trivial
 | .node v s r,u,h=>⟨hJ _ _ h.1,jo_mono hJ h.2.1,jo_mono hJ h.2.2⟩
theorem grove_jo:∀{tl:List (Nat×Fo)},(∀y∈tl,LabT es lab b y.1 y.2)→(Cf tl).Jo (Jr es lab) (-1)
 |[],_=>trivial
 |y::tl,h=>⟨.inr ⟨rfl,(h y AE).root⟩,jo_mono (fun _ _=> .inl) (h y AE).jo,grove_jo fun z hz=>h z (AF _ hz)⟩
variable {tl:List (Nat×Fo)}
theorem vs_perm (h:Nz N es lab b tl):(Cf tl).vs.Perm (BA N):=by
 rw[EQ (grove_nodup h.tree h.up) List.nodup_range];intro v;rw[grove_mem h.tree,A9];constructor
 ·rintro⟨y,_,hv⟩;rw[←h.len];exact(AK.1 hv).1
 ·exact h.all v
theorem sz (h:Nz N es lab b tl):(Cf tl).sz=N:=by rw[←(Cf tl).vs_len,h.vs_perm.length_eq,List.length_range]
end Nz
structure Ao (N:Nat) (es:List IE) (lab:List Int) (b:List T5) (tl:List (Nat×Fo)) (l:List T5):Prop where
 tlo:Nz N es lab b tl
 perm:l.Perm (Cc (-1) (-1) 0 (Cf tl))
 len:l.length=N
 at_:∀v,v<N→(at5 l v).c0=(v:Int)
theorem Av.tab {N:Nat} {es:List IE} {lab:List Int} {fl:List Bool} {r b:List T5} (h:Av N es lab fl r b) (hf:∀e∈es,inE N e) (hN:N≤1000000):∃tl,Xm (Bb lab) b=vsT tl∧Ao N es lab b tl (Ni (Bb lab) b):=by
 obtain⟨tl,hO,hv⟩:=h.tl hf hN;have ad:=hO.sz;have aa:(Ej 0 0).all (0,0) (Xm (Bb lab) b)=Cc (-1) (-1) 0 (Cf tl):=by rw[hv];exact bZ (d:=0) (n:=0) oM
 have hp:(Ni (Bb lab) b).Perm (Cc (-1) (-1) 0 (Cf tl)):=by unfold Ni;rw[aa];exact Bt _
 have ab:(Ni (Bb lab) b).length=N:=by rw[hp.length_eq,bO,ad]
 refine⟨tl,hv,hO,hp,ab,fun v ae=>?_⟩;have h1:(Ni (Bb lab) b).map (·.c0)=(BA N).map fun (v:Nat)=>(v:Int):=by
  refine List.Perm.eq_of_pairwise (le:=fun x y:Int=>x≤y) (fun a b _ _ h1 h2=>by omega) ?_ ?_ ?_
  ·rw[A6];unfold Ni;refine(Lk (Eg o1) false _).imp fun {a b} ac=>?_;have h2:ltO o1 b a=false:=by simpa using ac
   have h3:¬(ltO o1 b a=true):=by rw[h2];decide
   rw[Pb] at h3;omega
  ·rw[A6];exact CV.imp fun {a b} ac=>by omega
  ·refine(hp.map _).trans ?_;rw[Qq];exact hO.vs_perm.map _
 have h2:=congrArg (·[v]?) h1;rw[BH,BH,CK ae,Dy oM] at h2;exact BF h2
namespace Ao
variable {N:Nat} {es:List IE} {lab:List Int} {b:List T5} {tl:List (Nat×Fo)} {l:List T5}
theorem mem (h:Ao N es lab b tl l) {v:Nat} (hv:v<N):at5 l v∈Cc (-1) (-1) 0 (Cf tl):=h.perm.mem_iff.1 (Xf (by rw[h.len];exact hv))
theorem of (h:Ao N es lab b tl l) {e:T5} (he:e∈Cc (-1) (-1) 0 (Cf tl)):∃v,v<N∧e.c0=(v:Int)∧at5 l v=e:=by obtain⟨v,hv,hq⟩:=Xg (h.perm.mem_iff.2 he);rw[h.len] at hv;exact⟨v,hv,by rw[←hq,h.at_ v hv],hq⟩
theorem nodup (h:Ao N es lab b tl l):(Cf tl).vs.Nodup:=Nz.grove_nodup h.tlo.tree h.tlo.up
theorem bnd (h:Ao N es lab b tl l) {v:Nat} (hv:v<N):0≤(at5 l v).c2∧(at5 l v).c2<N∧1≤(at5 l v).c3∧(at5 l v).c2+(at5 l v).c3≤N∧0≤(at5 l v).c4∧(at5 l v).c4<N:=by have:=Nh (h.mem hv);have:=h.tlo.sz;omega
theorem par (h:Ao N es lab b tl l) {v:Nat} (hv:v<N):((at5 l v).c1= -1∧(at5 l v).c4=0∧lab[v]? =some (v:Int))∨ ∃p:Nat,p<N∧(at5 l v).c1=(p:Int)∧(at5 l v).c4=(at5 l p).c4+1∧(at5 l p).c2<(at5 l v).c2∧(at5 l v).c2+(at5 l v).c3≤(at5 l p).c2+(at5 l p).c3∧Jn (gE es) (fun i=>i<es.length) p v:=by
 have hm:=h.mem hv;have hj:=bP (Nz.grove_jo h.tlo.tree) hm;rw[h.at_ v hv,AU] at hj;rcases Xj hm with⟨h1,h2⟩|⟨e',h1,h2,h3,h4,h5⟩
 ·refine .inl ⟨h1,oM,?_⟩;rcases hj with hj|hj
  ·have:=hj.1;omega
  ·exact hj.2
 ·obtain⟨p,hp,hq,he⟩:=h.of h1;subst he;refine .inr ⟨p,hp,oM,h3,h4,h5,?_⟩;rcases hj with hj|hj
  ·have:=hj.2;rwa[show(at5 l v).c1.toNat=p by omega] at this
  ·omega
theorem num_inj (h:Ao N es lab b tl l) {u v:Nat} (hu:u<N) (hv:v<N) (he:(at5 l u).c2=(at5 l v).c2):u=v:=by
 have hn:((Cc (-1) (-1) 0 (Cf tl)).map (·.c2)).Nodup:=by rw[Xi];refine List.Pairwise.map _ (fun a b aa=>?_) (List.nodup_range' (step:=1));exact fun hq=>aa oM
 have:=Xn hn (h.mem hu) (h.mem hv) he;have:=congrArg T5.c0 this;rw[h.at_ u hu,h.at_ v hv] at this;omega
theorem way (h:Ao N es lab b tl l) {v:Nat} (hv:v<N):∃c,(at5 l v,c)∈chF (-1) [] (-1) 0 (Cf tl)∧Way (fun x=>(at5 l x.toNat).c1) v c∧(c.length:Int)=(at5 l v).c4+1∧∀u,u<N→((u:Int)∈c↔(at5 l u).c2≤(at5 l v).c2∧(at5 l v).c2<(at5 l u).c2+(at5 l u).c3):=by
 obtain⟨c,hc⟩:=chF_of [] (h.mem hv);refine⟨c,hc,?_,?_,?_⟩
 ·have:=bR (par:=fun x=>(at5 l x.toNat).c1) (fun e he=>by
   obtain⟨w,hw,hq,he⟩:=h.of he;rw[hq,AU,he]) (.top oA18) _ hc
  rw[h.at_ v hv] at this;exact this
 ·have:=(Qr hc).2.2;simp only[AS] at this;omega
 ·intro u hu;have:=bS h.nodup oA19 _ hc _ (h.mem hu);rw[h.at_ u hu] at this;exact this
end Ao
theorem Ao.below {N:Nat} {es:List IE} {lab:List Int} {b:List T5} {tl:List (Nat×Fo)} {l:List T5} (h:Ao N es lab b tl l) {v:Nat} (hv:v<N):∃c,Way (fun x=>(at5 l x.toNat).c1) v c∧c.length≤N∧(∀w∈c,w<(N:Int))∧∀u,u<N→((u:Int)∈c↔(at5 l u).c2≤(at5 l v).c2∧(at5 l v).c2<(at5 l u).c2+(at5 l u).c3):=by
 obtain⟨c,h1,h2,h3,h4⟩:=h.way hv;have hb:=h.bnd hv;refine⟨c,h2,oM,fun w hw=>?_,h4⟩;rcases(Qr h1).2.1 w hw with h5|⟨y,hy,rfl⟩
 ·simp at h5
 ·have:=A9.1 (h.tlo.vs_perm.mem_iff.1 hy);omega
theorem xL {N:Nat} {es:List IE} {lab:List Int} {b:List T5} {tl:List (Nat×Fo)} {l:List T5} (hT:Ao N es lab b tl l) {v:Nat} (hv:v<N) (f:T5→Int):Jm (fun e=>decide (e.c0=(v:Int))) f l=f (at5 l v):=by
 have hl:=hT.len;have e1:l=l.take v++at5 l v::l.drop (v+1):=by have:=BM (l:=l) (i:=v) oM;have h2:=Dy (r:=l) (k:=v) oM;rw[AG oM] at h2;rw[←BF h2,←this,BT]
 have aa:∀i,i<N→i≠v→decide ((at5 l i).c0=(v:Int))=false:=fun i hi ab=>decide_eq_false (by rw[hT.at_ i hi];omega);rw[e1,kI,Pj,bQ (l:=l.take v),bQ (l:=l.drop (v+1)),decide_eq_true (hT.at_ v hv),if_pos rfl]
 ·rw[←e1];omega
 ·intro e he;obtain⟨i,hi,rfl⟩:=B0.1 he;rw[List.length_drop] at hi;have h2:=Dy (r:=l) (k:=v+1+i) oM;rw[AG oM] at h2;rw[List.getElem_drop,BF h2];exact aa _ oM oM
 ·intro e he;obtain⟨i,hi,rfl⟩:=B0.1 he;rw[BQ] at hi;have h2:=Dy (r:=l) (k:=i) oM;rw[AG oM] at h2;rw[List.getElem_take,BF h2];exact aa _ oM oM
def Kv (b:List T5) (i:Nat):Bool:=(b.take i).any fun t=>decide (t.c2=(at5 b i).c2)
namespace Av
variable {N:Nat} {es:List IE} {lab:List Int} {fl:List Bool} {r b:List T5}
theorem b_order (h:Av N es lab fl r b) (hf:∀e∈es,inE N e):b.Pairwise fun a c=>a.c3=c.c3→a.c4<c.c4:=by
 rw[h.tours];unfold Ke Gx;rw[List.pairwise_flatMap];refine⟨fun i hi=>?_,?_⟩
 ·split
  ·unfold Ls;rw[A6];exact CV.imp fun {a c} ab _=>by show((a:Nat):Int)<((c:Nat):Int);omega
  ·exact .nil
 ·refine EA (fun {i j} hi hj aa=>?_) CV;have hi:=A9.1 hi;have hj:=A9.1 hj;intro a ha c hc he;split at ha
  next hri=>
   split at hc
   next hrj=>
    obtain⟨n,_,rfl⟩:=AO.1 ha;obtain⟨m,_,rfl⟩:=AO.1 hc;refine(h.arcs.root_uniq aa hj hri hrj ?_).elim;rw[←h.arcs.it_lab (h.hl hf) hi n,←h.arcs.it_lab (h.hl hf) hj m];exact he
   next=>simp at hc
  next=>simp at ha
theorem vis_seen (h:Av N es lab fl r b) (hf:∀e∈es,inE N e) {p:Nat} {t:T5} (hp:b[p]? =some t):((Dc b t).c2= -1∧(Kv b p=true∨t.c2=t.c3))∨((Dc b t).c2=t.c2∧(Dc b t).c3=t.c1∧Kv b p=false∧t.c2≠t.c3∧t.c2≠-1):=by
 have ae:=(AK.1 hp).1;have ak:at5 b p=t:=by have:=Dy ae;rw[hp] at this;exact(BF this).symm
 obtain⟨i,n,hi,hr,hn,rfl⟩:=h.b_arc (A0 hp);have ah:=h.tw hf hi;have aa:=hr;unfold Fc at aa;obtain⟨aa,_⟩:=of_decide_eq_true aa;have e3:∀{i:Nat},i<r.length→∀m,(Dq r i m).c3=(at5 r i).c3:=fun hi m=>h.arcs.it_lab (h.hl hf) hi m;have e2:∀{i:Nat},i<r.length→∀m,(Dq r i m).c2=(vtA r i (m+1):Int):=fun {i} hi m=>by obtain⟨_,_,_,_,c2,_⟩:=h.arc_g hf (Di (f:=Ay r) Dp hi m);rw[h.vt_succ hi];show(at5 r (itF (Ay r) m i)).c2=_;omega
 have e1:(Dq r i n).c1=(vtA r i n:Int):=by obtain⟨_,_,c1,_⟩:=h.arc_g hf (Di (f:=Ay r) Dp hi n);unfold vtA;show(at5 r (itF (Ay r) n i)).c1=_;omega
 have al:(vtA r i 0:Int)=(at5 r i).c3:=by obtain⟨_,_,c1,_⟩:=h.arc_g hf hi;show((at5 r i).c1.toNat:Int)=_;omega
 have hl:∀{i:Nat} (m:Nat),i<r.length→∃x:Nat,(at5 r i).c3=x∧lab[vtA r i m]? =some (x:Int):=fun {i} m hi=>by obtain⟨y,y1,_,y2,_⟩:=h.lab_at hf (Di (f:=Ay r) Dp hi m);rw[h.arcs.it_lab (h.hl hf) hi] at y1;exact⟨y,y1,y2⟩
 have ag:=BB.1 (h.b_order hf);have ai:b[p]=Dq r i n:=by have:=AG ae;rw[hp] at this;exact(BF this).symm
 rw[h.vis_at hf hi hr];by_cases hd:n<Hn r i n
 ·right;rw[if_pos hd];refine⟨(e2 hi n).symm,e1.symm,?_,?_,by rw[e2 hi];omega⟩
  ·unfold Kv;rw[List.any_eq_false];intro u hu;obtain⟨q,hq,ab⟩:=B0.1 hu;rw[BQ] at hq;rw[List.getElem_take] at ab;simp only[decide_eq_true_eq];intro hc;rw[ak] at hc;obtain⟨i',n',aj,am,av,rfl⟩:=h.b_arc (List.mem_of_mem_take hu);rw[e2 hi,e2 aj] at hc;have an:vtA r i' (n'+1)=vtA r i (n+1):=oM;obtain⟨x,x1,x2⟩:=hl (n'+1) aj;obtain⟨y,y1,y2⟩:=hl (n+1) hi;rw[an,y2] at x2;have ao:=BF x2;have ac:(at5 r i').c3=(at5 r i).c3:=by rw[x1,y1,ao]
   have aq:i'=i:=by
    rcases B5 i' i with h1|h1|h1
    ·exact(h.arcs.root_uniq h1 hi am hr ac).elim
    ·exact h1
    ·exact(h.arcs.root_uniq h1 aj hr am ac.symm).elim
   subst aq;have h1:=ag q p oM ae oM;rw[ab,ai,e3 hi,e3 hi] at h1;have h2:((n':Nat):Int)<((n:Nat):Int):=h1 rfl;exact ah.first hn hd (j:=n'+1) oM an
  ·rw[e2 hi,e3 hi,←al];intro hq;exact ah.first hn hd (AT n) oM
 ·left;rw[if_neg hd];refine⟨rfl,?_⟩;obtain⟨j,hj,ad⟩:=ah.again hn hd
  match j,hj,ad with
  |0,hj,ad=>
   right;rw[e2 hi,e3 hi,←al,ad]
  |j+1,hj,ad=>
   left;unfold Kv;rw[List.any_eq_true];refine⟨Dq r i j,?_,decide_eq_true ?_⟩
   ·obtain⟨q,hq,ab⟩:=B0.1 (h.arc_b hi hr (show j<Ca r i by omega));have au:q<p:=by
     rcases B5 q p with h1|h1|h1
     ·exact h1
     ·exfalso;subst h1;rw[ai] at ab;have h2:((n:Nat):Int)=((j:Nat):Int):=congrArg T5.c4 ab;omega
     ·exfalso;have h2:=ag p q ae hq h1;rw[ab,ai,e3 hi,e3 hi] at h2;have h3:((n:Nat):Int)<((j:Nat):Int):=h2 rfl;omega
    refine A0 (i:=q) ?_;rw[BY,if_pos au,AG hq,ab]
   ·rw[ak,e2 hi,e2 hi,ad]
end Av
def Es (P:List T5):Nat:=((Ej 0 0).all (0,0) P).length
theorem xM {P:List T5} {v:T5} (h:v.c2= -1):Es (P++[v])=Es P:=by
 unfold Es;rw[Am.all_app,AH];simp only[Am.all];have:(Ej 0 0).outs ((Ej 0 0).st (0,0) P) v=[]:=by unfold Ej;dsimp only;rw[if_pos h]
 rw[this];rfl
theorem kU {P Q:List T5} {v:T5} (h:v.c2≠-1):Es (P++[v])=Es P+1∧∃e,((Ej 0 0).all (0,0) (P++v::Q))[Es P]? =some e∧e.c0=v.c2∧e.c1=v.c3:=by
 have ho:∃e,(Ej 0 0).outs ((Ej 0 0).st (0,0) P) v=[e]∧e.c0=v.c2∧e.c1=v.c3:=by unfold Ej;dsimp only;rw[if_neg h];exact⟨_,rfl,rfl,rfl⟩
 obtain⟨e,he,h1,h2⟩:=ho;refine⟨?_,e,?_,h1,h2⟩
 ·unfold Es;rw[Am.all_app,AH];simp only[Am.all];rw[he];rfl
 ·unfold Es;rw[Am.all_app,BE (AI _),DS];simp only[Am.all];rw[he];rfl
structure Wrt (N:Nat) (L:List T5) (k:Nat) (o:List T5):Prop where
 len:o.length=N
 got:∀j e,j<k→L[j]? =some e→o[e.c0.toNat]? =some {e with c3:=0}
def Et (tl:List (Nat×Fo)):List T5:=Cc (-1) (-1) 0 (Cf tl)
namespace Ao
variable {N:Nat} {es:List IE} {lab:List Int} {b:List T5} {tl:List (Nat×Fo)} {l:List T5}
theorem tabL_len (h:Ao N es lab b tl l):(Et tl).length=N:=by unfold Et;rw[bO,h.tlo.sz]
theorem tab_c2 {k:Nat} {e:T5} (hk:(Et tl)[k]? =some e):e.c2=(k:Int):=by
 have h1:=congrArg (·[k]?) (Xi (Cf tl) (-1) (-1) 0);unfold Et at hk;simp only[BH,hk,DN] at h1;have aa:k<(Cf tl).sz:=by rw[←bO (Cf tl) (-1) (-1) 0];exact(AK.1 hk).1
 rw[List.getElem?_range' oM] at h1;simp only[DN,BG] at h1;omega
theorem entry (h:Ao N es lab b tl l) {k:Nat} {e:T5} (hk:(Et tl)[k]? =some e):k<N∧e.c2=(k:Int)∧∃v,v<N∧e.c0=(v:Int)∧at5 l v=e∧((e.c1= -1∧e.c4=0)∨∃j e',j<k∧(Et tl)[j]? =some e'∧e'.c0=e.c1∧e.c4=e'.c4+1):=by
 have aa:k<N:=by rw[←h.tabL_len];exact(AK.1 hk).1
 have hm:=A0 hk;have hc:=tab_c2 hk;obtain⟨v,hv,h1,h2⟩:=h.of hm;refine⟨aa,hc,v,hv,h1,h2,?_⟩;rcases Xj hm with⟨h3,h4⟩|⟨e',h3,h4,h5,h6,_⟩
 ·exact .inl ⟨h3,oM⟩
 ·obtain⟨j,hj⟩:=DA.1 h3;have ab:=tab_c2 (tl:=tl) hj;exact .inr ⟨j,e',oM,hj,h4,h5⟩
theorem c0inj (h:Ao N es lab b tl l) {j k:Nat} {e e':T5} (hj:(Et tl)[j]? =some e') (hk:(Et tl)[k]? =some e) (hq:e'.c0=e.c0):j=k:=by
 obtain⟨_,c1,v,_,v1,v2,_⟩:=h.entry hj;obtain⟨_,d1,w,_,w1,w2,_⟩:=h.entry hk;obtain rfl:v=w:=by omega
 rw[v2] at w2;subst w2;omega
theorem wstart (N:Nat) (tl:List (Nat×Fo)):Wrt N (Et tl) 0 (BX N T5.zero):=⟨by simp,fun j e hj=>by omega⟩
theorem wstep (h:Ao N es lab b tl l) {k:Nat} {o:List T5} {e:T5} (hw:Wrt N (Et tl) k o) (hk:(Et tl)[k]? =some e):Wrt N (Et tl) (k+1) (o.set e.c0.toNat {e with c3:=0}):=by
 obtain⟨_,_,v,hv,h1,_⟩:=h.entry hk;refine⟨by rw[DE];exact hw.len,fun j e' hj aa=>?_⟩;by_cases ab:j=k
 ·subst ab;rw[hk] at aa;obtain rfl:=BF aa;rw[DK (by rw[hw.len];omega)]
 ·have ac:e.c0.toNat≠e'.c0.toNat:=fun hq=>by obtain⟨_,_,w,_,w1,_⟩:=h.entry aa;rw[h1,w1,AU,AU] at hq;exact ab (h.c0inj aa hk (by rw[h1,w1,hq]))
  rw[CW ac];exact hw.got j e' oM aa
def outC (N:Nat) (l:List T5) (dn:List Int):List T5:=(BA N).map fun w=>{at5 l w with c3:=(dn.count (w:Int):Int)}
theorem outC_get {dn:List Int} {v:Nat} (hv:v<N):(outC N l dn)[v]? =some {at5 l v with c3:=(dn.count (v:Int):Int)}:=by unfold outC;rw[BH,CK hv];rfl
theorem wend (h:Ao N es lab b tl l) {o:List T5} (hw:Wrt N (Et tl) N o):o=outC N l []:=by
 apply DI;intro v;by_cases hv:v<N
 ·rw[outC_get hv];obtain⟨j,hj⟩:=DA.1 (h.mem hv);obtain⟨aa,_⟩:=h.entry hj;have:=hw.got j _ aa hj;have h0:=h.at_ v hv;rw[show(at5 l v).c0.toNat=v by omega] at this;exact this
 ·rw[BW (by rw[hw.len];omega),BW (by unfold outC;simp;omega)]
theorem outC_set {dn:List Int} {v:Nat} (hv:v<N) {x:Int} (hx:x=(dn.count (v:Int):Int)+1):(outC N l dn).set v {at5 l v with c3:=x}=outC N l ((v:Int)::dn):=by
 apply DI;intro w;by_cases hw:w<N
 ·rw[outC_get hw];by_cases hq:v=w
  ·subst hq;rw[DK (by unfold outC;simpa using hv),List.count_cons_self,hx];congr 1
  ·rw[CW hq,outC_get hw,List.count_cons_of_ne oM]
 ·rw[BW (by rw[DE];unfold outC;simp;omega),BW (by unfold outC;simp;omega)]
def wayF (tl:List (Nat×Fo)) (v:Nat):List Int:=(((chF (-1) [] (-1) 0 (Cf tl)).find? fun x=>decide (x.1.c0=(v:Int))).map (·.2)).getD []
theorem chF_nd:∀{T:Fo} {u:Int} {up:List Int} {d:Int} {n:Nat},T.vs.Nodup→(∀v∈T.vs,(v:Int)∉up)→up.Nodup→∀x∈chF u up d n T,x.2.Nodup
 | .nil,_,_,_,_,_,_,_,x,h=>by simp[chF] at h
 | .node v s r,u,up,d,n,hn,hu,hup,x,h=>by
  simp only[Fo.vs,CF,AR,CC,not_or] at hn;obtain⟨⟨ab,ae⟩,ac,ad,_⟩:=hn;simp only[Fo.vs,AN,AR] at hu;simp only[chF,AN,AR] at h;have aa:((v:Int)::up).Nodup:=CF.2 ⟨hu v (.inl rfl),hup⟩;rcases h with rfl|h|h
  ·exact aa
  ·refine chF_nd ac (fun y hy hq=>?_) aa x h;rcases AN.1 hq with h1|h1
   ·exact ab (by rw[show v=y by omega];exact hy)
   ·exact hu y (.inr (.inl hy)) h1
  ·exact chF_nd ad (fun y hy=>hu y (.inr (.inr hy))) hup x h
theorem way_mem (h:Ao N es lab b tl l) {v:Nat} (hv:v<N):(at5 l v,wayF tl v)∈chF (-1) [] (-1) 0 (Cf tl):=by
 obtain⟨c,hc,_⟩:=h.way hv;unfold wayF;cases hf:(chF (-1) [] (-1) 0 (Cf tl)).find? fun x=>decide (x.1.c0=(v:Int)) with
 |none=>
  rw[List.find?_eq_none] at hf;exact(hf _ hc (by simp[h.at_ v hv])).elim
 |some x=>
  have h1:x.1.c0=(v:Int):=by simpa using List.find?_some hf
  have h2:=List.mem_of_find?_eq_some hf;obtain⟨w,hw,h3,h4⟩:=h.of (Xk h2);obtain rfl:w=v:=by omega
  rw[h4];exact h2
theorem ch_inj (h:Ao N es lab b tl l) {x y:T5×List Int} (hx:x∈chF (-1) [] (-1) 0 (Cf tl)) (hy:y∈chF (-1) [] (-1) 0 (Cf tl)) (he:x.1.c0=y.1.c0):x=y:=by
 have hn:((chF (-1) [] (-1) 0 (Cf tl)).map fun x=>x.1.c0).Nodup:=by have h1:=congrArg (List.map fun t:T5=>t.c0) (Sx (Cf tl) (-1) [] (-1) 0);rw[Qq,CH] at h1;rw[show(fun x:T5×List Int=>x.1.c0)=(fun t:T5=>t.c0)∘(fun x:T5×List Int=>x.1) from rfl,h1];exact List.Pairwise.map _ (fun a c aa=>fun hq=>aa oM) h.nodup
 exact Xn hn hx hy he
theorem way_is (h:Ao N es lab b tl l) {v:Nat} (hv:v<N):Way (fun x=>(at5 l x.toNat).c1) v (wayF tl v)∧(wayF tl v).length≤N∧(∀w∈wayF tl v,w<(N:Int))∧(wayF tl v).Nodup:=by
 obtain⟨c,h1,h2,h3,_⟩:=h.way hv;have h5:=h.ch_inj h1 (h.way_mem hv) rfl;have hb:=h.bnd hv;obtain rfl:c=wayF tl v:=congrArg Prod.snd h5;refine⟨h2,oM,fun w hw=>?_,chF_nd h.nodup oA19 .nil _ h1⟩;rcases(Qr h1).2.1 w hw with h5|⟨y,hy,rfl⟩
 ·simp at h5
 ·have:=A9.1 (h.tlo.vs_perm.mem_iff.1 hy);omega
theorem count_flat {α:Type} {f:α→List Int} (w:Int):∀{l:List α},(∀x∈l,(f x).Nodup)→(l.flatMap f).count w=l.countP fun x=>decide (w∈f x)
 |[],_=>rfl
 |x::l,h=>by
  have h1:=h x AE;rw[BC,List.count_append,List.countP_cons,count_flat w fun y hy=>h y (AF _ hy)];by_cases hw:w∈f x
  ·rw[h1.count,if_pos hw];simp[hw];omega
  ·rw[h1.count,if_neg hw];simp[hw]
theorem way_count (h:Ao N es lab b tl l) {v:Nat} (hv:v<N):((((BA N).flatMap (wayF tl)).count (v:Int):Nat):Int)=(at5 l v).c3:=by
 have hp:(chF (-1) [] (-1) 0 (Cf tl)).Perm ((BA N).map fun v=>(at5 l v,wayF tl v)):=by
  have hn:(chF (-1) [] (-1) 0 (Cf tl)).Nodup:=by
   have:((chF (-1) [] (-1) 0 (Cf tl)).map fun x=>x.1.c0).Nodup:=by have h1:=congrArg (List.map fun t:T5=>t.c0) (Sx (Cf tl) (-1) [] (-1) 0);rw[Qq,CH] at h1;rw[show(fun x:T5×List Int=>x.1.c0)=(fun t:T5=>t.c0)∘(fun x:T5×List Int=>x.1) from rfl,h1];exact List.Pairwise.map _ (fun a c aa=>fun hq=>aa oM) h.nodup
   exact(A6.1 this).imp fun {a c} aa=>fun hq=>aa (by rw[hq])
  have ab:((BA N).map fun v=>(at5 l v,wayF tl v)).Nodup:=by refine A6.2 (EA (fun {a c} ha hc aa=>?_) List.nodup_range);intro hq;have h1:=congrArg (fun x:T5×List Int=>x.1.c0) hq;dsimp only at h1;rw[h.at_ a (A9.1 ha),h.at_ c (A9.1 hc)] at h1;exact aa oM
  rw[EQ hn ab];intro x;rw[AO];constructor
  ·intro hx;obtain⟨w,hw,h3,_⟩:=h.of (Xk hx);exact⟨w,A9.2 hw,h.ch_inj (h.way_mem hw) hx (by rw[h.at_ w hw,h3])⟩
  ·rintro⟨w,hw,rfl⟩;exact h.way_mem (A9.1 hw)
 rw[count_flat _ fun x hx=>(h.way_is (A9.1 hx)).2.2.2];have h1:=bT (v:Int) (T:=Cf tl) (u:= -1) (up:=[]) (d:= -1) (n:=0) h.nodup;rw[if_neg oA19,←xF _ _ h.perm,xL h hv] at h1;rw[←h1,hp.countP_eq,List.countP_map];rfl
theorem outC_end (h:Ao N es lab b tl l) {dn:List Int} (hd:dn.Perm ((BA N).flatMap (wayF tl))):outC N l dn=l:=by
 apply DI;intro v;by_cases hv:v<N
 ·rw[outC_get hv,hd.count_eq,h.way_count hv,Dy (by rw[h.len];exact hv)]
 ·rw[BW (by unfold outC;simp;omega),BW (by rw[h.len];omega)]
theorem flat_le (f:Nat→List Int) (m:Nat):∀n,(∀v,v<n→(f v).length≤m)→((BA n).flatMap f).length≤n*m
 |0,_=>by simp
 |n+1,h=>by have h1:=h n (Nat.lt_succ_self n);have h2:=flat_le f m n fun v hv=>h v oM;rw[DT,B9,AH,Nat.succ_mul];simp only[BC,List.flatMap_nil,AP];omega
end Ao
theorem Uu {es:List IE} {fl:List Bool} {t:T5}:t∈Ba (edT es) fl↔∃(i:Nat) (e:IE),es[i]? =some e∧fl[i]? =some true∧t=⟨(i:Int),e.1,e.2,0,0⟩:=by
 unfold Ba;constructor
 ·intro h;obtain⟨⟨u,b⟩,hx,he⟩:=List.mem_filterMap.1 h;obtain⟨i,hi⟩:=DA.1 hx;rw[DR] at hi;obtain⟨h1,h2⟩:=hi;dsimp only at he h1 h2;split at he
  case isTrue hb=>
   subst hb;have hl:=(AK.1 h1).1;rw[Mm] at hl;have aa:es[i]? =some es[i]:=AG hl;rw[Mo aa] at h1;obtain rfl:=BF h1;exact⟨i,es[i],aa,h2,(BF he).symm⟩
  case isFalse=>cases he
 ·rintro⟨i,e,h1,h2,rfl⟩;refine List.mem_filterMap.2 ⟨(⟨(i:Int),e.1,e.2,0,0⟩,true),?_,rfl⟩;refine A0 (i:=i) ?_;rw[DR];exact⟨Mo h1,h2⟩
theorem kV (es:List IE) (fl:List Bool):(Ba (edT es) fl).Pairwise fun a c=>a.c0<c.c0:=by
 have h1:((edT es).map (·.c0)).Pairwise (·<·):=by rw[A6];exact Pi es
 have h2:=h1.sublist (Qp (edT es) fl);rwa[A6] at h2
def Adj (es:List IE) (fl:List Bool) (u w:Nat):Prop:=∃(i:Nat) (e:IE),es[i]? =some e∧fl[i]? =some false∧((e.1=(u:Int)∧e.2=(w:Int))∨(e.1=(w:Int)∧e.2=(u:Int)))
def Sub (l:List T5) (v u:Nat):Prop:=(at5 l v).c2≤(at5 l u).c2∧(at5 l u).c2<(at5 l v).c2+(at5 l v).c3
def Out (N:Nat) (es:List IE) (fl:List Bool) (l:List T5) (v:Nat) (x:Int):Prop:=∃u,u<N∧Sub l v u∧(x=(at5 l u).c2∨∃w,w<N∧Adj es fl u w∧x=(at5 l w).c2)
def Ta (N:Nat) (es:List IE) (fl:List Bool) (l:List T5) (v:Nat) (x:Int):Prop:=Out N es fl l v x∧∀y,Out N es fl l v y→x≤y
def Tc (N:Nat) (es:List IE) (fl:List Bool) (l:List T5) (v:Nat) (x:Int):Prop:=Out N es fl l v x∧∀y,Out N es fl l v y→y≤x
structure Ix (N:Nat) (es:List IE) (fl:List Bool) (l o:List T5):Prop where
 len:o.length=N
 at_:∀v,v<N→∃lo hi,o[(at5 l v).c2.toNat]? =some ⟨(at5 l v).c2,lo,hi,0,0⟩∧Ta N es fl l v lo∧Tc N es fl l v hi
namespace Ao
variable {N:Nat} {es:List IE} {lab:List Int} {fl:List Bool} {r b:List T5} {tl:List (Nat×Fo)} {l:List T5}
theorem mem_l (h:Ao N es lab b tl l) {t:T5}:t∈l↔∃v,v<N∧at5 l v=t:=by
 constructor
 ·intro ht;obtain⟨k,hk,e⟩:=Xg ht;exact⟨k,by rw[←h.len];exact hk,e⟩
 ·rintro⟨v,hv,rfl⟩;exact Xf (by rw[h.len];exact hv)
theorem rise (h:Ao N es lab b tl l):l.Pairwise fun a c=>a.c0<c.c0:=by rw[BB];intro i j hi hj aa;have e1:=Dy (r:=l) hi;have e2:=Dy (r:=l) hj;rw[AG hi] at e1;rw[AG hj] at e2;rw[BF e1,BF e2,h.at_ i (by rw[←h.len];exact hi),h.at_ j (by rw[←h.len];exact hj)];omega
theorem surj (h:Ao N es lab b tl l) {k:Nat} (hk:k<N):∃v,v<N∧(at5 l v).c2=(k:Int):=by have hl:=h.tabL_len;have hg:(Et tl)[k]? =some ((Et tl)[k]' oM):=AG oM;obtain⟨_,h2,v,hv,_,he,_⟩:=h.entry hg;exact⟨v,hv,by rw[he];exact h2⟩
theorem okT (h:Ao N es lab b tl l) (hN:N≤1000000):∀t∈l,okT 5 t:=by
 intro t ht;obtain⟨v,hv,rfl⟩:=h.mem_l.1 ht;obtain⟨h1,h2,h3,h4,h5,h6⟩:=h.bnd hv;have h0:=h.at_ v hv;have hp: -1≤(at5 l v).c1∧(at5 l v).c1<N:=by
  rcases h.par hv with⟨h7,_⟩|⟨u,h7⟩
  ·omega
  ·omega
 generalize at5 l v=t at h1 h2 h3 h4 h5 h6 h0 hp⊢;obtain⟨c0,c1,c2,c3,c4⟩:=t;dsimp only at h1 h2 h3 h4 h5 h6 h0 hp;exact okT5 ⟨oM,oM⟩ ⟨oM,oM⟩ ⟨oM,oM⟩ ⟨oM,oM⟩ ⟨oM,oM⟩
theorem look (h:Ao N es lab b tl l) {v:Nat} (hv:v<N) (c:Nat):lkV l (v:Int) c=(at5 l v).col c:=Jj h.rise (h.mem_l.2 ⟨v,hv,rfl⟩) (h.at_ v hv)
end Ao
section
variable {N:Nat} {es:List IE} {lab:List Int} {fl:List Bool} {b:List T5} {tl:List (Nat×Fo)} {l:List T5}
theorem cA (hT:Ao N es lab b tl l) (hf:∀e∈es,inE N e) (ae:fl.length=es.length) {z:T5}:z∈Gp l (Ba (edT es) fl) (edT es)↔∃(i:Nat) (e:IE),es[i]? =some e∧fl[i]? =some false∧e.1≠e.2∧z=⟨(i:Int),(at5 l e.1.toNat).c2,(at5 l e.2.toNat).c2,0,0⟩:=by
 have ac:∀(i:Nat) (e:IE),es[i]? =some e→∃bb,fl[i]? =some bb∧lkV ((Ba (edT es) fl).map fun t=>⟨t.c0,1,0,0,0⟩) (i:Int) 1=if bb then 1 else-1:=by
  intro i e he;have hi:=(AK.1 he).1;have hb:fl[i]? =some fl[i]:=AG oM;refine⟨_,hb,?_⟩;cases hbb:fl[i] with
  |true=>
   rw[hbb] at hb;rw[Jj (t:=⟨(i:Int),1,0,0,0⟩) (by rw[A6];exact kV es fl) (AO.2 ⟨_,Uu.2 ⟨i,e,he,hb,rfl⟩,rfl⟩) rfl];rfl
  |false=>
   rw[hbb] at hb;rw[Sr]
   ·rfl
   ·intro u hu hc;obtain⟨t,ht,rfl⟩:=AO.1 hu;obtain⟨j,e',_,h2,rfl⟩:=Uu.1 ht;dsimp only at hc;obtain rfl:j=i:=by omega
    rw[hb] at h2;cases h2
 have ab:∀y:T5,y∈Hl (Ba (edT es) fl) (edT es)↔∃(i:Nat) (e:IE),es[i]? =some e∧fl[i]? =some false∧e.1≠e.2∧y=⟨(i:Int),e.1,e.2,0,0⟩:=by
  intro y;unfold Hl Mk;rw[BZ];constructor
  ·rintro⟨x,hx,hy⟩;obtain⟨t,ht,rfl⟩:=AO.1 hx;obtain⟨i,e,he,rfl⟩:=Qo ht;obtain⟨bb,hbb,hk⟩:=ac i e he;rw[show Bf ((Ba (edT es) fl).map fun t=>⟨t.c0,1,0,0,0⟩) 0 1 3 (⟨(i:Int),e.1,e.2,0,0⟩:T5)=⟨(i:Int),e.1,e.2,lkV ((Ba (edT es) fl).map fun t=>⟨t.c0,1,0,0,0⟩) (i:Int) 1,0⟩ from rfl,hk] at hy;cases bb with
   |true=>simp[Ii] at hy
   |false=>
    unfold Ii at hy;dsimp only at hy;rw[if_neg oA18] at hy;split at hy
    ·cases hy
    ·rename_i aa;rw[AX] at hy;exact⟨i,e,he,hbb,aa,hy⟩
  ·rintro⟨i,e,he,hb,aa,rfl⟩;obtain⟨bb,hbb,hk⟩:=ac i e he;rw[hb] at hbb;obtain rfl:=BF hbb;refine⟨_,AO.2 ⟨_,A0 (Mo he),rfl⟩,?_⟩;rw[show Bf ((Ba (edT es) fl).map fun t=>⟨t.c0,1,0,0,0⟩) 0 1 3 (⟨(i:Int),e.1,e.2,0,0⟩:T5)=⟨(i:Int),e.1,e.2,lkV ((Ba (edT es) fl).map fun t=>⟨t.c0,1,0,0,0⟩) (i:Int) 1,0⟩ from rfl,hk];unfold Ii;dsimp only;rw[if_neg oA18,if_neg aa,AX]
 have ad:∀(i:Nat) (e:IE),es[i]? =some e→∃u w:Nat,u<N∧w<N∧e=((u:Int),(w:Int)):=by intro i e he;have:=hf e (A0 he);obtain⟨e1,e2⟩:=e;unfold inE at this;exact⟨e1.toNat,e2.toNat,oM,oM,by simp only[Prod.mk.injEq];omega⟩
 unfold Gp;rw[(Xa _ _ _ _).mem_iff,AO];have h1:∀x,x∈Cj 2 1 l (Hl (Ba (edT es) fl) (edT es))↔∃y∈Hl (Ba (edT es) fl) (edT es),Bf l 1 2 1 y=x:=fun x=>by rw[(Xa _ _ _ _).mem_iff,AO]
 constructor
 ·rintro⟨x,hx,rfl⟩;obtain⟨y,hy,rfl⟩:=(h1 x).1 hx;obtain⟨i,e,he,hb,aa,rfl⟩:=(ab y).1 hy;obtain⟨u,w,hu,hw,rfl⟩:=ad i e he;refine⟨i,_,he,hb,aa,?_⟩;show(⟨(i:Int),lkV l (u:Int) 2,lkV l (w:Int) 2,0,0⟩:T5)=_;rw[hT.look hu,hT.look hw,AU,AU];rfl
 ·rintro⟨i,e,he,hb,aa,rfl⟩;obtain⟨u,w,hu,hw,rfl⟩:=ad i e he;refine⟨_,(h1 _).2 ⟨_,(ab _).2 ⟨i,_,he,hb,aa,rfl⟩,rfl⟩,?_⟩;show(⟨(i:Int),lkV l (u:Int) 2,lkV l (w:Int) 2,0,0⟩:T5)=_;rw[hT.look hu,hT.look hw,AU,AU];rfl
end
theorem kW {N:Nat} {es:List IE} (hf:∀e∈es,inE N e) (hN:N≤1000000) (hm:es.length≤1000000):∀t∈edT es,okT 3 t:=by intro t ht;obtain⟨i,e,he,rfl⟩:=Qo ht;have h1:=hf e (A0 he);have h2:=(AK.1 he).1;unfold inE at h1;refine Jd ?_ ?_ ?_<;>(unfold Bd;omega)
theorem xN {N:Nat} {es:List IE} (hf:∀e∈es,inE N e) (hN:N≤1000000) (hm:es.length≤1000000) (fl:List Bool):∀t∈Ba (edT es) fl,okT 3 t:=by intro t ht;obtain⟨i,e,he,_,rfl⟩:=Uu.1 ht;exact kW hf hN hm _ (A0 (Mo he))
theorem Sub.refl {l:List T5} {u:Nat} (h:1≤(at5 l u).c3):Sub l u u:=⟨Int.le_refl _,oM⟩
theorem kX:∀{P:List T5} {k:Int},(∃y∈P,y.c0=k)→∃z∈P,z.c0=k∧∀x∈P,x.c0=k→z.c1≤x.c1
 |[],_,⟨_,h,_⟩=>by cases h
 |a::P,k,⟨y,hy,h0⟩=>by
  by_cases hP:∃y∈P,y.c0=k
  ·obtain⟨z,hz,ac,ab⟩:=kX hP;by_cases ha:a.c0=k∧a.c1<z.c1
   ·refine⟨a,AE,ha.1,fun x hx aa=>?_⟩;rcases AN.1 hx with rfl|hx
    ·exact Int.le_refl _
    ·have:=ab x hx aa;omega
   ·refine⟨z,AF _ hz,ac,fun x hx aa=>?_⟩;rcases AN.1 hx with rfl|hx
    ·omega
    ·exact ab x hx aa
  ·rcases AN.1 hy with rfl|hy
   ·refine⟨y,AE,h0,fun x hx aa=>?_⟩;rcases AN.1 hx with rfl|hx
    ·exact Int.le_refl _
    ·exact absurd ⟨x,hx,aa⟩ hP
   ·exact absurd ⟨y,hy,h0⟩ hP
theorem Way.one {par:Int→Int} {v:Int} {c c':List Int} (h:Way par v c) (h':Way par v c'):c=c':=by
 induction h generalizing c' with
 |top hv=>
  cases h' with
  |top _=>rfl
  |up h2 _=>omega
 |up hv _ ih=>
  cases h' with
  |top h2=>omega
  |up _ h2=>rw[ih h2]
section
variable {N:Nat} {es:List IE} {lab:List Int} {b:List T5} {tl:List (Nat×Fo)} {l:List T5}
theorem Ft (hT:Ao N es lab b tl l) {a v p:Nat} (ha:a<N) (hv:v<N) (hp:p<N) (h:(at5 l v).c1=(p:Int)):Sub l a v↔a=v∨Sub l a p:=by
 obtain⟨c,hw,_,_,hc⟩:=hT.below hv;obtain⟨c',aa,_,_,ab⟩:=hT.below hp;have e:c=(v:Int)::c':=by refine hw.one (.up oM ?_);rw[AU,h];exact aa
 have h1:=hc a ha;have h2:=ab a ha;unfold Sub;rw[←h1,←h2,e,AN];constructor
 ·rintro(h3|h3)
  ·exact .inl oM
  ·exact .inr h3
 ·rintro(rfl|h3)
  ·exact .inl rfl
  ·exact .inr h3
theorem Kw (hT:Ao N es lab b tl l) {a v:Nat} (ha:a<N) (hv:v<N) (h:(at5 l v).c1= -1):Sub l a v↔a=v:=by
 obtain⟨c,hw,_,_,hc⟩:=hT.below hv;have e:c=[(v:Int)]:=by refine hw.one (.up oM (.top ?_));rw[AU,h];decide
 have h1:=hc a ha;unfold Sub;rw[←h1,e,AX];omega
theorem Hs (hT:Ao N es lab b tl l) {v:Nat} (hv:v<N):Sub l v v:=Sub.refl (hT.bnd hv).2.2.1
theorem kY (hT:Ao N es lab b tl l) {m:Nat} (hm:m<N):∀(q:Nat) {a:Nat},a<N→(at5 l a).c2≤(q:Int)→Sub l m a→a≠m→∃c,c<N∧(at5 l c).c1=(m:Int)∧Sub l c a:=by
 intro q;induction q with
 |zero=>
  intro a ha hq hs aa;have h1:=hT.bnd ha;have h2:=hT.bnd hm;exact absurd (hT.num_inj ha hm (by have:=hs.1;omega)) aa
 |succ q ih=>
  intro a ha hq hs aa;rcases hT.par ha with⟨h1,_⟩|⟨p,hp,h1,_,h2,_⟩
  ·exact absurd ((Kw hT hm ha h1).1 hs).symm aa
  ·have h3:=((Ft hT hm ha hp h1).1 hs).resolve_left fun h=>aa h.symm;by_cases ab:p=m
   ·subst ab;exact⟨a,ha,h1,Hs hT ha⟩
   ·obtain⟨c,hc,ac,ad⟩:=ih hp oM h3 ab;exact⟨c,hc,ac,(Ft hT hc ha hp h1).2 (.inr ad)⟩
end
namespace Walk
variable {N:Nat} {es:List IE} {lab:List Int} {b:List T5} {tl:List (Nat×Fo)} {l:List T5} {x P:Nat} {W:Nat→Nat}
end Walk
namespace Av
variable {N:Nat} {es:List IE} {lab:List Int} {fl:List Bool} {r b:List T5}
end Av
theorem xO {b:List T5} {i:Nat} (hi:i<b.length):Kv b i=true↔∃q,q<i∧(at5 b q).c2=(at5 b i).c2:=by
 unfold Kv;rw[List.any_eq_true];constructor
 ·rintro⟨t,ht,he⟩;obtain⟨q,hq,rfl⟩:=B0.1 ht;rw[BQ] at hq;have h1:=Dy (r:=b) (k:=q) oM;rw[AG oM] at h1;refine⟨q,oM,?_⟩;rw[←BF h1];have:=of_decide_eq_true he;rwa[List.getElem_take] at this
 ·rintro⟨q,hq,he⟩;refine⟨at5 b q,?_,decide_eq_true he⟩;refine A0 (i:=q) ?_;rw[BY,if_pos hq];exact Dy oM
theorem xP (p:Option Addr) (m cap:Nat) (b:List T5) (c:Aa) (hv:RV p m b c) (hm:m≤1000000) (i:Nat) (hi:i<m):CtQ AC 105 [.slice p m cap,Z9 Z8 i] [c] (.bool (Kv b i)):=by
 have hl:=hv.1;have aa:=xO (b:=b) (i:=i) oM;obtain⟨bb,off,cs,T,fz,rfl,rfl,_,ab⟩:=(RV.rw hv).pos Ds oM;have hg:∀j,j<m→cs[off+j*5+2]? =some (Z9 Z8 (at5 b j).c2):=fun j hj=>ab j 2 _ _ (Dy oM) rfl;have ai:=hg i hi;refine cG func105 fun _=>?_;repeat(refine sA ?_;intros)
 refine G.loop (X:=Nat) (fun j=>j≤i∧∀q,q<j→(at5 b q).c2≠(at5 b i).c2) (fun j=>[(5,Z9 Z8 j),(0,.slice (some ⟨bb,off,none⟩) m cap),(1,Z9 Z8 i)]) (fun _=>[[(bb,Al cs T fz)]]) (fun j=>i-j) 0 ⟨AT _,fun q h=>by omega⟩ (body:=?_);rintro j ⟨hj,ac⟩;by_cases ad:j<i
 ·have aj:=hg j oM;have ae:(at5 b j).c2≠(at5 b i).c2→∀q,q<j+1→(at5 b q).c2≠(at5 b i).c2:=fun ag q hq=>by
   rcases EH (Nat.lt_succ_iff.1 hq) with rfl|h1
   ·exact ag
   ·exact ac q h1
  have ah:(at5 b j).c2=(at5 b i).c2→Kv b i=true:=fun he=>aa.2 ⟨j,ad,he⟩;generalize (at5 b j).c2=x at*;generalize (at5 b i).c2=y at*;by_cases hq:x=y
  ·rw[ah hq];repeat(refine sA ?_;intros)
   (refine dP [[(bb,Al cs T fz)]] ?_;exact⟨rfl,rfl⟩)
  ·repeat(refine sA ?_;intros)
   refine Dn.round (j+1) ⟨ad,ae hq⟩ oM
 ·obtain rfl:j=i:=by omega
  have hf:Kv b j=false:=by
   cases hb:Kv b j with
   |false=>rfl
   |true=>
    obtain⟨q,hq,he⟩:=aa.1 hb;exact(ac q hq he).elim
  rw[hf];repeat(refine sA ?_;intros)
  (refine dP [[(bb,Al cs T fz)]] ?_;exact⟨rfl,rfl⟩)
theorem cB:∀n,Bl n [Value.int .i64 0,Z9 Z8 0,Z9 Z8 0,Z9 Z8 0,Z9 Z8 0]=(BX n T5.zero).flatMap Ak
 |0=>rfl
 |n+1=>by rw[D6,BC,←cB n];rfl
theorem tset (o:List T5) (i:Nat) (t:T5) (h:i<o.length):Bs (o.flatMap Ak) (i*5) [Z9 Z8 t.c0,Z9 Z8 t.c1,Z9 Z8 t.c2,Z9 Z8 t.c3,Z9 Z8 t.c4]=(o.set i t).flatMap Ak:=by have:=aZ Ds o i t [] h;rw[AP,AP] at this;exact this
theorem Qt {o:List T5} {i j:Nat} {t:T5} {v:Value} (h:o[i]? =some t) (hj:(Ak t)[j]? =some v):(o.flatMap Ak)[i*5+j]? =some v:=by have:=aY Ds h hj [];rwa[AP] at this
theorem tset3 {o:List T5} {i:Nat} {t:T5} (h:o[i]? =some t) (x:Int):(o.flatMap Ak).set (i*5+3) (Z9 Z8 x)=(o.set i {t with c3:=x}).flatMap Ak:=by
 obtain⟨hi,rfl⟩:=AK.1 h;rw[←tset o i _ hi];have h1:=Kt Ds o;have h2:(i+1)*5≤o.length*5:=Nat.mul_le_mul_right _ hi;apply DI;intro k;rw[Ma _ _ _ oA10];by_cases hk:k=i*5+3
 ·subst hk;rw[DK oM,AV,BE oA10,BK oA10];have:i*5+3-(D8 (i*5) (o.flatMap Ak)).length=3:=by rw[BQ];omega
  rw[this];rfl
 ·rw[CW oM];rcases Nat.lt_or_ge k (i*5) with h3|h3
  ·rw[AV,BK oA10,BY,if_pos h3]
  ·rw[AV,BE oA10];have h4:(D8 (i*5) (o.flatMap Ak)).length=i*5:=by rw[BQ];omega
   rw[h4];rcases Nat.lt_or_ge k (i*5+5) with h5|h5
   ·rw[BK oA10];obtain⟨j,rfl⟩:∃j,k=i*5+j:=⟨k-i*5,oM⟩
    rw[Nat.add_sub_cancel_left];have hj:j=0∨j=1∨j=2∨j=4:=oM;rcases hj with rfl|rfl|rfl|rfl
    ·exact Qt h rfl
    ·exact Qt h rfl
    ·exact Qt h rfl
    ·exact Qt h rfl
   ·rw[BE oA10,List.getElem?_drop];congr 1;simp only[AJ,AS];omega
def Gq (b:List T5) (x i:Nat):List T5:=(Hq (b.take i) x).map (Dc b)
theorem xQ {b:List T5} {x i:Nat} {t:T5} (h:b[i]? =some t) (aa:t.c3≠(x:Int)):Gq b x (i+1)=Gq b x i:=by unfold Gq Hq;rw[BP,h,CA];simp[aa]
theorem xR {b:List T5} {x i:Nat} {t:T5} (h:b[i]? =some t) (he:t.c3=(x:Int)):Gq b x (i+1)=Gq b x i++[Dc b t]:=by unfold Gq Hq;rw[BP,h,CA];simp[he]
theorem xS {b:List T5} {x i:Nat} {t:T5} (h:b[i]? =some t) (he:t.c3=(x:Int)):(Hq b x).map (Dc b)=Gq b x i++Dc b t::(Hq (b.drop (i+1)) x).map (Dc b):=by
 obtain⟨hi,rfl⟩:=AK.1 h;have h1:b=b.take i++b[i]::b.drop (i+1):=by rw[←BM hi,BT]
 unfold Gq Hq;have h2:List.filter (fun t=>decide (t.c3=(x:Int))) b=List.filter (fun t=>decide (t.c3=(x:Int))) (b.take i)++b[i]::List.filter (fun t=>decide (t.c3=(x:Int))) (b.drop (i+1)):=by
  conv=>lhs;rw[h1]
  rw[CA,List.filter_cons,if_pos (by simpa using he)]
 rw[h2,AY,AZ]
def Iy (y:Nat×Fo):T5:=⟨(y.1:Int),-1,(y.1:Int),-1,((y.2.sz+1:Nat):Int)⟩
structure RtX where
 v:Nat
 n:Nat
 tl1:List (Nat×Fo)
 tl2:List (Nat×Fo)
 o:List T5
structure Jq (N:Nat) (tl:List (Nat×Fo)) (s:RtX):Prop where
 v:s.v≤N
 spl:tl=s.tl1++s.tl2
 lo:∀y∈s.tl1,y.1<s.v
 hi:∀y∈s.tl2,s.v≤y.1
 w:Wrt N (Et tl) (Es (vsT s.tl1)) s.o
 n:s.n=Es (vsT s.tl1)
structure RuX where
 i:Nat
 n:Nat
 o:List T5
structure RwX where
 u:Nat
 dn:List Int
structure RfX where
 k:Int
 rest:List Int
 dn:List Int
section
variable {N:Nat} {es:List IE} {lab:List Int} {fl:List Bool} {r b:List T5} {tl:List (Nat×Fo)} {l:List T5}
theorem Ao.all_is (h:Ao N es lab b tl l) (hN:N≤1000000):(Ej 0 0).all (0,0) (vsT tl)=Et tl:=bZ (d:=0) (n:=0) (by have:=h.tlo.sz;omega)
theorem Ao.cnt_all (h:Ao N es lab b tl l) (hN:N≤1000000):Es (vsT tl)=N:=by unfold Es;rw[h.all_is hN,h.tabL_len]
theorem cC (a c:List (Nat×Fo)):vsT (a++c)=vsT a++vsT c:=by unfold vsT;rw[B9]
theorem Jq.root (h:Ao N es lab b tl l) {s:RtX} (hs:Jq N tl s) (hv:lab[s.v]? =some (s.v:Int)):∃T tl2,s.tl2=(s.v,T)::tl2:=by
 have ab:s.v<N:=by rw[←h.tlo.len];exact(AK.1 hv).1
 obtain⟨y,hy,he⟩:=h.tlo.all s.v ab;rw[hv] at he;have ac:y.1=s.v:=by have:=BF he;omega
 rw[hs.spl,AR] at hy;have aa:=h.tlo.up;rw[hs.spl,CB] at aa;rcases hy with hy|hy
 ·have:=hs.lo y hy;omega
 ·match ht:s.tl2,hy with
  |z::t2,hy=>
   rw[ht] at aa;rcases AN.1 hy with rfl|hy
   ·exact⟨y.2,t2,by rw[←ac]⟩
   ·have h1:=List.rel_of_pairwise_cons aa.2.1 hy;have h2:=hs.hi z (by rw[ht];exact AE);omega
theorem Jq.skip (h:Ao N es lab b tl l) {s:RtX} (hs:Jq N tl s) (ab:s.v<N) {x:Int} (hx:lab[s.v]? =some x) (aa:x≠(s.v:Int)):Jq N tl ⟨s.v+1,s.n,s.tl1,s.tl2,s.o⟩:=by
 refine⟨ab,hs.spl,fun y hy=>Nat.lt_succ_of_lt (hs.lo y hy),fun y hy=>?_,hs.w,hs.n⟩;have h1:=hs.hi y hy;have h2:=(h.tlo.tree y (by rw[hs.spl];exact BN _ hy)).root;rcases EH h1 with h3|h3
 ·rw[←h3,hx] at h2;exact(aa (BF h2)).elim
 ·exact h3
theorem Jq.tell (h:Ao N es lab b tl l) (hN:N≤1000000) {s:RtX} (hs:Jq N tl s) {T:Fo} {t2:List (Nat×Fo)} (ht:s.tl2=(s.v,T)::t2):Es (vsT s.tl1)<N∧Es (vsT s.tl1++[Iy (s.v,T)])=Es (vsT s.tl1)+1∧Wrt N (Et tl) (Es (vsT s.tl1)+1) (s.o.set s.v ⟨(s.v:Int),-1,(Es (vsT s.tl1):Int),0,0⟩):=by
 have e1:vsT tl=vsT s.tl1++Iy (s.v,T)::(trv s.v 0 s.v T++vsT t2):=by rw[hs.spl,cC,ht,Sz];rfl
 obtain⟨h1,e,h2,h3,h4⟩:=kU (P:=vsT s.tl1) (Q:=trv s.v 0 s.v T++vsT t2) (v:=Iy (s.v,T)) (by show(s.v:Int)≠-1;omega);rw[←e1,h.all_is hN] at h2;obtain⟨k1,k2,w,_,k3,_,k4⟩:=h.entry h2;have k5:e.c4=0:=by
  rcases k4 with k4|⟨j,e',_,g1,g2,_⟩
  ·exact k4.2
  ·obtain⟨_,_,w',_,g3,_⟩:=h.entry g1;have:e.c1= -1:=h4;omega
 have hw:=h.wstep hs.w h2;have aa:e.c0=(s.v:Int):=h3;have ab:e.c1= -1:=h4;have e2:({e with c3:=0}:T5)=⟨(s.v:Int),-1,(Es (vsT s.tl1):Int),0,0⟩:=by
  cases e;simp_all
 rw[e2,aa,AU] at hw;exact⟨k1,h1,hw⟩
theorem Jq.tell2 (hP:Av N es lab fl r b) (hf:∀e∈es,inE N e) (h:Ao N es lab b tl l) (hN:N≤1000000) {s:RtX} (hs:Jq N tl s) {T:Fo} {t2:List (Nat×Fo)} (ht:s.tl2=(s.v,T)::t2) {i:Nat} {t:T5} (hi:b[i]? =some t) (ab:t.c3=(s.v:Int)):let k:=Es (vsT s.tl1++Iy (s.v,T)::Gq b s.v i)
  ((Kv b i=true∨t.c2=(s.v:Int))∧Es (vsT s.tl1++Iy (s.v,T)::Gq b s.v (i+1))=k)∨
  (Kv b i=false∧t.c2≠(s.v:Int)∧Es (vsT s.tl1++Iy (s.v,T)::Gq b s.v (i+1))=k+1∧k<N∧∀o,Wrt N (Et tl) k o→
   ∃to aa:Nat,∃d:Int,to<N∧aa<N∧t.c2=(to:Int)∧t.c1=(aa:Int)∧(at5 o aa).c4=d∧0≤d∧d+1<N∧Wrt N (Et tl) (k+1) (o.set to ⟨(to:Int),(aa:Int),(k:Int),0,d+1⟩)):=by
 intro k;have hT:=h.tlo.tree (s.v,T) (by rw[hs.spl,ht];exact BN _ AE);have ac:=hT.vis;dsimp only at ac;have e1:vsT tl=(vsT s.tl1++Iy (s.v,T)::Gq b s.v i)++Dc b t::((Hq (b.drop (i+1)) s.v).map (Dc b)++vsT t2):=by rw[hs.spl,cC,ht,Sz,←ac,xS hi ab];simp[Iy]
 have e2:vsT s.tl1++Iy (s.v,T)::Gq b s.v (i+1)=(vsT s.tl1++Iy (s.v,T)::Gq b s.v i)++[Dc b t]:=by rw[xR hi ab];simp
 rcases hP.vis_seen hf hi with⟨h1,h2⟩|⟨h1,h2,h3,h4,h5⟩
 ·left;rw[ab] at h2;exact⟨h2,by rw[e2];exact xM h1⟩
 ·right;rw[ab] at h4;obtain⟨g1,e,g2,g3,g4⟩:=kU (P:=vsT s.tl1++Iy (s.v,T)::Gq b s.v i) (Q:=(Hq (b.drop (i+1)) s.v).map (Dc b)++vsT t2) (v:=Dc b t) (by rw[h1];exact h5);rw[←e1,h.all_is hN] at g2;obtain⟨k1,k2,w,hw,k3,ae,k4⟩:=h.entry g2;refine⟨h3,h4,by rw[e2];exact g1,k1,fun o ho=>?_⟩;rw[h1] at g3;rw[h2] at g4;obtain⟨j,e',hj,q1,q2,q3⟩:∃j e',j<k∧(Et tl)[j]? =some e'∧e'.c0=e.c1∧e.c4=e'.c4+1:=by
   rcases k4 with k4|k4
   ·exfalso;obtain⟨i',n',ag,aj,_,rfl⟩:=hP.b_arc (A0 hi);obtain⟨_,_,c1,_⟩:=hP.arc_g hf (Di (f:=Ay r) Dp ag n');have:(Dq r i' n').c1=(at5 r (itF (Ay r) n' i')).c1:=rfl;omega
   ·exact k4
  obtain⟨_,_,u,hu,q4,q5,_⟩:=h.entry q1;have ah:=h.bnd hu;rw[q5] at ah;have ai:=h.bnd hw;rw[ae] at ai;have q6:=ho.got j e' hj q1;rw[q4,AU] at q6;have q7:(at5 o u).c4=e'.c4:=by have:=Dy (r:=o) (k:=u) (by rw[ho.len];exact hu);rw[q6] at this;rw[←BF this]
  refine⟨w,u,e'.c4,hw,hu,oM,oM,q7,oM,oM,?_⟩;have ad:=h.wstep ho g2;have e3:({e with c3:=0}:T5)=⟨(w:Int),(u:Int),(k:Int),0,e'.c4+1⟩:=by show(⟨e.c0,e.c1,e.c2,0,e.c4⟩:T5)=_;rw[k3,k2,q3,←q2,q4]
  rw[e3,k3,AU] at ad;exact ad
theorem Jq.done (h:Ao N es lab b tl l) {s:RtX} (hs:Jq N tl s) (ac:s.v<N) {T:Fo} {t2:List (Nat×Fo)} (ht:s.tl2=(s.v,T)::t2) {o:List T5} {m:Nat} (hm:b.length≤m) (ho:Wrt N (Et tl) (Es (vsT s.tl1++Iy (s.v,T)::Gq b s.v m)) o):Jq N tl ⟨s.v+1,Es (vsT s.tl1++Iy (s.v,T)::Gq b s.v m),s.tl1++[(s.v,T)],t2,o⟩:=by
 have hT:=h.tlo.tree (s.v,T) (by rw[hs.spl,ht];exact BN _ AE);have ab:=h.tlo.up;rw[hs.spl,ht,CB,BI] at ab;have e1:vsT (s.tl1++[(s.v,T)])=vsT s.tl1++Iy (s.v,T)::Gq b s.v m:=by have aa:=hT.vis;dsimp only at aa;unfold Gq;rw[List.take_of_length_le hm,cC,Sz,aa];simp[Iy,vsT]
 refine⟨ac,by rw[hs.spl,ht,AV];rfl,fun y hy=>?_,fun y hy=>ab.2.1.1 y hy,?_,by rw[e1]⟩
 ·rcases AR.1 hy with h1|h1
  ·exact Nat.lt_succ_of_lt (hs.lo y h1)
  ·rw[AX.1 h1];exact Nat.lt_succ_self _
 ·show Wrt N (Et tl) (Es (vsT (s.tl1++[(s.v,T)]))) o;rw[e1];exact ho
theorem Jq.end_ (h:Ao N es lab b tl l) (hN:N≤1000000) {s:RtX} (hs:Jq N tl s) (hv:s.v=N):s.o=Ao.outC N l []:=by
 have h0:s.tl2=[]:=by
  cases ht:s.tl2 with
  |nil=>rfl
  |cons y t2=>
   exfalso;have hy:y∈s.tl2:=by rw[ht];exact AE
   have h1:=hs.hi y hy;have h2:=(h.tlo.tree y (by rw[hs.spl];exact BN _ hy)).root;have h3:=(AK.1 h2).1;rw[h.tlo.len] at h3;omega
 have h1:=hs.spl;rw[h0,AP] at h1;have hw:=hs.w;rw[←h1,h.cnt_all hN] at hw;exact h.wend hw
end
theorem kZ {v:T5} (hv:v.c2≠-1):∀(ts:List T5) (k:Int×Int),v∈ts→∃e∈(Ej 0 0).all k ts,e.c0=v.c2∧e.c1=v.c3
 |[],_,h=>by cases h
 |t::ts,k,h=>by
  simp only[Am.all];rcases AN.1 h with rfl|h
  ·have ho:(Ej 0 0).outs k v=[⟨v.c2,v.c3,AL .i64 (AL .i64 (k.2+1)-1),v.c4,if v.c3= -1 then 0 else AL .i64 (k.1+1)⟩]:=if_neg hv;exact⟨_,List.mem_append_left _ (by rw[ho];exact List.mem_singleton_self _),rfl,rfl⟩
  ·obtain⟨e,he,h1⟩:=kZ hv ts _ h;exact⟨e,BN _ he,h1⟩
section
variable {N:Nat} {es:List IE} {lab:List Int} {fl:List Bool} {r b:List T5} {tl:List (Nat×Fo)} {l:List T5}
theorem xT (hT:Ao N es lab b tl l) (hN:N≤1000000) {v:T5} (hv:v∈vsT tl) (hd:v.c2≠-1):∃w,w<N∧v.c2=(w:Int)∧(at5 l w).c1=v.c3:=by obtain⟨e,he,h1,h2⟩:=kZ hd _ (0,0) hv;rw[hT.all_is hN] at he;unfold Et at he;obtain⟨w,hw,h3,h4⟩:=hT.of he;exact⟨w,hw,oM,by rw[h4,h2]⟩
end
section
variable {N:Nat} {es:List IE} {lab:List Int} {fl:List Bool} {r b:List T5} {tl:List (Nat×Fo)} {l:List T5}
theorem xU (hP:Av N es lab fl r b) (hf:∀e∈es,inE N e) (hT:Ao N es lab b tl l) (hN:N≤1000000) {u w:Nat} (hj:Jn (gE es) (Fs fl) u w):(at5 l w).c1=(u:Int)∨(at5 l u).c1=(w:Int):=by
 obtain⟨q,hq,q1,q2⟩:=hP.arc_at hf hj;obtain⟨i,hi,hr,hc,hR⟩:=hP.root_of hf hq;obtain⟨n,hn,he⟩:=hP.arcs.pos_of hi hR;obtain⟨x,x1,x2,_,_,x3⟩:=hP.lab_at hf hi;obtain⟨y,hy,ac⟩:=hT.tlo.all x x2;rw[x3] at ac;obtain rfl:x=y.1:=by have:=BF ac;omega
 have ad:=(hT.tlo.tree y hy).vis;have ag:∀t∈b,t.c3=(y.1:Int)→Dc b t∈vsT tl:=fun t ht hc=>by refine BZ.2 ⟨y,hy,AF _ ?_⟩;rw[←ad];exact List.mem_map_of_mem (BV.2 ⟨ht,decide_eq_true hc⟩)
 have aa:=hP.tw hf hi;have hit:=fun n=>hP.arcs.it_lab (hP.hl hf) hi n;have ae:∀n,n<Ca r i→Dq r i n∈b∧(Dq r i n).c3=(y.1:Int)∧(Dq r i n).c4=(n:Int)∧(Dq r i n).c2=(vtA r i (n+1):Int):=fun n hn=>by refine⟨hP.arc_b hi hr hn,by rw[show(Dq r i n).c3=(at5 r i).c3 from hit n];exact x1,rfl,?_⟩;obtain⟨_,_,c1,_,c2,_⟩:=hP.arc_g hf (Di (f:=Ay r) Dp hi n);rw[hP.vt_succ hi];show(at5 r (itF (Ay r) n i)).c2=_;omega
 have ab:∀n,n<Ca r i→n<Hn r i n→(at5 l (vtA r i (n+1))).c1=(vtA r i n:Int):=fun n hn ah=>by obtain⟨a1,a2,_,_⟩:=ae n hn;have h1:=ag _ a1 a2;rw[hP.vis_at hf hi hr,if_pos ah] at h1;obtain⟨w,hw,h2,h3⟩:=xT hT hN h1 oD;dsimp only at h2 h3;rwa[show w=vtA r i (n+1) by omega] at h3
 have hu:vtA r i n=u:=by show(at5 r (itF (Ay r) n i)).c1.toNat=u;rw[he,q1,AU]
 have hw:vtA r i (n+1)=w:=by rw[hP.vt_succ hi,he,q2,AU]
 rw[←hu,←hw];by_cases ai:n<Hn r i n
 ·exact .inl (ab n hn ai)
 ·have h1:=aa.bro_lt n hn;have h2:=aa.bro_ne n hn;have h3:=aa.bro_bro n hn;have h4:=ab (Hn r i n) h1 oM;rw[aa.bro_to n hn,aa.bro_from n hn] at h4;exact .inr h4
theorem cD (hT:Ao N es lab b tl l) {v p a:Nat} (hv:v<N) (h:(at5 l v).c1=(p:Int)) (hs:Sub l v a):Sub l p a:=by
 rcases hT.par hv with⟨h1,_⟩|⟨p',hp,h1,_,h2,h3,_⟩
 ·omega
 ·obtain rfl:p'=p:=by omega
  obtain⟨g1,g2⟩:=hs;exact⟨oM,oM⟩
theorem xV (hT:Ao N es lab b tl l) {a c:Nat} (ha:a<N):∀(q:Nat) {v:Nat},v<N→(at5 l v).c2≤(q:Int)→Sub l a v→Sub l v c→Sub l a c:=by
 intro q;induction q with
 |zero=>
  intro v hv hq h1 h2;rcases hT.par hv with⟨h,_⟩|⟨p,hp,h,_,h5,_⟩
  ·rw[(Kw hT ha hv h).1 h1];exact h2
  ·have:=hT.bnd hp;omega
 |succ q ih=>
  intro v hv hq h1 h2;rcases hT.par hv with⟨h,_⟩|⟨p,hp,h,_,h5,_⟩
  ·rw[(Kw hT ha hv h).1 h1];exact h2
  ·rcases(Ft hT ha hv hp h).1 h1 with rfl|h1
   ·exact h2
   ·exact ih hp oM h1 (cD hT hv h h2)
theorem Sub.tr (hT:Ao N es lab b tl l) {a v c:Nat} (ha:a<N) (hv:v<N) (h1:Sub l a v) (h2:Sub l v c):Sub l a c:=xV hT ha (at5 l v).c2.toNat hv (by have:=hT.bnd hv;omega) h1 h2
theorem lA (hP:Av N es lab fl r b) (hT:Ao N es lab b tl l):∀(q:Nat) {a v:Nat},a<N→v<N→(at5 l v).c2≤(q:Int)→Sub l a v→lab[a]? =lab[v]? :=by
 intro q;induction q with
 |zero=>
  intro a v ha hv hq hs;have h1:=hT.bnd ha;have h2:=hT.bnd hv;rw[hT.num_inj ha hv (by have:=hs.1;omega)]
 |succ q ih=>
  intro a v ha hv hq hs;rcases hT.par hv with⟨h1,_⟩|⟨p,hp,h1,_,h2,_,h3⟩
  ·rw[(Kw hT ha hv h1).1 hs]
  ·rcases(Ft hT ha hv hp h1).1 hs with rfl|hs
   ·rfl
   ·rw[ih ha hp oM hs];exact hP.labs.same hp hv (.one h3)
theorem xW (hP:Av N es lab fl r b) (hT:Ao N es lab b tl l):∀(q:Nat) {a:Nat},a<N→(at5 l a).c2≤(q:Int)→∃x:Nat,x<N∧lab[a]? =some (x:Int)∧Sub l x a:=by
 intro q;induction q with
 |zero=>
  intro a ha hq;rcases hT.par ha with⟨_,_,h⟩|⟨p,hp,h,_,h5,_⟩
  ·exact⟨a,ha,h,Hs hT ha⟩
  ·have:=hT.bnd hp;omega
 |succ q ih=>
  intro a ha hq;rcases hT.par ha with⟨_,_,h⟩|⟨p,hp,h,_,h5,_,h6⟩
  ·exact⟨a,ha,h,Hs hT ha⟩
  ·obtain⟨x,hx,h1,h2⟩:=ih hp oM;exact⟨x,hx,by rw[←hP.labs.same hp ha (.one h6)];exact h1,(Ft hT hx ha hp h).2 (.inr h2)⟩
theorem lB (hP:Av N es lab fl r b) (hT:Ao N es lab b tl l) {v a:Nat} (hv:v<N) (ha:a<N) (h:(at5 l v).c1= -1) (hl:lab[a]? =lab[v]?):Sub l v a:=by
 rcases hT.par hv with⟨_,_,h1⟩|⟨p,_,h1,_⟩
 ·obtain⟨x,hx,h2,h3⟩:=xW hP hT (at5 l a).c2.toNat ha (by have:=hT.bnd ha;omega);rw[hl,h1] at h2;obtain rfl:v=x:=by have:=BF h2;omega
  exact h3
 ·omega
end
def Td (l:List Int) (e:IE) (v:Int):Int:=if e.1=v then l.getD e.2.toNat 0 else l.getD e.1.toNat 0
theorem getD_some {l:List Int} {i:Nat} (h:i<l.length):l[i]? =some (l.getD i 0):=by rw[AM,AG h];rfl
theorem xX (N:Nat) (b:Nat) (l:List Int) (hl:l.length=N) (e:IE) (he:inE N e) (v:Nat):CtQ AC 182 [.slice (some ⟨b,0,none⟩) N N,.agg #[Z9 Z8 e.1,Z9 Z8 e.2],Z9 Z8 v] [[(b,row (Au l) 3)]] (Z9 Z8 (Td l e v)):=by
 obtain⟨x,y⟩:=e;unfold inE at he;dsimp only at he;obtain⟨x,rfl⟩:∃n:Nat,x=(n:Int):=⟨x.toNat,oM⟩
 obtain⟨y,rfl⟩:∃n:Nat,y=(n:Int):=⟨y.toNat,oM⟩
 have hx:=Ln (getD_some (l:=l) (i:=x) oM);have hy:=Ln (getD_some (l:=l) (i:=y) oM);unfold Td;dsimp only;rw[AU,AU];generalize l.getD x 0=lx at*;generalize l.getD y 0=ly at*;generalize Au l=cs at*;by_cases h:(x:Int)=(v:Int)
 ·rw[if_pos h];refine cG func182 fun _=>?_;repeat(refine sA ?_;intros)
  (refine dP [[(b,row cs 3)]] ?_;exact⟨rfl,rfl⟩)
 ·rw[if_neg h];refine cG func182 fun _=>?_;repeat(refine sA ?_;intros)
  (refine dP [[(b,row cs 3)]] ?_;exact⟨rfl,rfl⟩)
def svw (N b:Nat):Value:= .slice (some ⟨b,0,none⟩) N N
def Fu (bl:List Nat) (ls:List (List Int)):Aa:=(bl.zip ls).map fun x=>(x.1,row (Au x.2) 3)
theorem xY {bl:List Nat} {ls:List (List Int)} (h:bl.length=ls.length) (b:Nat) (l:List Int):Fu (bl++[b]) (ls++[l])=Fu bl ls++[(b,row (Au l) 3)]:=by unfold Fu;rw[List.zip_append h,AY];rfl
theorem xZ {bl:List Nat} {ls:List (List Int)} {v b:Nat} {l:List Int} (hb:bl[v]? =some b) (hl:ls[v]? =some l):∃rest,(Fu bl ls).Perm ((b,row (Au l) 3)::rest):=by
 have h1:(Fu bl ls)[v]? =some (b,row (Au l) 3):=by unfold Fu;rw[BH,DR (z:=(b,l))|>.2 ⟨hb,hl⟩];rfl
 obtain⟨hv,h2⟩:=AK.1 h1;refine⟨(Fu bl ls).take v++(Fu bl ls).drop (v+1),?_⟩;have h3:Fu bl ls=(Fu bl ls).take v++(b,row (Au l) 3)::(Fu bl ls).drop (v+1):=by rw[←h2,←BM hv,BT]
 conv=>lhs;rw[h3]
 exact List.perm_middle
structure Kx (N:Nat) (es:List IE) (ls:List (List Int)):Prop where
 len:ls.length=N
 lab:∀(v:Nat) l,ls[v]? =some l→Ee (gE es) (Ey es [] v) N v l
structure ApIn (N:Nat) (pa:Option Addr) (cap:Nat) (ls:List (List Int)) (cv cr:Aa):Prop where
 row_:∃bl:List Nat,bl.length=N∧Vec 117 1 pa N cap (bl.map (svw N)) cv∧cr=Fu bl ls
theorem lC (N:Nat) (bl:List Nat) (ls:List (List Int)) (v b:Nat) (l:List Int) (hb:bl[v]? =some b) (aa:ls[v]? =some l) (hl:l.length=N) (e:IE) (he:inE N e):CtQ AC 182 [.slice (some ⟨b,0,none⟩) N N,.agg #[Z9 Z8 e.1,Z9 Z8 e.2],Z9 Z8 v] [Fu bl ls] (Z9 Z8 (Td l e v)):=by
 obtain⟨rest,hr⟩:=xZ hb aa;refine Ct.convP (Ct.wide (xX N b l hl e he v) [rest]) (by simpa using hr) ?_;rintro w H' ⟨H1,⟨rfl,rfl⟩,rfl⟩;exact⟨[Fu bl ls],⟨rfl,rfl⟩,by simpa using hr.symm⟩
theorem Rw.nil1:Rw bcl 1 none 0 ([]:List Bool) []:=⟨rfl,.inl ⟨rfl,rfl⟩⟩
theorem yA (N:Nat) (hN:N≤1000000) (p:Option Addr) (m cap:Nat) (es:List IE) (c:Aa) (hv:Rw ecl 2 p m es c) (hm:m≤1000000) (hf:∀e∈es,inE N e) (w:Int):Ct AC 98 [gv N p m cap,.slice none 0 0,Z9 Z8 w] [c] fun v H'=>∃bl l,v= .slice (some ⟨bl,0,none⟩) N N∧H'=[c,[(bl,row (Au l) 3)]]∧Ee (gE es) (Ey es [] w) N w l:=by
 refine Ct.convP (jV N hN p m cap es c hv hm hf none 0 0 [] [] Rw.nil1 oM w) oA19 ?_;rintro v H' ⟨bl,l,rfl,rfl,h⟩;exact⟨_,⟨bl,l,rfl,rfl,h⟩,by simp⟩
structure ApX where
 i:Nat
 p:Option Addr
 cap:Nat
 cv:Aa
 bl:List Nat
 ls:List (List Int)
theorem yB (N:Nat) (hN:N≤1000000) (p:Option Addr) (m cap:Nat) (es:List IE) (c:Aa) (hv:Rw ecl 2 p m es c) (hm:m≤1000000) (hf:∀e∈es,inE N e):Ct AC 129 [gv N p m cap] [c] fun v H'=>∃pa ka cv cr ls,v= .slice pa N ka∧H'=[c,cv,cr]∧ApIn N pa ka ls cv cr∧Kx N es ls:=by
 have ag:=fun w=>yA N hN p m cap es c hv hm hf w;unfold gv at ag⊢;refine cG func129 fun _=>?_;repeat(refine sA ?_;intros)
 rename_i b1;refine G.loop (X:=ApX) (fun x=>x.i≤N∧x.bl.length=x.i∧x.ls.length=x.i∧Vec 117 1 x.p x.i x.cap (x.bl.map (svw N)) x.cv∧∀(v:Nat) l,x.ls[v]? =some l→Ee (gE es) (Ey es [] v) N v l)
  (fun x=>[(4,Z9 Z8 x.i),(3,.slice x.p x.i x.cap),(1,pv b1)])
  (fun x=>[x.cv,Fu x.bl x.ls,[(b1,row [Z9 Z8 N,.slice p m cap] 24)],c]) (fun x=>N-x.i) ⟨0,none,0,[],[],[]⟩ ⟨AT _,rfl,rfl,Vec.nil _ _,by simp⟩ oA7 oA3 ?_
 rintro⟨i,q,qc,cv,bl,ls⟩ ⟨hi,ad,ab,hV,aa⟩;dsimp only at hi ad ab hV aa⊢;by_cases ah:i<N
 ·have hL:=ag (i:Int);have al:i+1≤maxLen:=by simp only[maxLen];omega
  repeat(refine sA ?_;intros)
  refine cL hL ?_;rintro _ _ ⟨b,l,rfl,rfl,ai⟩;repeat(refine sA ?_;intros)
  rename_i p' ac c' aj;have ak:Vec 117 1 p' (i+1) ac ((bl++[b]).map (svw N)) c':=by rw[AY];exact aj
  have ae:∀(v:Nat) l',(ls++[l])[v]? =some l'→Ee (gE es) (Ey es [] v) N v l':=by
   intro v l' h;rcases B5 v i with h1|h1|h1
   ·rw[BK oM] at h;exact aa v l' h
   ·subst h1;rw[BE oM,ab,DS] at h;simp only[List.getElem?_cons_zero,BG] at h;subst h;exact ai
   ·rw[BW oA16] at h;cases h
  refine Dn.joinP (c:=Fu (bl++[b]) (ls++[l])) (c1:=Fu bl ls) (c2:=[(b,row (Au l) 3)]) (by rw[xY oM]) (by(repeat(first|exact Ae.here|apply Ae.there))) (by(repeat(first|exact Ae.here|apply Ae.there))) ?_;refine Dn.round ⟨i+1,p',ac,c',bl++[b],ls++[l]⟩ ⟨ah,by simp[ad],by simp[ab],ak,ae⟩ oD
 obtain rfl:i=N:=by omega
 repeat(refine sA ?_;intros)
 (refine dP [c,cv,Fu bl ls] ?_;exact⟨q,qc,cv,_,ls,rfl,rfl,⟨bl,ad,hV,rfl⟩,ab,aa⟩)
def Ai (es:List IE) (i:Nat):IE:=es.getD i (0,0)
theorem Ky {es:List IE} {i:Nat} (h:i<es.length):es[i]? =some (Ai es i):=by unfold Ai;rw[AM,AG h];rfl
theorem Iz {N:Int} {es:List IE} (hf:∀e∈es,inE N e) {i:Nat} (h:i<es.length):inE N (Ai es i):=hf _ (A0 (Ky h))
def Uv (ls:List (List Int)) (v:Nat):List Int:=ls.getD v []
theorem lD {ls:List (List Int)} {v:Nat} (h:v<ls.length):ls[v]? =some (Uv ls v):=by unfold Uv;rw[AM,AG h];rfl
def sdE (es:List IE) (ls:List (List Int)) (v i:Nat):Int:=Td (Uv ls v) (Ai es i) (v:Int)
def sgB (N:Nat) (es:List IE) (ls:List (List Int)) (a b:Nat):Bool:=(BA N).all fun v=>decide (sdE es ls v a=sdE es ls v b)
theorem Xp {N:Nat} {es:List IE} {ls:List (List Int)} {a b:Nat}:sgB N es ls a b=true↔∀v,v<N→sdE es ls v a=sdE es ls v b:=by unfold sgB;simp[List.all_eq_true]
theorem lE (N:Nat) (es:List IE) (ls:List (List Int)) (a:Nat):sgB N es ls a a=true:=Xp.2 fun _ _=>rfl
theorem yC (N:Nat) (hN:N≤1000000) (p:Option Addr) (m cap:Nat) (es:List IE) (c:Aa) (hv:Rw ecl 2 p m es c) (hm:m≤1000000) (hf:∀e∈es,inE N e) (pa:Option Addr) (ka:Nat) (cv cr:Aa) (ls:List (List Int)) (hA:ApIn N pa ka ls cv cr) (hO:Kx N es ls) (a b:Nat) (ha:a<m) (hb:b<m):CtQ AC 130 [gv N p m cap,.slice pa N ka,Z9 Z8 a,Z9 Z8 b] [c,cv,cr] (.bool (sgB N es ls a b)):=by
 have hl:=hv.1;obtain⟨bl,a6,hV,rfl⟩:=hA;unfold gv;by_cases al:a=b
 ·subst al;rw[lE];refine cG func130 fun _=>?_;repeat(refine sA ?_;intros)
  (refine dP [c,cv,Fu bl ls] ?_;exact⟨rfl,rfl⟩)
 have a3:(a:Int)≠(b:Int):=oM;obtain⟨b0,off,cs,T,fz,rfl,rfl,aa,_⟩:=hv.pos Iw oM;have am:=Ky (es:=es) (i:=a) oM;have an:=Ky (es:=es) (i:=b) oM;have ao:=Iz hf (i:=a) oM;have aq:=Iz hf (i:=b) oM;have au:=aa a _ am;have av:=aa b _ an;have ae:∀v i,sdE es ls v i=Td (Uv ls v) (Ai es i) (v:Int):=fun _ _=>rfl;have aw:=fun v=>ae v a;have az:=fun v=>ae v b;have ag:=Xp (N:=N) (es:=es) (ls:=ls) (a:=a) (b:=b);generalize Ai es a=ea at*;generalize Ai es b=eb at*;obtain⟨ax,ay⟩:=ea;obtain⟨bx,ah⟩:=eb;have a4:(cs.drop (off+a*2)).take 2=[Z9 Z8 ax,Z9 Z8 ay]:=au;have a5:(cs.drop (off+b*2)).take 2=[Z9 Z8 bx,Z9 Z8 ah]:=av;refine cG func130 fun _=>?_;repeat(refine sA ?_;intros)
 rename_i b4;refine G.loop (X:=Nat) (fun v=>v≤N∧∀u,u<v→sdE es ls u a=sdE es ls u b) (fun v=>[(9,Z9 Z8 v),(4,pv b4),(1,.slice pa N ka),(2,Z9 Z8 a),(3,Z9 Z8 b)])
  (fun _=>[[(b4,row [Z9 Z8 N,.slice (some ⟨b0,off,none⟩) m cap] 24)],[(b0,Al cs T fz)],cv,Fu bl ls]) (fun v=>N-v) 0 ⟨AT _,oM⟩ (body:=?_)
 rintro v ⟨a7,ai⟩;by_cases ab:v<N
 ·obtain⟨vb,rest,rfl,rfl,_,_,_⟩:∃b rest,pa=some ⟨b,0,none⟩∧cv=[(b,row (bl.map (svw N)++rest) 117)]∧ka*1≤(bl.map (svw N)).length+rest.length∧N≤ka∧ka≤maxLen:=by
   rcases hV.2 with⟨_,e,_⟩|hh
   ·omega
   ·exact hh
  have ac:bl[v]? =some bl[v]:=AG oM;have ad:=lD (ls:=ls) (v:=v) (by rw[hO.len];exact ab);have aj:=(hO.lab v _ ad).len;have a0:(bl.map (svw N)++rest)[v]? =some (.slice (some ⟨bl[v],0,none⟩) N N):=by rw[BK oA16,BH,ac];rfl
  have hS1:=lC N bl ls v _ _ ac ad aj (ax,ay) ao;have hS2:=lC N bl ls v _ _ ac ad aj (bx,ah) aq;rw[←aw v] at hS1;rw[←az v] at hS2;dsimp only at hS1 hS2;generalize bl.map (svw N)++rest=vs at*;generalize bl[v]=bv at*;have a1:sdE es ls v a=sdE es ls v b→∀u,u<v+1→sdE es ls u a=sdE es ls u b:=fun h u hu=>by
   rcases EH (Nat.lt_succ_iff.1 hu) with rfl|h1
   ·exact h
   ·exact ai u h1
  have a2:sdE es ls v a≠sdE es ls v b→sgB N es ls a b=false:=fun h=>by
   cases hq:sgB N es ls a b with
   |false=>rfl
   |true=>exact(h (ag.1 hq v ab)).elim
  generalize sdE es ls v a=x at*;generalize sdE es ls v b=y at*;by_cases ak:x=y
  ·repeat(refine sA ?_;intros)
   refine Dn.round (v+1) ⟨ab,a1 ak⟩ oM
  ·rw[a2 ak];repeat(refine sA ?_;intros)
   (refine dP [[(b0,Al cs T fz)],[(vb,row vs 117)],Fu bl ls] ?_;exact⟨rfl,rfl⟩)
 obtain rfl:v=N:=by omega
 rw[ag.2 ai];repeat(refine sA ?_;intros)
 (refine dP [[(b0,Al cs T fz)],cv,Fu bl ls] ?_;exact⟨rfl,rfl⟩)
def Aq (es:List IE) (i:Nat):Prop:=(Ai es i).1≠(Ai es i).2
structure Qu (N:Nat) (es:List IE) (ls:List (List Int)) (i:Nat) (x:Int):Prop where
 lp:¬Aq es i→x= -1
 nl:Aq es i→∃k:Nat,x=(k:Int)∧k≤i∧Aq es k∧sgB N es ls i k=true∧∀j,j<k→Aq es j→sgB N es ls i j=false
def Fv (l:List Int) (i:Nat):Int:=l.getD i 0
theorem yD {l:List Int} {i:Nat} (h:i<l.length):l[i]? =some (Fv l i):=getD_some h
theorem yE {l:List Int} {i:Nat} (h:i<l.length) (x:Int) (j:Nat):Fv (l.set i x) j=if i=j then x else Fv l j:=by
 unfold Fv;rw[AM,AM,List.getElem?_set];by_cases aa:i=j
 ·subst aa;simp[h]
 ·simp[aa]
structure NmX where
 i:Nat
 nm:List Int
structure NkX where
 k:Nat
 x:Int
theorem lF:∀n,Bl n [Value.int .i64 0]=Au (BX n 0)
 |0=>rfl
 |n+1=>by rw[D6];show _++_=_;rw[lF n];rfl
structure Qv (N m:Nat) (es:List IE) (ls:List (List Int)) (nm:List Int):Prop where
 len:nm.length=m
 at_:∀i,i<m→Qu N es ls i (Fv nm i)
theorem yF (N:Nat) (hN:N≤1000000) (p:Option Addr) (m cap:Nat) (es:List IE) (c:Aa) (hv:Rw ecl 2 p m es c) (hm:m≤1000000) (hf:∀e∈es,inE N e):Ct AC 74 [gv N p m cap] [c] fun v H'=>∃bn nm ls,v= .slice (some ⟨bn,0,none⟩) m m∧H'=[c,[(bn,row (Au nm) 3)]]∧Kx N es ls∧Qv N m es ls nm:=by
 have hl:=hv.1;have ak:=yB N hN p m cap es c hv hm hf;unfold gv at ak⊢;refine cG func74 fun _=>?_;repeat(refine sA ?_;intros)
 rename_i b1;refine cL ak ?_;rintro _ _ ⟨pa,ka,cv,cr,ls,rfl,rfl,hA,hO⟩;try dsimp only[AA,AB]
 have al:=fun a b ha hb=>yC N hN p m cap es c hv hm hf pa ka cv cr ls hA hO a b ha hb;unfold gv at al;repeat(refine sA ?_;intros)
 rename_i bn;rw[lF];refine G.loop (X:=NmX) (fun x=>x.i≤m∧x.nm.length=m∧∀j,j<x.i→Qu N es ls j (Fv x.nm j)) (fun x=>[(5,Z9 Z8 x.i),(4,.slice (some ⟨bn,0,none⟩) m m),(3,.slice pa N ka),(1,pv b1)])
  (fun x=>[[(bn,row (Au x.nm) 3)],[(b1,row [Z9 Z8 N,.slice p m cap] 24)],c,cv,cr]) (fun x=>m-x.i) ⟨0,BX m 0⟩ ⟨AT _,by simp,fun j h=>absurd h (ED _)⟩ (body:=?_)
 rintro⟨i,nm⟩ ⟨hi,ac,ai⟩;dsimp only at hi ac ai⊢;by_cases ae:i<m;rotate_left
 ·obtain rfl:i=m:=by omega
  repeat(refine sA ?_;intros)
  (refine dP [c,[(bn,row (Au nm) 3)]] ?_;exact⟨bn,nm,ls,rfl,rfl,hO,ac,ai⟩)
 have ay:(Au nm).set i (Z9 Z8 (-1))=Au (nm.set i (-1)):=Lo _ _ _;have a5:(Au nm).length=m:=by unfold Au;rw[AQ];exact ac
 repeat(refine sA ?_;intros)
 refine G.loop (X:=NkX) (fun y=>(y.x= -1∧y.k≤i∧∀j,j<y.k→Aq es j→sgB N es ls i j=false)∨(∃q:Nat,y.x=(q:Int)∧y.k=q+1∧Qu N es ls i (q:Int)∧q≤i))
  (fun y=>[(6,Z9 Z8 y.k),(5,Z9 Z8 i),(4,.slice (some ⟨bn,0,none⟩) m m),(3,.slice pa N ka),(1,pv b1)])
  (fun y=>[[(bn,row (Au (nm.set i y.x)) 3)],[(b1,row [Z9 Z8 N,.slice p m cap] 24)],c,cv,cr]) (fun y=>i+1-y.k) ⟨0,-1⟩ (.inl ⟨rfl,AT _,fun j h=>absurd h (ED _)⟩) (body:=?_)
 rintro⟨k,x⟩ hk;dsimp only at hk⊢;have a6:(Au (nm.set i x))[i]? =some (Z9 Z8 x):=Ln (by rw[DK oM]);have ah:Qu N es ls i x→(∀j,j<i+1→Qu N es ls j (Fv (nm.set i x) j))∧(nm.set i x).length=m:=fun hx=>by
  refine⟨fun j hj=>?_,by rw[DE];exact ac⟩;rw[yE oM];by_cases am:i=j
  ·subst am;rw[if_pos rfl];exact hx
  ·rw[if_neg am];exact ai j oM
 obtain⟨b0,off,cs,T,fz,rfl,rfl,_,aa⟩:=hv.pos Iw oM;have an:=Ky (es:=es) (i:=i) oM;have q0:=aa i 0 _ _ an rfl;have q1:=aa i 1 _ _ an rfl;rw[B6] at q0;rcases hk with⟨rfl,ao,aq⟩|⟨q,rfl,rfl,az,a7⟩
 ·have au:Aq es i↔(Ai es i).1≠(Ai es i).2:=Iff.rfl;by_cases ab:Aq es i
  ·
   have av:=Ky (es:=es) (i:=k) oM;have r0:=aa k 0 _ _ av rfl;have r1:=aa k 1 _ _ av rfl;rw[B6] at r0;have aw:Aq es k↔(Ai es k).1≠(Ai es k).2:=Iff.rfl;have hTg:=al i k ae oM;have a1:(Au (nm.set i (-1))).set i (Z9 Z8 k)=Au (nm.set i (k:Int)):=by rw[Lo,List.set_set]
   have a2:(Au (nm.set i (-1))).length=m:=by unfold Au;rw[AQ,DE];exact ac
   have a3:=au.1 ab;have a0:i=k→Aq es k:=fun h=>h▸ab;have ad:=lE N es ls i;have aj:(Aq es k→sgB N es ls i k=false)→k≠i∧∀j,j<k+1→Aq es j→sgB N es ls i j=false:=fun h=>by
    refine⟨fun hq=>?_,fun j hj hn=>?_⟩
    ·subst hq;rw[h ab] at ad;cases ad
    ·rcases EH (Nat.lt_succ_iff.1 hj) with rfl|h1
     ·exact h hn
     ·exact aq j h1 hn
   have ax:Aq es k→sgB N es ls i k=true→Qu N es ls i (k:Int):=fun h1 h2=>⟨fun h=>absurd ab h,fun _=>⟨k,rfl,ao,h1,h2,aq⟩⟩
   generalize (Ai es i).1=ix at*;generalize (Ai es i).2=iy at*;by_cases ag:Aq es k
   ·have a8:=aw.1 ag;generalize (Ai es k).1=kx at*;generalize (Ai es k).2=ky at*;cases hsg:sgB N es ls i k with
    |true=>
     rw[hsg] at hTg;have hy:=ax ag hsg;clear aj a0;repeat(refine sA ?_;intros)
     refine Dn.round ⟨k+1,(k:Int)⟩ (.inr ⟨k,rfl,rfl,hy,ao⟩) oD
    |false=>
     rw[hsg] at hTg;obtain⟨h1,h2⟩:=aj (fun _=>hsg);repeat(refine sA ?_;intros)
     refine Dn.round ⟨k+1,-1⟩ (.inl ⟨rfl,oD,h2⟩) oD
   ·obtain⟨h1,h2⟩:=aj (fun h=>absurd h ag);have a9:(Ai es k).1=(Ai es k).2:=BS fun h=>ag (aw.2 h);generalize (Ai es k).1=kx at*;generalize (Ai es k).2=ky at*;repeat(refine sA ?_;intros)
    refine Dn.round ⟨k+1,-1⟩ (.inl ⟨rfl,oD,h2⟩) oD
  ·have hx:Qu N es ls i (-1):=⟨fun _=>rfl,fun h=>absurd h ab⟩
   obtain⟨o1,o2⟩:=ah hx;have bc:(Ai es i).1=(Ai es i).2:=BS fun h=>ab (au.2 h);generalize (Ai es i).1=ix at*;generalize (Ai es i).2=iy at*;repeat(refine sA ?_;intros)
   refine Dn.round ⟨i+1,nm.set i (-1)⟩ ⟨ae,o2,o1⟩ oD
 ·obtain⟨o1,o2⟩:=ah az;generalize (Ai es i).1=ix at*;generalize (Ai es i).2=iy at*;by_cases a4:q+1≤i
  ·repeat(refine sA ?_;intros)
   refine Dn.round ⟨i+1,nm.set i (q:Int)⟩ ⟨ae,o2,o1⟩ oD
  ·repeat(refine sA ?_;intros)
   refine Dn.round ⟨i+1,nm.set i (q:Int)⟩ ⟨ae,o2,o1⟩ oD
def Kg (nm:List Int) (n:Nat):List T5:=((BA n).filter fun (i:Nat)=>decide (0≤Fv nm i)).map fun (i:Nat)=>⟨(i:Int),Fv nm i,0,0,0⟩
theorem yG (nm:List Int) (n:Nat):Kg nm (n+1)=Kg nm n++if 0≤Fv nm n then[⟨(n:Int),Fv nm n,0,0,0⟩] else[]:=by
 unfold Kg;rw[DT,CA,AY];congr 1;by_cases h:0≤Fv nm n
 ·rw[if_pos h];simp[h]
 ·rw[if_neg h];simp[h]
theorem yH (nm:List Int) (n:Nat):(Kg nm n).length≤n:=by unfold Kg;rw[AQ];have:=List.length_filter_le (fun i=>decide (0≤Fv nm i)) (BA n);rw[List.length_range] at this;exact this
structure BkX where
 i:Nat
 n:Nat
 p:Option Addr
 cap:Nat
 ch:Aa
theorem yI (N:Nat) (hN:N≤1000000) (p:Option Addr) (m cap:Nat) (es:List IE) (c:Aa) (hv:Rw ecl 2 p m es c) (hm:m≤1000000) (hf:∀e∈es,inE N e):Ct AC 36 [gv N p m cap] [c] fun v H'=>∃pb nb kb cb nm ls,v= .slice pb nb kb∧H'=[c,cb]∧RV pb nb (Kg nm m) cb∧Kx N es ls∧Qv N m es ls nm:=by
 have ac:=yF N hN p m cap es c hv hm hf;unfold gv at ac⊢;refine cG func36 fun _=>?_;repeat(refine sA ?_;intros)
 rename_i b1;refine cL ac ?_;rintro _ _ ⟨bn,nm,ls,rfl,rfl,hO,ad⟩;try dsimp only[AA,AB]
 have aj:=ad.len;repeat(refine sA ?_;intros)
 refine G.loop (X:=BkX) (fun x=>x.i≤m∧x.n≤x.i∧Vec 33 5 x.p x.n x.cap (flat (Kg nm x.i)) x.ch)
  (fun x=>[(5,Z9 Z8 x.i),(3,.slice x.p x.n x.cap),(4,.slice (some ⟨bn,0,none⟩) m m)])
  (fun x=>[x.ch,[(bn,row (Au nm) 3)],c]) (fun x=>m-x.i) ⟨0,0,none,0,[]⟩ ⟨AT _,AT _,Vec.nil _ _⟩ oA7 oA3 ?_
 rintro⟨i,n,q,qc,ch⟩ ⟨hi,hn,hV⟩;dsimp only at hi hn hV⊢;by_cases ae:i<m;rotate_left
 ·obtain rfl:i=m:=by omega
  repeat(refine sA ?_;intros)
  (refine dP [c,ch] ?_;exact⟨q,n,qc,ch,nm,ls,rfl,rfl,RV.vec hV,hO,ad⟩)
 have hg:=Ln (yD (l:=nm) (i:=i) oM);have aa:=yG nm i;have ak:n+1≤maxLen:=by simp only[maxLen];omega
 generalize Fv nm i=x at*;by_cases hx:0≤x
 ·rw[if_pos hx] at aa;have ag:flat (Kg nm (i+1))=flat (Kg nm i)++[Z9 Z8 i,Z9 Z8 x,Z9 Z8 0,Z9 Z8 0,Z9 Z8 0]:=by rw[aa,flat_append];rfl
  repeat(refine sA ?_;intros)
  rename_i p' ab c' ah;have ai:Vec 33 5 p' (n+1) ab (flat (Kg nm (i+1))) c':=by rw[ag];exact ah
  refine Dn.round ⟨i+1,n+1,p',ab,c'⟩ ⟨ae,oD,ai⟩ oD
 ·rw[if_neg hx,AP] at aa;repeat(refine sA ?_;intros)
  refine Dn.round ⟨i+1,n,q,qc,ch⟩ ⟨ae,oD,by dsimp only;rw[aa];exact hV⟩ oD
def lvE (ls:List (List Int)) (v u:Nat):Int:=Fv (Uv ls v) u
def Act (es:List IE) (v:Nat) (i:Nat):Prop:=Ey es [] (v:Int) i
theorem Fh {N:Nat} {es:List IE} (hf:∀e∈es,inE N e) {v i:Nat}:Act es v i↔i<es.length∧(gE es i).1≠v∧(gE es i).2≠v:=by
 unfold Act Ey;constructor
 ·rintro⟨e,he,h1,h2,_⟩;have h3:=hf e (A0 he);unfold inE at h3;refine⟨(AK.1 he).1,?_⟩;unfold gE;rw[he];dsimp only;omega
 ·rintro⟨h1,h2,h3⟩;have he:es[i]? =some es[i]:=AG h1;have h4:=hf _ (B7 h1);unfold inE at h4;unfold gE at h2 h3;rw[he] at h2 h3;dsimp only at h2 h3;exact⟨_,he,oM,oM,by simp⟩
theorem Fw {es:List IE} {i:Nat} (h:i<es.length):gE es i=((Ai es i).1.toNat,(Ai es i).2.toNat):=by unfold gE;rw[Ky h]
section
variable {N m:Nat} {es:List IE} {ls:List (List Int)} {nm:List Int}
theorem Kx.lab_at (h:Kx N es ls) {v u:Nat} (hv:v<N) (hu:u<N) (aa:u≠v):∃x:Nat,lvE ls v u=(x:Int)∧Cn (gE es) (Act es v) u x∧∀w,Cn (gE es) (Act es v) u w→x≤w:=by have hl:=lD (ls:=ls) (v:=v) (by rw[h.len];exact hv);obtain⟨x,h1,h2,_,h3⟩:=(h.lab v _ hl).at_ u hu oM;refine⟨x,?_,h2,h3⟩;unfold lvE Fv;rw[AM,h1];rfl
theorem Kx.lab_eq (h:Kx N es ls) {v u w:Nat} (hv:v<N) (hu:u<N) (hw:w<N) (ab:u≠v) (aa:w≠v):lvE ls v u=lvE ls v w↔Cn (gE es) (Act es v) u w:=by
 obtain⟨x,h1,h2,h3⟩:=h.lab_at hv hu ab;obtain⟨y,g1,g2,g3⟩:=h.lab_at hv hw aa;rw[h1,g1];constructor
 ·intro hq;obtain rfl:x=y:=by omega
  exact h2.trans g2.symm
 ·intro hc;have a:=h3 y (hc.trans g2);have b:=g3 x (hc.symm.trans h2);omega
def Cy (es:List IE) (i u:Nat):Prop:=(Ai es i).1=(u:Int)∨(Ai es i).2=(u:Int)
theorem Lt (h:Kx N es ls) (hf:∀e∈es,inE N e) (hm:es.length=m) {v i u:Nat} (hv:v<N) (hi:i<m) (hn:Aq es i) (hu:Cy es i u) (aa:u≠v):sdE es ls v i=lvE ls v u:=by
 have he:=Iz hf (i:=i) oM;unfold inE at he;have hg:=Fw (es:=es) (i:=i) oM;unfold Aq at hn;unfold sdE Td lvE Fv;unfold Cy at hu;by_cases h1:(Ai es i).1=(v:Int)
 ·rw[if_pos h1];rcases hu with hu|hu
  ·omega
  ·rw[hu,AU]
 ·rw[if_neg h1];rcases hu with hu|hu
  ·rw[hu,AU]
  ·have hc:Cn (gE es) (Act es v) (Ai es i).1.toNat u:=by have h2:Act es v i:=(Fh hf).2 ⟨oM,by rw[hg];dsimp only;omega,by rw[hg];dsimp only;omega⟩;have h3:=Cn.edge (g:=gE es) h2;rw[hg] at h3;dsimp only at h3;rwa[hu,AU] at h3
   exact(h.lab_eq hv oM oM oM aa).2 hc
def Sg (N:Nat) (es:List IE) (ls:List (List Int)) (i k:Nat):Prop:=∀v,v<N→sdE es ls v i=sdE es ls v k
theorem sg_of (h:Kx N es ls) (hf:∀e∈es,inE N e) (hm:es.length=m) {v i k:Nat} (hi:i<m) (hk:k<m) (ac:Aq es i) (ab:Aq es k) (ae:Cy es i v) (ad:Cy es k v) (he:sdE es ls v i=sdE es ls v k):Sg N es ls i k:=by
 intro w hw;by_cases aa:w=v
 ·subst aa;exact he
 ·rw[Lt h hf hm hw hi ac ae (fun hq=>aa hq.symm),Lt h hf hm hw hk ab ad (fun hq=>aa hq.symm)]
theorem Qv.of (h:Qv N m es ls nm) {i:Nat} (hi:i<m) (hx:Fv nm i≠-1):Aq es i∧∃k:Nat,Fv nm i=(k:Int)∧k≤i∧Aq es k∧Sg N es ls i k∧∀j,j<k→Aq es j→¬Sg N es ls i j:=by have h1:=h.at_ i hi;have hn:Aq es i:=BS fun hq=>hx (h1.lp hq);obtain⟨k,h2,h3,h4,h5,h6⟩:=h1.nl hn;refine⟨hn,k,h2,h3,h4,Xp.1 h5,fun j hj aa hs=>?_⟩;have:=h6 j hj aa;rw[Xp.2 hs] at this;cases this
theorem Qv.some_ (h:Qv N m es ls nm) {i:Nat} (hi:i<m) (hn:Aq es i):Fv nm i≠-1:=by obtain⟨k,h2,_⟩:=(h.at_ i hi).nl hn;omega
end
structure BcX (N:Nat) (es:List IE) (ls:List (List Int)) (lab:List Int) (fl:List Bool) (r b:List T5) (tl:List (Nat×Fo)) (l:List T5):Prop where
 ap:Kx N es ls
 inn:∀e∈es,inE N e
 parts:Av N es lab fl r b
 tab:Ao N es lab b tl l
 big:N≤1000000
def AuxP (N:Nat) (es:List IE) (fl:List Bool) (l:List T5) (u v:Nat):Prop:=
 (Adj es fl u v∧¬Sub l u v∧¬Sub l v u)∨((at5 l u).c1=(v:Int)∧(at5 l v).c1≠-1∧∃a w,a<N∧w<N∧Sub l u a∧Adj es fl a w∧¬Sub l v w)
def Cu (es:List IE) (i u v:Nat):Prop:=i<es.length∧((gE es i).1=u∧(gE es i).2=v∨(gE es i).1=v∧(gE es i).2=u)
theorem Cu.symm {es:List IE} {i u v:Nat} (h:Cu es i u v):Cu es i v u:=⟨h.1,h.2.symm⟩
namespace BcX
variable {N:Nat} {es:List IE} {ls:List (List Int)} {lab:List Int} {fl:List Bool} {r b:List T5} {tl:List (Nat×Fo)} {l:List T5} (X:BcX N es ls lab fl r b tl l)
include X
theorem end_lt {i u v:Nat} (h:Cu es i u v):u<N∧v<N:=by obtain⟨h1,h2⟩:=h;have h3:=Iz X.inn h1;unfold inE at h3;rw[Fw h1] at h2;dsimp only at h2;omega
theorem end_at {i u v:Nat} (h:Cu es i u v):Cy es i u∧Cy es i v:=by obtain⟨h1,h2⟩:=h;have h3:=Iz X.inn h1;unfold inE at h3;rw[Fw h1] at h2;dsimp only at h2;unfold Cy;omega
theorem end_ne {i u v:Nat} (h:Cu es i u v) (aa:u≠v):Aq es i:=by obtain⟨h1,h2⟩:=h;have h3:=Iz X.inn h1;unfold inE at h3;rw[Fw h1] at h2;dsimp only at h2;unfold Aq;omega
theorem end_act {i u v w:Nat} (h:Cu es i u v) (hu:u≠w) (hv:v≠w):Jn (gE es) (Act es w) u v:=
 ⟨i,(Fh X.inn).2 ⟨h.1,by rcases h.2 with⟨a,c⟩|⟨a,c⟩<;>omega,by rcases h.2 with⟨a,c⟩|⟨a,c⟩<;>omega⟩,h.2⟩
theorem end_lab {i u v:Nat} (h:Cu es i u v):lab[u]? =lab[v]? :=X.parts.labs.same (X.end_lt h).1 (X.end_lt h).2 (.one ⟨i,h.1,h.2⟩)
theorem up_in {v z:Nat} (hv:v<N) (hz:¬Sub l v z):∀(q:Nat) {a:Nat},a<N→(at5 l a).c2≤(q:Int)→Sub l v a→Cn (gE es) (Act es z) a v:=by
 have hT:=X.tab;have step:∀{a p:Nat},a<N→p<N→Jn (gE es) (fun i=>i<es.length) p a→Sub l v a→Sub l v p→Cn (gE es) (Act es z) a p:=by rintro a p ha hp ⟨i,hi,he⟩ h1 h2;exact .one (X.end_act (Cu.symm ⟨hi,he⟩) (fun h=>hz (h▸h1)) (fun h=>hz (h▸h2)))
 intro q;induction q with
 |zero=>
  intro a ha hq hs;rcases hT.par ha with⟨h,_⟩|⟨p,hp,h,_,h5,_⟩
  ·rw[(Kw hT hv ha h).1 hs];exact .refl _
  ·have:=hT.bnd hp;omega
 |succ q ih=>
  intro a ha hq hs;rcases hT.par ha with⟨h,_⟩|⟨p,hp,h,_,h5,_,h6⟩
  ·rw[(Kw hT hv ha h).1 hs];exact .refl _
  ·rcases(Ft hT hv ha hp h).1 hs with rfl|h7
   ·exact .refl _
   ·exact(step ha hp h6 hs h7).trans (ih hp oM h7)
theorem top {v z a:Nat} (hv:v<N) (ha:a<N) (hz:¬Sub l v z) (h:Sub l v a):Cn (gE es) (Act es z) a v:=X.up_in hv hz (at5 l a).c2.toNat ha (by have:=X.tab.bnd ha;omega) h
theorem up_out {v:Nat} (hv:v<N):∀(q:Nat) {a:Nat},a<N→(at5 l a).c2≤(q:Int)→¬Sub l v a→∃x:Nat,lab[a]? =some (x:Int)∧Cn (gE es) (Act es v) a x:=by
 have hT:=X.tab;intro q;induction q with
 |zero=>
  intro a ha hq hs;rcases hT.par ha with⟨_,_,h⟩|⟨p,hp,h,_,h5,_⟩
  ·exact⟨a,h,.refl _⟩
  ·have:=hT.bnd hp;omega
 |succ q ih=>
  intro a ha hq hs;rcases hT.par ha with⟨_,_,h⟩|⟨p,hp,h,_,h5,_,i,hi,h6⟩
  ·exact⟨a,h,.refl _⟩
  ·have aa:¬Sub l v p:=fun h7=>hs ((Ft hT hv ha hp h).2 (.inr h7));obtain⟨x,h8,h9⟩:=ih hp oM aa;have he:Cu es i a p:=Cu.symm ⟨hi,h6⟩;exact⟨x,by rw[X.end_lab he];exact h8,(Cn.one (X.end_act he (fun h=>hs (by rw[h];exact Hs hT hv)) (fun h=>aa (by rw[h];exact Hs hT hv)))).trans h9⟩
theorem out_cn {v a c:Nat} (hv:v<N) (ha:a<N) (hc:c<N) (h1:¬Sub l v a) (h2:¬Sub l v c) (hl:lab[a]? =lab[c]?):Cn (gE es) (Act es v) a c:=by
 obtain⟨x,e1,e2⟩:=X.up_out hv (at5 l a).c2.toNat ha (by have:=X.tab.bnd ha;omega) h1;obtain⟨y,g1,g2⟩:=X.up_out hv (at5 l c).c2.toNat hc (by have:=X.tab.bnd hc;omega) h2;rw[e1,g1] at hl;obtain rfl:x=y:=by have:=BF hl;omega
 exact e2.trans g2.symm
theorem sg_at {i k v u w:Nat} (hi:Cu es i v u) (hk:Cu es k v w) (hu:u≠v) (hw:w≠v) (h:Cn (gE es) (Act es v) u w):Sg N es ls i k:=by obtain⟨hv,aa⟩:=X.end_lt hi;have ab:=(X.end_lt hk).2;refine sg_of X.ap X.inn rfl hi.1 hk.1 (X.end_ne hi fun h=>hu h.symm) (X.end_ne hk fun h=>hw h.symm) (X.end_at hi).1 (X.end_at hk).1 ?_;rw[Lt X.ap X.inn rfl hv hi.1 (X.end_ne hi fun h=>hu h.symm) (X.end_at hi).2 hu,Lt X.ap X.inn rfl hv hk.1 (X.end_ne hk fun h=>hw h.symm) (X.end_at hk).2 hw];exact(X.ap.lab_eq hv aa ab hu hw).2 h
theorem par_not {v p:Nat} (hv:v<N) (hp:(at5 l v).c1=(p:Int)):¬Sub l v p∧p≠v∧p<N:=by
 rcases X.tab.par hv with⟨h,_⟩|⟨p',aa,h,_,h5,_⟩
 ·omega
 ·obtain rfl:p'=p:=by omega
  exact⟨fun h=>by have:=h.1;omega,fun h=>by subst h;omega,aa⟩
theorem own {i v u:Nat} (hi:Cu es i v u) (hs:¬Sub l v u):∃p:Nat,(at5 l v).c1=(p:Int)∧p<N∧∀j,Cu es j v p→Sg N es ls i j:=by
 obtain⟨hv,hu⟩:=X.end_lt hi;have hT:=X.tab;rcases hT.par hv with⟨h,_⟩|⟨p,hp,h,_,h5,h6,h7⟩
 ·exact absurd (lB X.parts hT hv hu h (X.end_lab hi).symm) hs
 ·obtain⟨h8,h9,_⟩:=X.par_not hv h;refine⟨p,h,hp,fun j hj=>X.sg_at hi hj (fun hq=>hs (by rw[hq];exact Hs hT hv)) h9 ?_⟩;exact X.out_cn hv hu hp hs h8 ((X.end_lab hi).symm.trans (X.end_lab hj))
theorem par_sg {v p i j:Nat} (hv:v<N) (hp:(at5 l v).c1=(p:Int)) (hi:Cu es i v p) (hj:Cu es j v p):Sg N es ls i j:=
 X.sg_at hi hj (X.par_not hv hp).2.1 (X.par_not hv hp).2.1 (.refl _)
theorem adj_ends {u v:Nat} (h:Adj es fl u v):∃i,Cu es i u v:=by have _:=X;obtain⟨i,e,he,_,h⟩:=h;have hi:=(AK.1 he).1;refine⟨i,hi,?_⟩;unfold gE;rw[he];dsimp only;omega
theorem aux_sg {u v:Nat} (hu:u<N) (hv:v<N) (h:AuxP N es fl l u v):∃p q:Nat,(at5 l u).c1=(p:Int)∧(at5 l v).c1=(q:Int)∧p<N∧q<N∧∀i j,Cu es i u p→Cu es j v q→Sg N es ls i j:=by
 have hT:=X.tab;rcases h with⟨h1,h2,h3⟩|⟨h1,h2,a,w,ha,hw,h3,h4,h5⟩
 ·obtain⟨i,hi⟩:=X.adj_ends h1;obtain⟨p,p1,p2,p3⟩:=X.own hi h2;obtain⟨q,q1,q2,q3⟩:=X.own hi.symm h3;exact⟨p,q,p1,q1,p2,q2,fun j k hj hk z hz=>((p3 j hj) z hz).symm.trans ((q3 k hk) z hz)⟩
 ·rcases hT.par hv with⟨h,_⟩|⟨q,hq,h,_⟩
  ·exact absurd h h2
  ·obtain⟨p1,p2,_⟩:=X.par_not hu h1;obtain⟨q1,q2,_⟩:=X.par_not hv h;refine⟨v,q,h1,h,hv,hq,fun i j hi hj=>X.sg_at hi.symm hj (fun hq=>p2 hq.symm) q2 ?_⟩;obtain⟨k,hk⟩:=X.adj_ends h4;have aa:a≠v:=fun hq=>p1 (hq▸h3);have ab:w≠v:=fun hq=>h5 (by rw[hq];exact Hs hT hv);have hl:lab[w]? =lab[q]? :=by rw[←X.end_lab hk,←X.end_lab hj,←X.end_lab hi];exact(lA X.parts hT N hu ha (by have:=hT.bnd ha;omega) h3).symm
   exact(X.top hu ha p1 h3).symm.trans ((Cn.one (X.end_act hk aa ab)).trans (X.out_cn hv hw hq h5 q1 hl))
theorem par_ed {v p:Nat} (hv:v<N) (h:(at5 l v).c1=(p:Int)):∃j,Cu es j v p:=by
 rcases X.tab.par hv with⟨h1,_⟩|⟨p',aa,h1,_,_,_,i,hi,h2⟩
 ·omega
 ·obtain rfl:p'=p:=by omega
  exact⟨i,Cu.symm ⟨hi,h2⟩⟩
theorem adj_of {i u v:Nat} (hi:Cu es i u v) (h1:(at5 l u).c1≠(v:Int)) (h2:(at5 l v).c1≠(u:Int)):Adj es fl u v:=by
 obtain⟨hl,he⟩:=hi;have aa:i<fl.length:=by rw[X.parts.fors.1];exact hl
 have hd:=Ky hl;have ab:=Iz X.inn hl;unfold inE at ab;refine⟨i,Ai es i,hd,?_,?_⟩
 ·cases hb:fl[i] with
  |false=>rw[AG aa,hb]
  |true=>
   have hF:Fs fl i:=by unfold Fs;rw[AG aa,hb]
   rcases xU X.parts X.inn X.tab X.big ⟨i,hF,he⟩ with h|h
   ·exact absurd h h2
   ·exact absurd h h1
 ·rw[Fw hl] at he;dsimp only at he;omega
end BcX
end Go.Proofs.YtaofijjjheiknaaGreat
