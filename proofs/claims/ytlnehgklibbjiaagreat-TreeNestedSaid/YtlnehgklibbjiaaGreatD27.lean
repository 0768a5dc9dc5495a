/-
  Parts of the proof, put together: Vs2, Trees, GraphIn, TreeFaults0, TreeW, TreeNested0. No condition.
-/
import Derived.Deep.SlicePairs
import Derived.Test.YtlnehgklibbjiaaGreatD26
set_option linter.unusedVariables false
set_option linter.unusedSimpArgs false
set_option linter.unnecessarySimpa false
set_option maxHeartbeats 4000000
namespace Go.Proofs.YtlnehgklibbjiaaGreat
open Go.SL Go.Tup Go.Gr Go.Srt
theorem flat_congr {α β:Type} {f g:α→List β}:∀{l:List α},(∀x∈l,f x=g x)→l.flatMap f=l.flatMap g
 |[],_=>rfl
 |x::l,h=>by rw[List.flatMap_cons,List.flatMap_cons,h x List.mem_cons_self,flat_congr fun y hy=>h y (List.mem_cons_of_mem _ hy)]
def Je (es:List IE) (u:Int) (v:Nat):Prop:=0≤u∧Jn (gE es) (fun i=>i<es.length) u.toNat v
def ofLab (b:List T5) (x:Int):List T5:=b.filter fun t=>decide (t.c3=x)
structure LabT (es:List IE) (lab:List Int) (b:List T5) (x:Nat) (T:Fo):Prop where
 vis:(ofLab b x).map (visT b)=trv x 0 x T
 nd:T.vs.Nodup
 vs:∀v,v∈T.vs↔lab[v]? =some (x:Int)∧v≠x
 jo:T.Jo (Je es) x
 root:lab[x]? =some (x:Int)
namespace PartsOk
variable {N:Nat} {es:List IE} {lab:List Int} {fl:List Bool} {r b:List T5}
theorem lab_cn (h:PartsOk N es lab fl r b) {v x:Nat} (hv:lab[v]? =some (x:Int)):v<N∧Cn (gE es) (Fs fl) v x:=by
 have hN:v<N:=by rw[←h.labs.len];exact(List.getElem?_eq_some_iff.1 hv).1
 obtain⟨y,h1,_,h3,_⟩:=h.labs.root hN
 have:=Option.some.inj (hv.symm.trans h1)
 obtain rfl:x=y:=by omega
 exact⟨hN,h.cn_f.1 h3⟩
theorem lab_arc (h:PartsOk N es lab fl r b) (hf:∀e∈es,inE N e) {v x:Nat} (hv:lab[v]? =some (x:Int)) (hne:v≠x):∃k,k<r.length∧(at5 r k).c1=v∧(at5 r k).c3=x:=by
 obtain⟨hN,hc⟩:=h.lab_cn hv
 have hs:=hc.symm
 cases hs with
 |refl=>exact(hne rfl).elim
 |step _ hj=>
  obtain⟨k,hk,k1,_⟩:=h.arc_at hf hj.symm
  obtain⟨y,y1,_,y2,_⟩:=h.lab_at hf hk
  refine⟨k,hk,k1,?_⟩
  rw[k1,Int.toNat_natCast,hv] at y2
  rw[y1]
  exact(Option.some.inj y2).symm
theorem ofLab_eq (h:PartsOk N es lab fl r b) (hf:∀e∈es,inE N e) (x:Int):ofLab b x=(List.range r.length).flatMap fun j=>if rootB r j then(if(at5 r j).c3=x then tourL r j else[]) else[]:=by
 unfold ofLab
 conv=>lhs;rw[h.tours]
 unfold toursF toursTo
 rw[List.filter_flatMap]
 refine flat_congr fun j hj=> ?_
 have hj:=List.mem_range.1 hj
 split
 next hr=>
  have hc:∀t∈tourL r j,t.c3=(at5 r j).c3:=fun t ht=>by
   obtain⟨n,_,rfl⟩:=List.mem_map.1 ht
   exact h.arcs.it_lab (h.hl hf) hj n
  split
  next hx=>exact List.filter_eq_self.2 fun t ht=>decide_eq_true (by rw[hc t ht,hx])
  next hx=>
   exact List.filter_eq_nil_iff.2 fun t ht=>by
    have:=hc t ht
    simp only[decide_eq_true_eq]
    rw[this];exact hx
 next=>rfl
theorem label_tree (h:PartsOk N es lab fl r b) (hf:∀e∈es,inE N e) {x:Nat} (hx:lab[x]? =some (x:Int)):∃T,LabT es lab b x T:=by
 by_cases hex:∃i,i<r.length∧rootB r i=true∧(at5 r i).c3=(x:Int)
 ·obtain⟨i,hi,hr,hc3⟩:=hex
  have huniq:∀j,j<r.length→rootB r j=true→(at5 r j).c3=(x:Int)→j=i:=by
   intro j hj hrj hcj
   rcases Nat.lt_trichotomy i j with h1|h1|h1
   ·exact(h.arcs.root_uniq h1 hj hr hrj (by rw[hc3,hcj])).elim
   ·exact h1.symm
   ·exact(h.arcs.root_uniq h1 hi hrj hr (by rw[hc3,hcj])).elim
  have hb:ofLab b x=tourL r i:=by
   rw[h.ofLab_eq hf]
   have:=flat_one (tourL r i) i (p:=fun j=>rootB r j&&decide ((at5 r j).c3=(x:Int))) (n:=r.length) (fun j hj hp=>by
    rw[Bool.and_eq_true,decide_eq_true_eq] at hp
    exact huniq j hj hp.1 hp.2)
   rw[if_pos ⟨hi,by rw[Bool.and_eq_true,decide_eq_true_eq];exact⟨hr,hc3⟩⟩] at this
   rw[←this]
   refine flat_congr fun j hj=> ?_
   have hj:=List.mem_range.1 hj
   by_cases h1:rootB r j=true
   ·by_cases h2:(at5 r j).c3=(x:Int)
    ·have:=huniq j hj h1 h2
     subst this
     simp[h1,h2]
    ·simp[h1,h2]
   ·simp[h1]
  have htw:=h.tw hf hi
  obtain⟨T,hT⟩:=htw.trees
  have hlen:=hT.len
  have hroot:=hr
  unfold rootB at hroot
  obtain⟨hroot,_⟩:=of_decide_eq_true hroot
  have hv0:vtA r i 0=x:=by show(at5 r i).c1.toNat=x;rw[hroot,hc3,Int.toNat_natCast]
  refine⟨T,?_,htw.vs_nodup (Nat.le_refl _) hT,?_,?_,hx⟩
  ·rw[hb]
   have hv:=hT.vis (x:=(x:Int)) (f:=fun n=>visT b (arcAt r i n)) (fun n hn=>by
    rw[h.vis_at hf hi hr,hc3])
   rw[hv0] at hv
   rw[←hv,show 2*T.sz=perA r i by omega]
   unfold tourL
   rw[List.map_map,List.range_eq_range'];rfl
  ·intro v
   rw[hT.vs_mem v]
   constructor
   ·rintro⟨k,_,k2,k3,rfl⟩
    refine⟨?_,fun hq=>htw.first k2 k3 (Nat.zero_le k) (by rw[hv0];exact hq.symm)⟩
    obtain⟨y,y1,_,y2,_⟩:=h.lab_at hf (itF_lt (f:=sigF r) sigF_lt hi (k+1))
    rw[h.arcs.it_lab (h.hl hf) hi,hc3] at y1
    unfold vtA
    rw[y2,←y1]
   ·rintro⟨hv,hne⟩
    obtain⟨k,hk,k1,k2⟩:=h.lab_arc hf hv hne
    obtain⟨i',hi',hr',hc',hR⟩:=h.root_of hf hk
    have:=huniq i' hi' hr' (by rw[hc',k2])
    subst this
    obtain⟨n,hn,he⟩:=h.arcs.pos_of hi hR
    have hvn:vtA r i' n=v:=by unfold vtA;rw[he,k1,Int.toNat_natCast]
    obtain⟨p,p1,p2,p3⟩:=htw.down_of (j:=n) (by omega) (by rw[hvn,hv0];exact hne)
    exact⟨p,by omega,by omega,p2,by rw[p3,hvn]⟩
  ·have:=hT.jo (J:=Je es) (fun k hk=>by
    refine⟨by omega,edA r i k,?_,?_⟩
    ·have:=htw.mem k hk
     unfold Fs at this
     have:=(List.getElem?_eq_some_iff.1 this).1
     rw[←h.fors.1];exact this
    ·have:=htw.ends k hk
     rw[Int.toNat_natCast];exact this)
   rwa[hv0] at this
 ·have hb:ofLab b x=[]:=by
   rw[h.ofLab_eq hf]
   refine List.flatMap_eq_nil_iff.2 fun j hj=> ?_
   have hj:=List.mem_range.1 hj
   split
   next h1=>
    split
    next h2=>exact(hex ⟨j,hj,h1,h2⟩).elim
    next=>rfl
   next=>rfl
  refine⟨.nil,by rw[hb];rfl,by simp[Fo.vs],?_,trivial,hx⟩
  intro v
  simp only[Fo.vs,List.not_mem_nil,false_iff]
  rintro⟨hv,hne⟩
  obtain⟨k,hk,k1,k2⟩:=h.lab_arc hf hv hne
  obtain⟨i',hi',hr',hc',_⟩:=h.root_of hf hk
  exact hex ⟨i',hi',hr',by rw[hc',k2]⟩
end PartsOk
def vsT (tl:List (Nat×Fo)):List T5:=tl.flatMap fun y=>⟨(y.1:Int),-1,(y.1:Int),-1,((y.2.sz+1:Nat):Int)⟩::trv y.1 0 y.1 y.2
def grove:List (Nat×Fo)→Fo
 |[]=> .nil
 |y::tl=> .node y.1 y.2 (grove tl)
theorem vsT_cons (y:Nat×Fo) (tl:List (Nat×Fo)):vsT (y::tl)=⟨(y.1:Int),-1,(y.1:Int),-1,((y.2.sz+1:Nat):Int)⟩::(trv y.1 0 y.1 y.2++vsT tl):=by unfold vsT;rw[List.flatMap_cons];rfl
theorem trv_b {x:Int}:∀{T:Fo} {p:Nat} {u:Int} {e:T5},e∈trv x p u T→e.c0=x∧(p:Int)≤e.c1∧e.c1<((p+2*T.sz:Nat):Int)
 | .nil,_,_,_,h=>by simp[trv] at h
 | .node v s r,p,u,e,h=>by
  simp only[trv,List.mem_cons,List.mem_append] at h
  simp only[Fo.sz]
  rcases h with rfl|h|rfl|h
  ·refine⟨rfl,by dsimp only;omega,by dsimp only;omega⟩
  ·have:=trv_b h;exact⟨this.1,by omega,by omega⟩
  ·refine⟨rfl,by dsimp only;omega,by dsimp only;omega⟩
  ·have:=trv_b h;exact⟨this.1,by omega,by omega⟩
theorem trv_sorted {x:Int}:∀{T:Fo} {p:Nat} {u:Int},(trv x p u T).Pairwise fun a b=>ltO o12 a b=true
 | .nil,_,_=> .nil
 | .node v s r,p,u=>by
  simp only[trv,List.pairwise_cons,List.pairwise_append,List.mem_append,List.mem_cons]
  refine⟨?_,trv_sorted,⟨?_,trv_sorted⟩,?_⟩
  ·rintro e (h|rfl|h)<;>rw[ltO_o12]
   ·have:=trv_b h;dsimp only;omega
   ·dsimp only;omega
   ·have:=trv_b h;dsimp only;omega
  ·intro e h
   have:=trv_b h;rw[ltO_o12];dsimp only;omega
  ·rintro a ha e (rfl|h)<;>rw[ltO_o12]<;>have h1:=trv_b ha
   ·dsimp only;omega
   ·have:=trv_b h;omega
theorem vsT_c0:∀{tl:List (Nat×Fo)} {e:T5},e∈vsT tl→∃y∈tl,e.c0=(y.1:Int)
 |[],_,h=>by simp[vsT] at h
 |y::tl,e,h=>by
  rw[vsT_cons] at h
  simp only[List.mem_cons,List.mem_append] at h
  rcases h with rfl|h|h
  ·exact⟨y,List.mem_cons_self,rfl⟩
  ·exact⟨y,List.mem_cons_self,(trv_b h).1⟩
  ·obtain⟨z,hz,he⟩:=vsT_c0 h
   exact⟨z,List.mem_cons_of_mem _ hz,he⟩
theorem vsT_sorted:∀{tl:List (Nat×Fo)},tl.Pairwise (fun a b=>a.1<b.1)→(vsT tl).Pairwise fun a b=>ltO o12 a b=true
 |[],_=> .nil
 |y::tl,h=>by
  rw[List.pairwise_cons] at h
  rw[vsT_cons]
  simp only[List.pairwise_cons,List.pairwise_append,List.mem_append]
  refine⟨?_,trv_sorted,vsT_sorted h.2,?_⟩
  ·rintro e (he|he)<;>rw[ltO_o12]
   ·have:=trv_b he;dsimp only;omega
   ·obtain⟨z,hz,hq⟩:=vsT_c0 he
    have:=h.1 z hz;dsimp only;omega
  ·intro a ha e he
   rw[ltO_o12]
   obtain⟨z,hz,hq⟩:=vsT_c0 he
   have:=h.1 z hz
   have:=trv_b ha;omega
theorem flat_perm {α:Type} (a:α→T5) (g:α→List T5):∀l:List α,(l.flatMap fun y=>a y::g y).Perm (l.map a++l.flatMap g)
 |[]=> .refl _
 |y::l=>by
  rw[List.flatMap_cons,List.flatMap_cons,List.map_cons,List.cons_append,List.cons_append]
  exact(((flat_perm a g l).append_left (g y)).trans (List.perm_append_comm_assoc ..)).cons _
theorem flat_filter (b:List T5):∀{l:List Int},l.Pairwise (·<·)→(l.flatMap (ofLab b)).Perm (b.filter fun t=>decide (t.c3∈l))
 |[],_=>by simp
 |y::l,h=>by
  rw[List.pairwise_cons] at h
  rw[List.flatMap_cons]
  have h1:=List.filter_append_perm (fun t:T5=>decide (t.c3=y)) (b.filter fun t=>decide (t.c3∈y::l))
  rw[List.filter_filter,List.filter_filter] at h1
  refine List.Perm.trans ?_ h1
  refine List.Perm.trans ((flat_filter b h.2).append_left _) (List.Perm.of_eq ?_)
  unfold ofLab
  congr 1
  ·refine List.filter_congr fun t _=> ?_
   by_cases hq:t.c3=y<;>simp[hq]
  ·refine List.filter_congr fun t _=> ?_
   by_cases hq:t.c3=y
   ·have:¬t.c3∈l:=fun hm=>by have:=h.1 _ hm;omega
    simp[hq] at this⊢
    exact this
   ·simp[hq]
theorem numM_trv {x:Int}:∀{T:Fo} {p u:Nat} {d:Int} {n:Nat},-1≤d→d+T.sz≤1000000000→n+T.sz≤1000000000→(numM 0 0).all (d,(n:Int)) (trv x p u T)=outF u d n T∧(numM 0 0).st (d,(n:Int)) (trv x p u T)=(d,((n+T.sz:Nat):Int))
 | .nil,_,_,_,_,_,_,_=>⟨rfl,rfl⟩
 | .node v s r,p,u,d,n,h1,h2,h3=>by
  simp only[Fo.sz] at h2 h3⊢
  obtain⟨a1,a2⟩:=numM_trv (x:=x) (T:=s) (p:=p+1) (u:=v) (d:=d+1) (n:=n+1) (by omega) (by omega) (by omega)
  obtain⟨b1,b2⟩:=numM_trv (x:=x) (T:=r) (p:=p+2+2*s.sz) (u:=u) (d:=d) (n:=n+1+s.sz) (by omega) (by omega) (by omega)
  have e1:IntKind.wrap .i64 (d+1)=d+1:=wrap_i64 (by omega)
  have e2:IntKind.wrap .i64 ((n:Int)+1)=((n+1:Nat):Int):=wrap_i64 (by omega)
  have e3:IntKind.wrap .i64 (((n+1:Nat):Int)-1)=(n:Int):=by rw[wrap_i64 (by omega)];omega
  have e4:IntKind.wrap .i64 (d+1-1)=d:=by rw[wrap_i64 (by omega)];omega
  have v1:¬(v:Int)= -1:=by omega
  have u1:¬(u:Int)= -1:=by omega
  have f1:(numM 0 0).outs (d,(n:Int)) ⟨x,(p:Int),(v:Int),(u:Int),((s.sz+1:Nat):Int)⟩=[⟨(v:Int),(u:Int),(n:Int),((s.sz+1:Nat):Int),d+1⟩]:=by
   unfold numM;dsimp only;rw[if_neg v1,if_neg u1,e1,e2,e3]
  have f2:(numM 0 0).next (d,(n:Int)) ⟨x,(p:Int),(v:Int),(u:Int),((s.sz+1:Nat):Int)⟩=(d+1,((n+1:Nat):Int)):=by
   unfold numM;dsimp only;rw[if_neg v1,if_neg u1,e1,e2]
  have g1:∀m q:Int,(numM 0 0).outs (d+1,m) ⟨x,q,-1,-1,0⟩=[]:=fun m q=>rfl
  have g2:∀m q:Int,(numM 0 0).next (d+1,m) ⟨x,q,-1,-1,0⟩=(d,m):=fun m q=>by
   unfold numM;dsimp only;rw[if_pos rfl,e4]
  simp only[trv,outF,Maker.all,Maker.st,Maker.all_app,Maker.st_app,f1,f2,a1,a2,g1,g2,b1,b2,List.singleton_append,List.nil_append]
  refine⟨trivial,?_⟩
  congr 1;omega
theorem numM_vsT:∀{tl:List (Nat×Fo)} {d:Int} {n:Nat},n+(grove tl).sz≤1000000000→(numM 0 0).all (d,(n:Int)) (vsT tl)=outF (-1) (-1) n (grove tl)
 |[],_,_,_=>rfl
 |y::tl,d,n,h=>by
  simp only[grove,Fo.sz] at h
  obtain⟨a1,a2⟩:=numM_trv (x:=(y.1:Int)) (T:=y.2) (p:=0) (u:=y.1) (d:=0) (n:=n+1) (by omega) (by omega) (by omega)
  have b1:=numM_vsT (tl:=tl) (d:=0) (n:=n+1+y.2.sz) (by omega)
  have e2:IntKind.wrap .i64 ((n:Int)+1)=((n+1:Nat):Int):=wrap_i64 (by omega)
  have e3:IntKind.wrap .i64 (((n+1:Nat):Int)-1)=(n:Int):=by rw[wrap_i64 (by omega)];omega
  have v1:¬(y.1:Int)= -1:=by omega
  have f1:(numM 0 0).outs (d,(n:Int)) ⟨(y.1:Int),-1,(y.1:Int),-1,((y.2.sz+1:Nat):Int)⟩=[⟨(y.1:Int),-1,(n:Int),((y.2.sz+1:Nat):Int),0⟩]:=by
   unfold numM;dsimp only;rw[if_neg v1,if_pos rfl,e2,e3]
  have f2:(numM 0 0).next (d,(n:Int)) ⟨(y.1:Int),-1,(y.1:Int),-1,((y.2.sz+1:Nat):Int)⟩=(0,((n+1:Nat):Int)):=by
   unfold numM;dsimp only;rw[if_neg v1,if_pos rfl,e2]
  rw[vsT_cons]
  simp only[grove,outF,Maker.all,Maker.all_app,f1,f2,a1,a2,b1,List.singleton_append]
  rfl
theorem count_of (x:Int):∀(l:List Int) (S:List Nat),S.Nodup→(∀v,v∈S↔l[v]? =some x)→l.count x=S.length:=by
 intro l S hn hS
 have h1:S.Perm ((List.range l.length).filter fun v=>l[v]? ==some x):=by
  rw[List.perm_ext_iff_of_nodup hn (List.nodup_range.sublist List.filter_sublist)]
  intro v
  rw[hS,List.mem_filter,List.mem_range]
  constructor
  ·intro h;exact⟨(List.getElem?_eq_some_iff.1 h).1,by simp[h]⟩
  ·intro h;simpa using h.2
 rw[h1.length_eq,←List.countP_eq_length_filter]
 clear h1 hS hn
 induction l with
 |nil=>rfl
 |cons a l ih=>
  rw[List.length_cons,List.range_succ_eq_map,List.countP_cons,List.countP_map,List.count_cons,ih]
  congr 1
theorem pick_all {l:List (Int×Nat)} {Q:Nat→Fo→Prop} (h:∀y∈l,∃(x:Nat) (T:Fo),y=((x:Int),T.sz+1)∧Q x T):∃tl:List (Nat×Fo),l=tl.map (fun z=>((z.1:Int),z.2.sz+1))∧∀z∈tl,Q z.1 z.2:=by
 induction l with
 |nil=>exact⟨[],rfl,by simp⟩
 |cons y l ih=>
  obtain⟨tl,h1,h2⟩:=ih fun z hz=>h z (List.mem_cons_of_mem _ hz)
  obtain⟨x,T,hy,hq⟩:=h y List.mem_cons_self
  refine⟨(x,T)::tl,by rw[List.map_cons,←h1,hy],fun z hz=> ?_⟩
  rcases List.mem_cons.1 hz with rfl|hz
  ·exact hq
  ·exact h2 z hz
structure TlOk (N:Nat) (es:List IE) (lab:List Int) (b:List T5) (tl:List (Nat×Fo)):Prop where
 up:tl.Pairwise fun a b=>a.1<b.1
 tree:∀y∈tl,LabT es lab b y.1 y.2
 all:∀v,v<N→∃y∈tl,lab[v]? =some (y.1:Int)
 len:lab.length=N
theorem PartsOk.tl {N:Nat} {es:List IE} {lab:List Int} {fl:List Bool} {r b:List T5} (h:PartsOk N es lab fl r b) (hf:∀e∈es,inE N e) (hN:N≤1000000):∃tl,TlOk N es lab b tl∧visitsF (labT lab) b=vsT tl:=by
 obtain⟨l,hl,hlp,hlm,hla⟩:=roots_lab (lab:=lab) (fun x hx=>by obtain⟨v,rfl,_⟩:=h.labs.mem hx;omega) (by rw[h.labs.len];exact hN)
 have hroot:∀x:Int,x∈lab→∃v:Nat,x=(v:Int)∧v<N∧lab[v]? =some (v:Int):=fun x hx=>by
  obtain⟨i,hi,rfl⟩:=List.mem_iff_getElem.1 hx
  obtain⟨v,h1,h2,h3,_⟩:=h.labs.root (v:=i) (by rw[←h.labs.len];exact hi)
  have hiN:i<N:=by rw[←h.labs.len];exact hi
  have h4:=h.labs.same (u:=v) (v:=i) (by omega) hiN h3.symm
  rw[List.getElem?_eq_getElem hi] at h1
  exact⟨v,Option.some.inj h1,by omega,by rw[h4,List.getElem?_eq_getElem hi,h1]⟩
 obtain⟨tl,ht,hQ⟩:=pick_all (l:=l) (Q:=fun x T=>LabT es lab b x T) (fun y hy=>by
  obtain⟨h1,h2⟩:=hlm y hy
  obtain⟨v,hv,hvN,hvl⟩:=hroot _ h1
  obtain⟨T,hT⟩:=h.label_tree hf hvl
  refine⟨v,T,?_,hT⟩
  have hc:=count_of (v:Int) lab (v::T.vs) (List.nodup_cons.2 ⟨fun hm=>((hT.vs v).1 hm).2 rfl,hT.nd⟩) (fun w=>by
   rw[List.mem_cons,hT.vs w]
   constructor
   ·rintro(rfl|hw)
    ·exact hvl
    ·exact hw.1
   ·intro hw
    by_cases hq:w=v
    ·exact .inl hq
    ·exact .inr ⟨hw,hq⟩)
  rw[List.length_cons,T.vs_len] at hc
  refine Prod.ext hv ?_
  rw[h2,hv,hc])
 have hup:tl.Pairwise fun a b=>a.1<b.1:=by
  rw[ht,List.pairwise_map] at hlp
  exact hlp.imp fun {a b} hab=>by simpa using hab
 have hO:TlOk N es lab b tl:=by
  refine⟨hup,hQ,fun v hv=> ?_,h.labs.len⟩
  have hv':v<lab.length:=by rw[h.labs.len];exact hv
  obtain⟨x,hx,he⟩:=hla lab[v] (List.getElem_mem hv')
  rw[ht] at hx
  obtain⟨z,hz,rfl⟩:=List.mem_map.1 hx
  exact⟨z,hz,by rw[List.getElem?_eq_getElem hv',←he]⟩
 refine⟨tl,hO,?_⟩
 have hvs:vsT tl=tl.flatMap fun y=>(⟨(y.1:Int),-1,(y.1:Int),-1,((y.2.sz+1:Nat):Int)⟩:T5)::(ofLab b y.1).map (visT b):=by
  unfold vsT
  refine flat_congr fun y hy=> ?_
  rw[(hQ y hy).vis]
 refine srt_is ?_ (vsT_sorted hup)
 rw[hvs]
 refine(flat_perm _ _ tl).trans ?_
 rw[hl,ht,List.map_map]
 refine List.Perm.append (List.Perm.of_eq (List.map_congr_left fun y _=>rfl)) ?_
 refine List.Perm.trans ?_ (h.turns_perm hf hN).symm
 rw[show(tl.flatMap fun y=>(ofLab b y.1).map (visT b))=((tl.map fun y=>(y.1:Int)).flatMap (ofLab b)).map (visT b) by rw[List.map_flatMap,List.flatMap_map]]
 refine List.Perm.map _ ((flat_filter b (by rw[List.pairwise_map];exact hup.imp fun {a b} hab=>by omega)).trans (List.Perm.of_eq (List.filter_eq_self.2 fun t htb=> ?_)))
 obtain⟨i,n,hi,hr,hn,rfl⟩:=h.b_arc htb
 obtain⟨y,y1,y2,y3,_⟩:=h.lab_at hf (itF_lt (f:=sigF r) sigF_lt hi n)
 obtain⟨_,_,c1,c2,_⟩:=h.arc_g hf (itF_lt (f:=sigF r) sigF_lt hi n)
 obtain⟨z,hz,hzl⟩:=hO.all (at5 r (itF (sigF r) n i)).c1.toNat (by omega)
 refine decide_eq_true (List.mem_map.2 ⟨z,hz,?_⟩)
 show(z.1:Int)=(at5 r (itF (sigF r) n i)).c3
 rw[y1]
 rw[y3] at hzl
 exact(Option.some.inj hzl).symm
namespace TlOk
variable {N:Nat} {es:List IE} {lab:List Int} {b:List T5}
theorem grove_mem:∀{tl:List (Nat×Fo)},(∀y∈tl,LabT es lab b y.1 y.2)→∀v,v∈(grove tl).vs↔∃y∈tl,lab[v]? =some (y.1:Int)
 |[],_,v=>by simp[grove,Fo.vs]
 |y::tl,h,v=>by
  have hy:=h y List.mem_cons_self
  simp only[grove,Fo.vs,List.mem_cons,List.mem_append,grove_mem (fun z hz=>h z (List.mem_cons_of_mem _ hz)) v,hy.vs v]
  constructor
  ·rintro(rfl|h1|h1)
   ·exact⟨y,.inl rfl,hy.root⟩
   ·exact⟨y,.inl rfl,h1.1⟩
   ·obtain⟨z,hz,h1⟩:=h1
    exact⟨z,.inr hz,h1⟩
  ·rintro⟨z,rfl|hz,h1⟩
   ·by_cases hq:v=z.1
    ·exact .inl hq
    ·exact .inr (.inl ⟨h1,hq⟩)
   ·exact .inr (.inr ⟨z,hz,h1⟩)
theorem grove_nodup:∀{tl:List (Nat×Fo)},(∀y∈tl,LabT es lab b y.1 y.2)→tl.Pairwise (fun a b=>a.1<b.1)→(grove tl).vs.Nodup
 |[],_,_=>by simp[grove,Fo.vs]
 |y::tl,h,hp=>by
  have hy:=h y List.mem_cons_self
  rw[List.pairwise_cons] at hp
  have ht:=fun z hz=>h z (List.mem_cons_of_mem y hz)
  have hno:∀v,lab[v]? =some (y.1:Int)→v∉(grove tl).vs:=fun v hv hm=>by
   obtain⟨z,hz,hq⟩:=(grove_mem ht v).1 hm
   have:=Option.some.inj (hv.symm.trans hq)
   have:=hp.1 z hz
   omega
  simp only[grove,Fo.vs,List.nodup_cons,List.mem_append,List.nodup_append,not_or]
  refine⟨⟨fun hm=>((hy.vs _).1 hm).2 rfl,hno _ hy.root⟩,hy.nd,grove_nodup ht hp.2,?_⟩
  intro a ha c hc hac
  subst hac
  exact hno a ((hy.vs a).1 ha).1 hc
def Jr (es:List IE) (lab:List Int) (u:Int) (v:Nat):Prop:=Je es u v∨(u= -1∧lab[v]? =some (v:Int))
theorem jo_mono {J J':Int→Nat→Prop} (hJ:∀u v,J u v→J' u v):∀{T:Fo} {u:Int},T.Jo J u→T.Jo J' u
 | .nil,_,_=>trivial
 | .node v s r,u,h=>⟨hJ _ _ h.1,jo_mono hJ h.2.1,jo_mono hJ h.2.2⟩
theorem grove_jo:∀{tl:List (Nat×Fo)},(∀y∈tl,LabT es lab b y.1 y.2)→(grove tl).Jo (Jr es lab) (-1)
 |[],_=>trivial
 |y::tl,h=>⟨.inr ⟨rfl,(h y List.mem_cons_self).root⟩,jo_mono (fun _ _=> .inl) (h y List.mem_cons_self).jo,grove_jo fun z hz=>h z (List.mem_cons_of_mem _ hz)⟩
variable {tl:List (Nat×Fo)}
theorem vs_perm (h:TlOk N es lab b tl):(grove tl).vs.Perm (List.range N):=by
 rw[List.perm_ext_iff_of_nodup (grove_nodup h.tree h.up) List.nodup_range]
 intro v
 rw[grove_mem h.tree,List.mem_range]
 constructor
 ·rintro⟨y,_,hv⟩
  rw[←h.len];exact(List.getElem?_eq_some_iff.1 hv).1
 ·exact h.all v
theorem sz (h:TlOk N es lab b tl):(grove tl).sz=N:=by
 rw[←(grove tl).vs_len,h.vs_perm.length_eq,List.length_range]
end TlOk
structure TabOk (N:Nat) (es:List IE) (lab:List Int) (b:List T5) (tl:List (Nat×Fo)) (l:List T5):Prop where
 tlo:TlOk N es lab b tl
 perm:l.Perm (outF (-1) (-1) 0 (grove tl))
 len:l.length=N
 at_:∀v,v<N→(at5 l v).c0=(v:Int)
theorem PartsOk.tab {N:Nat} {es:List IE} {lab:List Int} {fl:List Bool} {r b:List T5} (h:PartsOk N es lab fl r b) (hf:∀e∈es,inE N e) (hN:N≤1000000):∃tl,visitsF (labT lab) b=vsT tl∧TabOk N es lab b tl (treesF (labT lab) b):=by
 obtain⟨tl,hO,hv⟩:=h.tl hf hN
 have hsz:=hO.sz
 have hall:(numM 0 0).all (0,0) (visitsF (labT lab) b)=outF (-1) (-1) 0 (grove tl):=by
  rw[hv]
  exact numM_vsT (d:=0) (n:=0) (by omega)
 have hp:(treesF (labT lab) b).Perm (outF (-1) (-1) 0 (grove tl)):=by
  unfold treesF;rw[hall];exact perm_srt _
 have hlen:(treesF (labT lab) b).length=N:=by rw[hp.length_eq,outF_len,hsz]
 refine⟨tl,hv,hO,hp,hlen,fun v hvN=> ?_⟩
 have h1:(treesF (labT lab) b).map (·.c0)=(List.range N).map fun (v:Nat)=>(v:Int):=by
  refine List.Perm.eq_of_pairwise (le:=fun x y:Int=>x≤y) (fun a b _ _ h1 h2=>by omega) ?_ ?_ ?_
  ·rw[List.pairwise_map]
   unfold treesF
   refine(sd_srt (ltO_swo o1) false _).imp fun {a b} hab=> ?_
   have h2:ltO o1 b a=false:=by simpa using hab
   have h3:¬(ltO o1 b a=true):=by rw[h2];decide
   rw[ltO_o1] at h3;omega
  ·rw[List.pairwise_map]
   exact List.pairwise_lt_range.imp fun {a b} hab=>by omega
  ·refine(hp.map _).trans ?_
   rw[outF_c0]
   exact hO.vs_perm.map _
 have h2:=congrArg (·[v]?) h1
 rw[List.getElem?_map,List.getElem?_map,List.getElem?_range hvN,at5get (by omega)] at h2
 exact Option.some.inj h2
namespace TabOk
variable {N:Nat} {es:List IE} {lab:List Int} {b:List T5} {tl:List (Nat×Fo)} {l:List T5}
theorem mem (h:TabOk N es lab b tl l) {v:Nat} (hv:v<N):at5 l v∈outF (-1) (-1) 0 (grove tl):=h.perm.mem_iff.1 (at5mem (by rw[h.len];exact hv))
theorem of (h:TabOk N es lab b tl l) {e:T5} (he:e∈outF (-1) (-1) 0 (grove tl)):∃v,v<N∧e.c0=(v:Int)∧at5 l v=e:=by
 obtain⟨v,hv,hq⟩:=mem_at5 (h.perm.mem_iff.2 he)
 rw[h.len] at hv
 exact⟨v,hv,by rw[←hq,h.at_ v hv],hq⟩
theorem nodup (h:TabOk N es lab b tl l):(grove tl).vs.Nodup:=TlOk.grove_nodup h.tlo.tree h.tlo.up
theorem bnd (h:TabOk N es lab b tl l) {v:Nat} (hv:v<N):0≤(at5 l v).c2∧(at5 l v).c2<N∧1≤(at5 l v).c3∧(at5 l v).c2+(at5 l v).c3≤N∧0≤(at5 l v).c4∧(at5 l v).c4<N:=by
 have:=outF_b (h.mem hv)
 have:=h.tlo.sz
 omega
theorem par (h:TabOk N es lab b tl l) {v:Nat} (hv:v<N):((at5 l v).c1= -1∧(at5 l v).c4=0∧lab[v]? =some (v:Int))∨
  ∃p:Nat,p<N∧(at5 l v).c1=(p:Int)∧(at5 l v).c4=(at5 l p).c4+1∧(at5 l p).c2<(at5 l v).c2∧(at5 l v).c2+(at5 l v).c3≤(at5 l p).c2+(at5 l p).c3∧Jn (gE es) (fun i=>i<es.length) p v:=by
 have hm:=h.mem hv
 have hj:=outF_jo (TlOk.grove_jo h.tlo.tree) hm
 rw[h.at_ v hv,Int.toNat_natCast] at hj
 rcases outF_par hm with⟨h1,h2⟩|⟨e',h1,h2,h3,h4,h5⟩
 ·refine .inl ⟨h1,by omega,?_⟩
  rcases hj with hj|hj
  ·have:=hj.1;omega
  ·exact hj.2
 ·obtain⟨p,hp,hq,he⟩:=h.of h1
  subst he
  refine .inr ⟨p,hp,by omega,h3,h4,h5,?_⟩
  rcases hj with hj|hj
  ·have:=hj.2
   rwa[show(at5 l v).c1.toNat=p by omega] at this
  ·omega
theorem num_inj (h:TabOk N es lab b tl l) {u v:Nat} (hu:u<N) (hv:v<N) (he:(at5 l u).c2=(at5 l v).c2):u=v:=by
 have hn:((outF (-1) (-1) 0 (grove tl)).map (·.c2)).Nodup:=by
  rw[outF_c2]
  refine List.Pairwise.map _ (fun a b hab=> ?_) (List.nodup_range' (step:=1))
  exact fun hq=>hab (by omega)
 have:=nodup_inj hn (h.mem hu) (h.mem hv) he
 have:=congrArg T5.c0 this
 rw[h.at_ u hu,h.at_ v hv] at this
 omega
theorem way (h:TabOk N es lab b tl l) {v:Nat} (hv:v<N):∃c,(at5 l v,c)∈chF (-1) [] (-1) 0 (grove tl)∧Way (fun x=>(at5 l x.toNat).c1) v c∧(c.length:Int)=(at5 l v).c4+1∧∀u,u<N→((u:Int)∈c↔(at5 l u).c2≤(at5 l v).c2∧(at5 l v).c2<(at5 l u).c2+(at5 l u).c3):=by
 obtain⟨c,hc⟩:=chF_of [] (h.mem hv)
 refine⟨c,hc,?_,?_,?_⟩
 ·have:=chF_way (par:=fun x=>(at5 l x.toNat).c1) (fun e he=>by
   obtain⟨w,hw,hq,he⟩:=h.of he
   rw[hq,Int.toNat_natCast,he]) (.top (by decide)) _ hc
  rw[h.at_ v hv] at this
  exact this
 ·have:=(chF_up hc).2.2
  simp only[List.length_nil] at this
  omega
 ·intro u hu
  have:=chF_in h.nodup (by simp) _ hc _ (h.mem hu)
  rw[h.at_ u hu] at this
  exact this
end TabOk
end Go.Proofs.YtlnehgklibbjiaaGreat
namespace Go.Proofs.YtlnehgklibbjiaaGreat
open Go.ChangeShapes Go.WideShapes Go.ChangeAt Go.RowKit Go.SL Go.Tup Go.Spc
theorem pairs_of (cs:List Value):∀(len off:Nat),(∀i,i<len→∃e:IE,∀j,j<2→cs[off+i*2+j]? =(ecl e)[j]?)→∃es:List IE,es.length=len∧(cs.drop off).take (len*2)=es.flatMap ecl
 |0,off,_=>⟨[],rfl,by simp⟩
 |len+1,off,h=>by
  obtain⟨t,ht⟩:=h 0 (by omega)
  obtain⟨ts,hl,he⟩:=pairs_of cs len (off+2) (fun i hi=>by
   obtain⟨t,ht⟩:=h (i+1) (by omega)
   exact⟨t,fun j hj=>by rw[←ht j hj];congr 1;omega⟩)
  refine⟨t::ts,by simp[hl],?_⟩
  have hd:cs.drop off=ecl t++cs.drop (off+2):=by
   apply List.ext_getElem?
   intro j
   rw[List.getElem?_drop]
   by_cases hj:j<2
   ·rw[List.getElem?_append_left (by simpa[ecl] using hj),←ht j hj];simp
   ·rw[List.getElem?_append_right (by simp[ecl];omega),List.getElem?_drop]
    congr 1
    simp[ecl];omega
  rw[hd,List.flatMap_cons,←he,List.take_append]
  rw[List.take_of_length_le (by simp[ecl];omega)]
  congr 2
  simp[ecl];omega
theorem open_graphR {H:Type} {enc:TypeId×Value→H} {P:Program} {w:World} {base:Nat} {t E:TypeId} {f0 f1 g0 g1:Field} {v:Value} {d:DataW H} {ps:List MemPlace} (ht:P.underlying t=some (.struct #[f0,f1]))
  (hI:P.underlying f0.type=some (.int .i64)) (hE:P.underlying f1.type=some (.slice E)) (hEu:P.underlying E=some (.struct #[g0,g1])) (hg0:P.underlying g0.type=some (.int .i64)) (hg1:P.underlying g1.type=some (.int .i64))
  (ho0:f0.offset=0) (ho1:f1.offset=1) (hc0:P.cellsOf f0.type=1) (hc1:P.cellsOf f1.type=1) (hct:P.cellsOf t=2) (ce:P.cellsOf E=2) (ho2:g0.offset=0) (ho3:g1.offset=1) (hc2:P.cellsOf g0.type=1) (hc3:P.cellsOf g1.type=1)
  (h:DataW.Trod enc P w 0 (fun _=>true) true t v d ps) (hok:Value.okWide P w .any base t v):
  ∃n p m cap es c,v=gv n p m cap∧Rw ecl 2 p m es c∧m≤maxLen∧(∀q∈c,w.heap[q.1]? =some q.2)∧(c.map (·.1)).Nodup:=by
 have h':∃cs,v= .agg cs∧cs.size=P.cellsOf t∧Row.okWide P w .any base t cs:=by
  simpa only[Value.okWide,ht] using hok
 obtain⟨cs,rfl,hsz,_⟩:=h'
 obtain⟨l⟩:=cs
 rw[hct] at hsz
 obtain⟨a,b,rfl⟩:∃a b,l=[a,b]:=by
  match l,hsz with
  |[a,b],_=>exact⟨a,b,rfl⟩
 obtain⟨fuel,h⟩:=h
 obtain⟨y0,y1,k,_,_,h0,h1⟩:=trod_struct2 ht h
 rw[ho0,hc0] at h0
 rw[ho1,hc1] at h1
 simp only[Value.cells,List.drop_zero,List.drop_succ_cons,List.take_succ_cons,List.take_zero] at h0 h1
 obtain⟨n,hn,_,_⟩:=DataW.trod_int hI h0
 obtain rfl:a= .int .i64 n:=by simpa using hn
 rcases Go.Deep.open_slice_pairs hE hEu ce ho2 ho3 hc2 hc3 h1 with⟨hb,_⟩|⟨ad,len,cap,m,k',V0,V1,D0,D1,P0,P1,hb,_,hl,hm,hmm,_,hx⟩
 ·obtain rfl:b= .slice none 0 0:=by simpa using hb
  exact⟨n,none,0,0,[],[],rfl,⟨rfl,.inl ⟨rfl,rfl⟩⟩,by decide,by simp,by simp⟩
 ·obtain rfl:b= .slice (some ad) len cap:=by simpa using hb
  by_cases hz:len=0
  ·subst hz
   exact⟨n,some ad,0,cap,[],[],rfl,⟨rfl,.inl ⟨rfl,rfl⟩⟩,by decide,by simp,by simp⟩
  ·simp only[if_true] at hmm
   subst hmm
   have each:∀i,i<len→∃e:IE,∀j,j<2→w.cell? (ad.add (i*2+j))=(ecl e)[j]? :=by
    intro i hi
    obtain⟨x0,x1,t0,t1⟩:=hx i (by omega)
    obtain⟨a0,ha0,_,_⟩:=DataW.trod_int hg0 t0
    obtain⟨a1,ha1,_,_⟩:=DataW.trod_int hg1 t1
    refine⟨(a0,a1),fun j hj=> ?_⟩
    match j,hj with
    |0,_=>rw[Nat.add_zero,x0];simpa[ecl] using ha0
    |1,_=>rw[x1];simpa[ecl] using ha1
   obtain⟨bk,off,spot⟩:=ad
   obtain⟨t0,ht0⟩:=each 0 (by omega)
   have hq0:=ht0 0 (by omega)
   have hs:spot=none:=by
    cases spot with
    |none=>rfl
    |some s=>
     exfalso
     simp only[Addr.add,World.cell?,ecl,List.getElem?_cons_zero] at hq0
     revert hq0
     split<;>simp
   subst hs
   have hadd:∀i,((⟨bk,off,none⟩:Addr).add i)=⟨bk,off+i,none⟩:=fun i=>Addr.add_mk ..
   cases hbk:w.heap[bk]? with
   |none=>rw[hadd] at hq0;simp[World.cell?,hbk,ecl] at hq0
   |some ob=>
    cases ob with
    |cells arr T fz=>
     obtain⟨es,hes,hflat⟩:=pairs_of arr.toList len off (fun i hi=>by
      obtain⟨t,ht⟩:=each i hi
      refine⟨t,fun j hj=> ?_⟩
      rw[←ht j hj,hadd,cell_of_row w bk _ arr T fz hbk]
      simp[Nat.add_assoc])
     refine⟨n,_,len,_,es,[(bk,rowf arr.toList T fz)],rfl,⟨hes,.inr ⟨bk,off,arr.toList,T,fz,rfl,rfl,hflat⟩⟩,by omega,?_,by simp⟩
     intro q hq
     simp only[List.mem_singleton] at hq
     subst hq
     simpa[rowf] using hbk
    |_=>rw[hadd] at hq0;simp[World.cell?,hbk,ecl] at hq0
end Go.Proofs.YtlnehgklibbjiaaGreat
namespace Go.Proofs.YtlnehgklibbjiaaGreat
open Go.SL Go.Spc Go.Tup Go.Srt Go.Gr
theorem TreeFaults_ct (n:Int) (p:Option Addr) (m cap:Nat) (es:List IE) (c:Chunk) (hv:Rw ecl 2 p m es c) (hm:m≤maxLen) (e:Nat) (he:e<65536):
  CtQ Tryz.prog 6 [gv n p m cap,.int .u16 (e:Int)] [c] (.bool true):=by
 have hflv:∀f:Fl,flv f= .agg #[.int .i64 (f.first:Int),.int .i64 (f.blocks:Int),.int .i64 (f.width:Int),.int .i64 (f.count:Int)]:=fun _=>rfl
 have hAw:=awake17ct
 have hFo:=Formed03ct n p m cap es c hv hm
 have hFe:=Few03ct n p m cap 30 40 hm
 have hWk:Ct Tryz.prog 14 [.int .i64 9] [] fun v H'=>
  ∃bw bd ba bs cd ca cs,v=pv bw∧H'=[wrow bw bd ba bs,cd,ca,cs]∧Wc bd ba bs (wk0 10 9000 90) cd ca cs:=work17ct 9 (by omega)
 have e4:IntKind.wrap .i64 ((e%2000:Nat):Int)=((e%2000:Nat):Int):=wrap_i64 (by omega)
 have e5:(e:Int).tmod 2000=((e%2000:Nat):Int):=by rw[Int.tmod_eq_emod_of_nonneg (by omega)];omega
 unfold gv at hFo hFe⊢
 cases hfm:formedB n es with
 |false=>
  rw[hfm] at hFo
  refine Ct.intro Tryz.func6 rfl Tryz.ntmps6 (nle rfl) fun w0=> ?_;dsimp only[argSlots,Nat.reduceAdd]
  repeat(first|(refine st ?_;intros)|(refine cq hAw ?_)|(refine cq hFo ?_)|(refine cq hFe ?_)|(refine cq hWD ?_)|(refine cq hCl ?_))
  (refine Dn.post (Hr:=[c]) Tryz.results6 (hR:= ?_);exact⟨rfl,rfl⟩)
 |true=>
 rw[hfm] at hFo
 by_cases hfew:n≤30∧(m:Int)≤40
 rotate_left
 ·rw[dec_false hfew] at hFe
  refine Ct.intro Tryz.func6 rfl Tryz.ntmps6 (nle rfl) fun w0=> ?_;dsimp only[argSlots,Nat.reduceAdd]
  repeat(first|(refine st ?_;intros)|(refine cq hAw ?_)|(refine cq hFo ?_)|(refine cq hFe ?_)|(refine cq hWD ?_)|(refine cq hCl ?_))
  (refine Dn.post (Hr:=[c]) Tryz.results6 (hR:= ?_);exact⟨rfl,rfl⟩)
 rw[dec_true hfew] at hFe
 obtain⟨h0,hin⟩:=formed_in hfm
 obtain⟨N,rfl⟩:∃N:Nat,n=(N:Int):=⟨n.toNat,by omega⟩
 refine Ct.intro Tryz.func6 rfl Tryz.ntmps6 (nle rfl) fun w0=> ?_;dsimp only[argSlots,Nat.reduceAdd]
 repeat(first|(refine st ?_;intros)|(refine cq hAw ?_)|(refine cq hFo ?_)|(refine cq hFe ?_)|(refine cq hWD ?_)|(refine cq hCl ?_))
 refine R.call (hct:=hWk) (h:= ?_)
 rintro _ _ ⟨bw,bd,ba,bs,cd,ca,cs,rfl,rfl,hW⟩
 try dsimp only[List.cons_append,List.nil_append]
 have hWD:=WDevice_ct bw bd ba bs
 have hLa:=laid17ct bw bd ba bs 90 (by omega) cd ca cs hW N (by omega) p m cap es c hv (by omega) hin
 unfold gv at hLa
 repeat(first|(refine st ?_;intros)|(refine cq hAw ?_)|(refine cq hFo ?_)|(refine cq hFe ?_)|(refine cq hWD ?_)|(refine cq hCl ?_))
 refine R.call (hct:=hLa) (h:= ?_)
 rintro _ _ ⟨cd1,ca1,cs1,W,f,h,lab,fl,r,b,rfl,rfl,hW1,hL⟩
 try dsimp only[List.cons_append,List.nil_append]
 have hSF:=SetFault_ct bd W.δ cd1 hW1.dev ((e%2000:Nat):Int) (by omega)
 rw[hflv,hflv]
 repeat(first|(refine st ?_;intros)|(refine cq hAw ?_)|(refine cq hFo ?_)|(refine cq hFe ?_)|(refine cq hWD ?_)|(refine cq hCl ?_))
 refine R.call (hct:=hSF) (h:= ?_)
 rintro _ _ ⟨cd2,rfl,rfl,hdf⟩
 try dsimp only[List.cons_append,List.nil_append]
 have hW2:=hW1.flt hdf
 have hbl:=hL.parts.b_len hin (by omega)
 have hfc:=hL.fc
 have hhc:=hL.hc
 have hbg:=hL.big
 have hact:=hL.acts
 have hcnt:=hL.parts.hcnt hin (by omega)
 have hsT:=sortT_le (b:=91) (m:=91) (l:=3) (by omega) (by decide)
 have hT:=Trees_ct bw bd ba bs (W.flt ((e%2000:Nat):Int)) cd2 ca1 cs1 hW2 f h _ _ (by exact hL.inF) (by exact hL.inH) hL.fw hL.hw 91 (by omega) (by omega) (by rw[hfc];exact hcnt) (by show _≤big W.σ.free;omega) (by show W.δ.acts≤_;omega)
 rw[hflv,hflv] at hT
 repeat(first|(refine st ?_;intros)|(refine cq hAw ?_)|(refine cq hFo ?_)|(refine cq hFe ?_)|(refine cq hWD ?_)|(refine cq hCl ?_))
 refine R.call (hct:=hT) (h:= ?_)
 rintro _ _ (⟨_,x,er,cd3,ca3,cs3,W3,rfl,rfl,hW3,hS3,hw3⟩|⟨hsm,_⟩)
 rotate_left
 ·exfalso
  have h1:=hL.room
  have h2:=hL.used
  have h3:=hL.size
  have h4:W.α.room-W.α.used<8*W.δ.size:=hsm
  omega
 dsimp only[List.cons_append,List.nil_append]
 have hus3:W3.α.used=0:=(used_eq hW2 hW3 hS3.gs).trans hL.used
 have hn3:W3.σ.n=9000:=hS3.n.trans hL.n
 have hCl:∀b':Nat,total W3.σ.free+sumB [f,h,x]=9000→CtQ Tryz.prog 26 [pv bw,.slice (some ⟨b',0,none⟩) 3 3] [wrow bw bd ba bs,ca3,cs3,[(b',row [.int .i64 (f.first:Int),.int .i64 (f.blocks:Int),.int .i64 (f.width:Int),.int .i64 (f.count:Int),.int .i64 (h.first:Int),.int .i64 (h.blocks:Int),.int .i64 (h.width:Int),.int .i64 (h.count:Int),.int .i64 (x.first:Int),.int .i64 (x.blocks:Int),.int .i64 (x.width:Int),.int .i64 (x.count:Int)] 27)]] (.bool true):=fun b' ht=>
  clean17ct bw bd ba bs W3 ca3 cs3 hW3.ar hW3.sp (some ⟨b',0,none⟩) 3 3 [f,h,x] _ ⟨rfl,.inr ⟨b',0,_,_,_,rfl,rfl,rfl⟩⟩ (by omega) hus3 ht
 rcases hS3.res with⟨rfl,_,hl3,_⟩|⟨_,rfl,hl3,⟨rfl,_⟩|⟨m,h1,_⟩⟩
 ·have ht:=free_sum (fs:=[f,h,x]) hW3 (hl3.trans (addF_perm hL.live)) hn3
  rw[hflv]
  repeat(first|(refine st ?_;intros)|(refine cq hAw ?_)|(refine cq hFo ?_)|(refine cq hFe ?_)|(refine cq hWD ?_)|(refine cq hCl ?_))
  (refine Dn.post (Hr:=[c]) Tryz.results6 (hR:= ?_);exact⟨rfl,rfl⟩)
 ·have ht0:=free_sum (fs:=[f,h]) hW3 (hl3.trans hL.live) hn3
  have ht:total W3.σ.free+sumB [f,h,⟨0,0,0,0⟩]=9000:=by
   rw[←ht0];simp[sumB]
  rw[hflv]
  repeat(first|(refine st ?_;intros)|(refine cq hAw ?_)|(refine cq hFo ?_)|(refine cq hFe ?_)|(refine cq hWD ?_)|(refine cq hCl ?_))
  (refine Dn.post (Hr:=[c]) Tryz.results6 (hR:= ?_);exact⟨rfl,rfl⟩)
 ·cases h1
end Go.Proofs.YtlnehgklibbjiaaGreat
namespace Go.Proofs.YtlnehgklibbjiaaGreat
open Go.SL Go.Tup Go.Gr
def joinedB (es:List IE) (u v:Int):Bool:=es.any fun e=>decide (e.1=u∧e.2=v∨e.1=v∧e.2=u)
theorem joined17ct (n:Int) (p:Option Addr) (m cap:Nat) (es:List IE) (c:Chunk) (hv:Rw ecl 2 p m es c) (hm:m≤maxLen) (u v:Int):
  CtQ Tryz.prog 22 [gv n p m cap,.int .i64 u,.int .i64 v] [c] (.bool (joinedB es u v)):=by
 have hl:=hv.1
 simp only[maxLen] at hm
 have hyes:∀(i:Nat) (x y:Int),es[i]? =some (x,y)→(x=u∧y=v∨x=v∧y=u)→joinedB es u v=true:=fun i x y hi he=>by
  unfold joinedB
  rw[List.any_eq_true]
  exact⟨(x,y),List.mem_of_getElem? hi,decide_eq_true he⟩
 unfold gv
 refine Ct.intro Tryz.func22 rfl Tryz.ntmps22 (nle rfl) fun w0=> ?_;dsimp only[argSlots,Nat.reduceAdd]
 repeat(refine st ?_;intros)
 rename_i b1
 refine G.loop (X:=Nat) (fun i=>i≤m∧∀j e,j<i→es[j]? =some e→¬(e.1=u∧e.2=v∨e.1=v∧e.2=u))
  (fun i=>[(7,.int .i64 (i:Int)),(3,pv b1),(1,.int .i64 u),(2,.int .i64 v)])
  (fun _=>[[(b1,row [.int .i64 n,.slice p m cap] 37)],c]) (fun i=>m-i) 0 ⟨Nat.zero_le _,fun j e h=>by omega⟩ (body:= ?_)
 rintro i ⟨hi,hin⟩
 by_cases hlt:i<m
 ·obtain⟨b,off,cs,T,fz,rfl,rfl,hcut,hget⟩:=hv.pos ecl_len (by omega)
  have hie:es[i]? =some es[i]:=List.getElem?_eq_getElem (by omega)
  have hc:=hcut i _ hie
  have hye:=hyes i es[i].1 es[i].2 hie
  generalize he:es[i]=e at*
  obtain⟨x,y⟩:=e
  have hc':(cs.drop (off+i*2)).take 2=[.int .i64 x,.int .i64 y]:=hc
  have hround:¬(x=u∧y=v∨x=v∧y=u)→∀j e,j<i+1→es[j]? =some e→¬(e.1=u∧e.2=v∨e.1=v∧e.2=u):=by
   intro hno j e hj hje
   by_cases hji:j=i
   ·subst hji
    rw[hie] at hje
    obtain rfl:=Option.some.inj hje
    exact hno
   ·exact hin j e (by omega) hje
  by_cases g1:x=u
  ·by_cases g2:y=v
   ·rw[hye (.inl ⟨g1,g2⟩)]
    repeat(refine st ?_;intros)
    (refine Dn.post (Hr:=[[(b,rowf cs T fz)]]) Tryz.results22 (hR:= ?_);exact⟨rfl,rfl⟩)
   ·by_cases g3:x=v
    ·by_cases g4:y=u
     ·rw[hye (.inr ⟨g3,g4⟩)]
      repeat(refine st ?_;intros)
      (refine Dn.post (Hr:=[[(b,rowf cs T fz)]]) Tryz.results22 (hR:= ?_);exact⟨rfl,rfl⟩)
     ·repeat(refine st ?_;intros)
      refine Dn.round (i+1) ⟨by omega,hround (by omega)⟩ (by omega)
    ·repeat(refine st ?_;intros)
     refine Dn.round (i+1) ⟨by omega,hround (by omega)⟩ (by omega)
  ·by_cases g3:x=v
   ·by_cases g4:y=u
    ·rw[hye (.inr ⟨g3,g4⟩)]
     repeat(refine st ?_;intros)
     (refine Dn.post (Hr:=[[(b,rowf cs T fz)]]) Tryz.results22 (hR:= ?_);exact⟨rfl,rfl⟩)
    ·repeat(refine st ?_;intros)
     refine Dn.round (i+1) ⟨by omega,hround (by omega)⟩ (by omega)
   ·repeat(refine st ?_;intros)
    refine Dn.round (i+1) ⟨by omega,hround (by omega)⟩ (by omega)
 ·obtain rfl:i=m:=by omega
  have hb:joinedB es u v=false:=by
   unfold joinedB
   rw[List.any_eq_false]
   intro e he
   obtain⟨j,hj,rfl⟩:=List.getElem_of_mem he
   simp only[decide_eq_true_eq]
   exact hin j _ (by omega) (List.getElem?_eq_getElem hj)
  rw[hb]
  repeat(refine st ?_;intros)
  (refine Dn.post (Hr:=[c]) Tryz.results22 (hR:= ?_);exact⟨rfl,rfl⟩)
structure BelX where
 n:Nat
 v:Int
 ch:List Int
theorem below17ct (p:Option Addr) (m cap:Nat) (ts:List T5) (c:Chunk) (hv:RV p m ts c) (hm0:0<m) (hm:m≤1000000) (u:Int) (v0:Int) (ch0:List Int) (hw0:Way (fun x=>(at5 ts x.toNat).c1) v0 ch0) (hlen:ch0.length≤m) (hlt:∀w∈ch0,w<m):
  CtQ Tryz.prog 23 [.slice p m cap,.int .i64 v0,.int .i64 u] [c] (.bool (decide (u∈ch0))):=by
 have hl:=hv.1
 obtain⟨b,off,cs,T,fz,rfl,rfl,_,hget⟩:=(RV.rw hv).pos tcells_len (by omega)
 have hg:∀j,j<m→cs[off+j*5+1]? =some (.int .i64 (at5 ts j).c1):=fun j hj=>hget j 1 _ _ (at5get (by omega)) rfl
 refine Ct.intro Tryz.func23 rfl Tryz.ntmps23 (nle rfl) fun w0=> ?_;dsimp only[argSlots,Nat.reduceAdd]
 repeat(refine st ?_;intros)
 refine G.loop (X:=BelX) (fun s=>Way (fun x=>(at5 ts x.toNat).c1) s.v s.ch∧s.ch.length+s.n≤m∧(∀w∈s.ch,w<m)∧(u∈ch0↔u∈s.ch))
  (fun s=>[(7,.int .i64 (s.n:Int)),(1,.int .i64 s.v),(2,.int .i64 u),(0,.slice (some ⟨b,off,none⟩) m cap)])
  (fun _=>[[(b,rowf cs T fz)]]) (fun s=>m-s.n) ⟨0,v0,ch0⟩ ⟨hw0,by dsimp only;omega,hlt,Iff.rfl⟩ (body:= ?_)
 rintro⟨n,v,ch⟩ ⟨hw,h1,h2,h3⟩
 dsimp only at hw h1 h2 h3⊢
 cases hw with
 |top hneg=>
  have hb:decide (u∈ch0)=false:=decide_eq_false (by rw[h3];simp)
  have hn0:¬0≤v:=by omega
  rw[hb]
  repeat(refine st ?_;intros)
  (refine Dn.post (Hr:=[[(b,rowf cs T fz)]]) Tryz.results23 (hR:= ?_);exact⟨rfl,rfl⟩)
 | @up _ ch hpos hw=>
  simp only[List.length_cons] at h1
  have hvm:=h2 v List.mem_cons_self
  obtain⟨k,rfl⟩:∃k:Nat,v=(k:Int):=⟨v.toNat,by omega⟩
  have hq:=hg k (by omega)
  rw[Int.toNat_natCast] at hw
  by_cases he:(k:Int)=u
  ·have hb:decide (u∈ch0)=true:=decide_eq_true (by rw[h3,he];exact List.mem_cons_self)
   rw[hb]
   repeat(refine st ?_;intros)
   (refine Dn.post (Hr:=[[(b,rowf cs T fz)]]) Tryz.results23 (hR:= ?_);exact⟨rfl,rfl⟩)
  ·repeat(refine st ?_;intros)
   refine Dn.round ⟨n+1,(at5 ts k).c1,ch⟩ ⟨hw,by dsimp only;omega,fun w hw=>h2 w (List.mem_cons_of_mem _ hw),?_⟩ (by dsimp only;omega)
   rw[h3,List.mem_cons]
   dsimp only
   exact⟨fun h=>h.resolve_left fun hq=>he hq.symm,.inr⟩
end Go.Proofs.YtlnehgklibbjiaaGreat
namespace Go.Proofs.YtlnehgklibbjiaaGreat
open Go.SL Go.Spc Go.Tup Go.Srt Go.Gr
theorem joined_of {N:Nat} {es:List IE} (hin:∀e∈es,inE N e) {u v:Nat} (h:Jn (gE es) (fun i=>i<es.length) u v):joinedB es (u:Int) (v:Int)=true:=by
 obtain⟨i,hi,he⟩:=h
 have hd:es[i]? =some es[i]:=List.getElem?_eq_getElem hi
 have h1:=hin _ (List.mem_of_getElem? hd)
 unfold inE at h1
 have hg:gE es i=(es[i].1.toNat,es[i].2.toNat):=by unfold gE;rw[hd]
 rw[hg] at he
 unfold joinedB
 rw[List.any_eq_true]
 refine⟨es[i],List.getElem_mem hi,decide_eq_true ?_⟩
 dsimp only at he
 omega
theorem TabOk.below {N:Nat} {es:List IE} {lab:List Int} {b:List T5} {tl:List (Nat×Fo)} {l:List T5} (h:TabOk N es lab b tl l) {v:Nat} (hv:v<N):∃c,Way (fun x=>(at5 l x.toNat).c1) v c∧c.length≤N∧(∀w∈c,w<(N:Int))∧
  ∀u,u<N→((u:Int)∈c↔(at5 l u).c2≤(at5 l v).c2∧(at5 l v).c2<(at5 l u).c2+(at5 l u).c3):=by
 obtain⟨c,h1,h2,h3,h4⟩:=h.way hv
 have hb:=h.bnd hv
 refine⟨c,h2,by omega,fun w hw=> ?_,h4⟩
 rcases(chF_up h1).2.1 w hw with h5|⟨y,hy,rfl⟩
 ·simp at h5
 ·have:=List.mem_range.1 (h.tlo.vs_perm.mem_iff.1 hy)
  omega
def SeenOk (l:List T5) (i:Nat) (sb:List Bool):Prop:=sb.length=60∧∀j:Nat,j<60→(sb[j]? =some true↔∃v,v<i∧(at5 l v).c2=(j:Int))
theorem SeenOk.start (l:List T5):SeenOk l 0 (List.replicate 60 false):=by
 refine⟨by simp,fun j hj=> ?_⟩
 rw[List.getElem?_replicate,if_pos hj]
 constructor
 ·intro h;simp at h
 ·rintro⟨v,hv,_⟩;omega
theorem SeenOk.step {l:List T5} {i:Nat} {sb:List Bool} (h:SeenOk l i sb) {k:Nat} (hk:k<60) (he:(at5 l i).c2=(k:Int)):SeenOk l (i+1) (sb.set k true):=by
 refine⟨by simpa using h.1,fun j hj=> ?_⟩
 have hl:=h.1
 by_cases hjk:j=k
 ·subst hjk
  rw[List.getElem?_set_self (by omega)]
  exact⟨fun _=>⟨i,Nat.lt_succ_self i,he⟩,fun _=>rfl⟩
 ·rw[List.getElem?_set_ne (fun h=>hjk h.symm),h.2 j hj]
  constructor
  ·rintro⟨v,hv,hq⟩;exact⟨v,by omega,hq⟩
  ·rintro⟨v,hv,hq⟩
   rcases Nat.eq_or_lt_of_le (Nat.lt_succ_iff.1 hv) with rfl|h1
   ·omega
   ·exact⟨v,h1,hq⟩
theorem SeenOk.no {N:Nat} {es:List IE} {lab:List Int} {b:List T5} {tl:List (Nat×Fo)} {l:List T5} (hT:TabOk N es lab b tl l) {i k:Nat} {sb:List Bool} (h:SeenOk l i sb) (hi:i<N) (hk:k<60) (he:(at5 l i).c2=(k:Int)):sb[k]? =some false:=by
 have hl:=h.1
 cases hb:sb[k]? with
 |none=>rw[List.getElem?_eq_none_iff] at hb;omega
 |some c=>
  cases c with
  |false=>rfl
  |true=>
   exfalso
   obtain⟨v,hv,hq⟩:=(h.2 k hk).1 hb
   have:=hT.num_inj (by omega) hi (hq.trans he.symm)
   omega
structure NesX where
 i:Nat
 sb:List Bool
theorem TreeNested_ct (n:Int) (p:Option Addr) (m cap:Nat) (es:List IE) (c:Chunk) (hv:Rw ecl 2 p m es c) (hm:m≤maxLen):
  CtQ Tryz.prog 4 [gv n p m cap] [c] (.bool true):=by
 have hflv:∀f:Fl,flv f= .agg #[.int .i64 (f.first:Int),.int .i64 (f.blocks:Int),.int .i64 (f.width:Int),.int .i64 (f.count:Int)]:=fun _=>rfl
 have hAw:=awake17ct
 have hFo:=Formed03ct n p m cap es c hv hm
 have hFe:=Few03ct n p m cap 60 100 hm
 have hWk:Ct Tryz.prog 14 [.int .i64 9] [] fun v H'=>
  ∃bw bd ba bs cd ca cs,v=pv bw∧H'=[wrow bw bd ba bs,cd,ca,cs]∧Wc bd ba bs (wk0 10 9000 90) cd ca cs:=work17ct 9 (by omega)
 unfold gv at hFo hFe⊢
 cases hfm:formedB n es with
 |false=>
  rw[hfm] at hFo
  refine Ct.intro Tryz.func4 rfl Tryz.ntmps4 (nle rfl) fun w0=> ?_;dsimp only[argSlots,Nat.reduceAdd]
  repeat(first|(refine st ?_;intros)|refine G.draw [] (h:= ?_)|refine G.draw (id:=17) [(49,.quiet)] (h:= ?_)|(refine cq hAw ?_)|(refine cq hFo ?_)|(refine cq hFe ?_)|(refine cq hJo ?_)|(refine cq hBe ?_))
  (refine Dn.post (Hr:=[c]) Tryz.results4 (hR:= ?_);exact⟨rfl,rfl⟩)
 |true=>
 rw[hfm] at hFo
 by_cases hfew:n≤60∧(m:Int)≤100
 rotate_left
 ·rw[dec_false hfew] at hFe
  refine Ct.intro Tryz.func4 rfl Tryz.ntmps4 (nle rfl) fun w0=> ?_;dsimp only[argSlots,Nat.reduceAdd]
  repeat(first|(refine st ?_;intros)|refine G.draw [] (h:= ?_)|refine G.draw (id:=17) [(49,.quiet)] (h:= ?_)|(refine cq hAw ?_)|(refine cq hFo ?_)|(refine cq hFe ?_)|(refine cq hJo ?_)|(refine cq hBe ?_))
  (refine Dn.post (Hr:=[c]) Tryz.results4 (hR:= ?_);exact⟨rfl,rfl⟩)
 rw[dec_true hfew] at hFe
 obtain⟨h0,hin⟩:=formed_in hfm
 obtain⟨N,rfl⟩:∃N:Nat,n=(N:Int):=⟨n.toNat,by omega⟩
 refine Ct.intro Tryz.func4 rfl Tryz.ntmps4 (nle rfl) fun w0=> ?_;dsimp only[argSlots,Nat.reduceAdd]
 repeat(first|(refine st ?_;intros)|refine G.draw [] (h:= ?_)|refine G.draw (id:=17) [(49,.quiet)] (h:= ?_)|(refine cq hAw ?_)|(refine cq hFo ?_)|(refine cq hFe ?_)|(refine cq hJo ?_)|(refine cq hBe ?_))
 rename_i b1
 refine R.call (hct:=hWk) (h:= ?_)
 rintro _ _ ⟨bw,bd,ba,bs,cd,ca,cs,rfl,rfl,hW⟩
 try dsimp only[List.cons_append,List.nil_append]
 have hLa:=laid17ct bw bd ba bs 90 (by omega) cd ca cs hW N (by omega) p m cap es c hv (by omega) hin
 unfold gv at hLa
 repeat(first|(refine st ?_;intros)|refine G.draw [] (h:= ?_)|refine G.draw (id:=17) [(49,.quiet)] (h:= ?_)|(refine cq hAw ?_)|(refine cq hFo ?_)|(refine cq hFe ?_)|(refine cq hJo ?_)|(refine cq hBe ?_))
 refine R.call (hct:=hLa) (h:= ?_)
 rintro _ _ ⟨cd1,ca1,cs1,W,f,h,lab,fl,r,b,rfl,rfl,hW1,hL⟩
 try dsimp only[List.cons_append,List.nil_append]
 have hbl:=hL.parts.b_len hin (by omega)
 have hfc:=hL.fc
 have hhc:=hL.hc
 have hbg:=hL.big
 have hact:=hL.acts
 have hcnt:=hL.parts.hcnt hin (by omega)
 have hsT:=sortT_le (b:=181) (m:=181) (l:=4) (by omega) (by decide)
 have hT:=Trees_ct bw bd ba bs W cd1 ca1 cs1 hW1 f h _ _ (by exact hL.inF) (by exact hL.inH) hL.fw hL.hw 181 (by omega) (by omega) (by rw[hfc];exact hcnt) (by omega) (by omega)
 rw[hflv,hflv] at hT
 rw[hflv,hflv]
 repeat(first|(refine st ?_;intros)|refine G.draw [] (h:= ?_)|refine G.draw (id:=17) [(49,.quiet)] (h:= ?_)|(refine cq hAw ?_)|(refine cq hFo ?_)|(refine cq hFe ?_)|(refine cq hJo ?_)|(refine cq hBe ?_))
 refine R.call (hct:=hT) (h:= ?_)
 rintro _ _ (⟨_,x,er,cd3,ca3,cs3,W3,rfl,rfl,hW3,hS3,hw3⟩|⟨hsm,_⟩)
 rotate_left
 ·exfalso
  have h1:=hL.room
  have h2:=hL.used
  have h3:=hL.size
  omega
 dsimp only[List.cons_append,List.nil_append]
 obtain⟨rfl,hl3,hfo3,hft3⟩:=stepped_ok hS3 hL.fault
 have hsz3:W3.δ.size=10:=hS3.size.trans hL.size
 obtain⟨Lv,hfo,hsub⟩:=FileIn.new (by rw[hL.size] at hfo3;exact hfo3) hsz3 hl3
 dsimp only at hfo
 have hus3:W3.α.used=0:=(used_eq hW1 hW3 hS3.gs).trans hL.used
 have hrm3:W3.α.room=90:=hS3.room.trans hL.room
 obtain⟨tl,_,hTab⟩:=hL.parts.tab hin (by omega)
 generalize hls:treesF (labT lab) b=l at hfo hTab hS3 hfo3
 have hxc:x.count=N:=by rw[←hfo.len,hTab.len]
 have hac3:=hS3.acts
 have hLi:=List_ct bw bd ba bs W3 cd3 ca3 cs3 hW3 x l Lv hfo hsub (by omega) hft3 (by omega) (by omega)
 rw[hflv] at hLi
 rw[hflv]
 repeat(first|(refine st ?_;intros)|refine G.draw [] (h:= ?_)|refine G.draw (id:=17) [(49,.quiet)] (h:= ?_)|(refine cq hAw ?_)|(refine cq hFo ?_)|(refine cq hFe ?_)|(refine cq hJo ?_)|(refine cq hBe ?_))
 refine R.call (hct:=hLi) (h:= ?_)
 rintro _ _ ⟨cd4,ca4,W4,p4,cap4,co,rfl,rfl,hW4,_,_,_,_,hV⟩
 try dsimp only[List.cons_append,List.nil_append]
 have hR:=RV.vec hV
 rw[hxc] at hR
 have hq:((x.count:Nat):Int)=(N:Int):=by rw[hxc]
 rw[hxc]
 repeat(first|(refine st ?_;intros)|refine G.draw [] (h:= ?_)|refine G.draw (id:=17) [(49,.quiet)] (h:= ?_)|(refine cq hAw ?_)|(refine cq hFo ?_)|(refine cq hFe ?_)|(refine cq hJo ?_)|(refine cq hBe ?_))
 rename_i b11
 refine G.loop (X:=NesX) (fun s=>s.i≤N∧SeenOk l s.i s.sb)
  (fun s=>[(12,.int .i64 (s.i:Int)),(9,.slice p4 N cap4),(1,pv b1),(11,pv b11)])
  (fun s=>[[(b1,row [.int .i64 (N:Int),.slice p m cap] 37)],c,co,[(b11,row (s.sb.map Value.bool) 45)]])
  (fun s=>N-s.i) ⟨0,List.replicate 60 false⟩ ⟨Nat.zero_le _,SeenOk.start l⟩ (body:= ?_)
 rintro⟨i,sb⟩ ⟨hi,hS⟩
 dsimp only at hi hS⊢
 by_cases hlt:i<N
 ·obtain⟨b0,off,cs,T,fz,rfl,rfl,_,hget⟩:=(RV.rw hR).pos tcells_len (by omega)
  have hll:=hTab.len
  have hg:∀j,j<N→cs[off+j*5+2]? =some (.int .i64 (at5 l j).c2)∧cs[off+j*5+3]? =some (.int .i64 (at5 l j).c3)∧cs[off+j*5+4]? =some (.int .i64 (at5 l j).c4):=fun j hj=>⟨hget j 2 _ _ (at5get (by omega)) rfl,hget j 3 _ _ (at5get (by omega)) rfl,hget j 4 _ _ (at5get (by omega)) rfl⟩
  have q0:cs[off+i*5]? =some (.int .i64 (i:Int)):=by
   have:=hget i 0 _ _ (at5get (by omega)) rfl
   rwa[Nat.add_zero,hTab.at_ i hlt] at this
  have q1:cs[off+i*5+1]? =some (.int .i64 (at5 l i).c1):=hget i 1 _ _ (at5get (by omega)) rfl
  obtain⟨q2,q3,q4⟩:=hg i hlt
  have hbn:=hTab.bnd hlt
  have hpar:=hTab.par hlt
  obtain⟨k,hk⟩:∃k:Nat,(at5 l i).c2=(k:Int):=⟨(at5 l i).c2.toNat,by omega⟩
  have hno:=hS.no hTab hlt (show k<60 by omega) hk
  have hst:=hS.step (show k<60 by omega) hk
  have hsl:=hS.1
  have hs1:(sb.map Value.bool)[k]? =some (.bool false):=by rw[List.getElem?_map,hno];rfl
  have hs2:(sb.map Value.bool).set k (.bool true)=(sb.set k true).map Value.bool:=by rw[List.map_set]
  generalize hz1:(at5 l i).c1=z1 at*
  generalize hz2:(at5 l i).c2=z2 at*
  generalize hz3:(at5 l i).c3=z3 at*
  generalize hz4:(at5 l i).c4=z4 at*
  subst hk
  rcases hpar with⟨rfl,rfl,_⟩|⟨pp,hpp,rfl,h4,h5,h6,hjn⟩
  ·repeat(first|(refine st ?_;intros)|refine G.draw [] (h:= ?_)|refine G.draw (id:=17) [(49,.quiet)] (h:= ?_)|(refine cq hAw ?_)|(refine cq hFo ?_)|(refine cq hFe ?_)|(refine cq hJo ?_)|(refine cq hBe ?_))
   refine Dn.round ⟨i+1,sb.set k true⟩ ⟨hlt,hst⟩ (by dsimp only;omega)
  ·obtain⟨r2,r3,r4⟩:=hg pp hpp
   have hbp:=hTab.bnd hpp
   have hJo:=joined17ct (N:Int) p m cap es c hv hm (pp:Int) (i:Int)
   rw[joined_of hin hjn] at hJo
   unfold gv at hJo
   generalize (at5 l pp).c2=y2 at*
   generalize (at5 l pp).c3=y3 at*
   generalize (at5 l pp).c4=y4 at*
   subst h4
   have w1:IntKind.wrap .i64 (y4+1)=y4+1:=wrap_i64 (by omega)
   have w2:IntKind.wrap .i64 ((k:Int)+z3)=(k:Int)+z3:=wrap_i64 (by omega)
   have w3:IntKind.wrap .i64 (y2+y3)=y2+y3:=wrap_i64 (by omega)
   repeat(first|(refine st ?_;intros)|refine G.draw [] (h:= ?_)|refine G.draw (id:=17) [(49,.quiet)] (h:= ?_)|(refine cq hAw ?_)|(refine cq hFo ?_)|(refine cq hFe ?_)|(refine cq hJo ?_)|(refine cq hBe ?_))
   refine Dn.round ⟨i+1,sb.set k true⟩ ⟨hlt,hst⟩ (by dsimp only;omega)
 obtain rfl:i=N:=by omega
 repeat(first|(refine st ?_;intros)|refine G.draw [] (h:= ?_)|refine G.draw (id:=17) [(49,.quiet)] (h:= ?_)|(refine cq hAw ?_)|(refine cq hFo ?_)|(refine cq hFe ?_)|(refine cq hJo ?_)|(refine cq hBe ?_))
 refine G.loop (X:=Nat) (fun u=>u≤i) (fun u=>[(15,.int .i64 (u:Int)),(9,.slice p4 i cap4),(1,pv b1)])
  (fun _=>[[(b1,row [.int .i64 (i:Int),.slice p m cap] 37)],c,co]) (fun u=>i-u) 0 (Nat.zero_le _) (body:= ?_)
 intro u hu
 by_cases hul:u<i
 rotate_left
 ·obtain rfl:u=i:=by omega
  repeat(first|(refine st ?_;intros)|refine G.draw [] (h:= ?_)|refine G.draw (id:=17) [(49,.quiet)] (h:= ?_)|(refine cq hAw ?_)|(refine cq hFo ?_)|(refine cq hFe ?_)|(refine cq hJo ?_)|(refine cq hBe ?_))
  (refine Dn.post (Hr:=[c]) Tryz.results4 (hR:= ?_);exact⟨rfl,rfl⟩)
 repeat(first|(refine st ?_;intros)|refine G.draw [] (h:= ?_)|refine G.draw (id:=17) [(49,.quiet)] (h:= ?_)|(refine cq hAw ?_)|(refine cq hFo ?_)|(refine cq hFe ?_)|(refine cq hJo ?_)|(refine cq hBe ?_))
 refine G.loop (X:=Nat) (fun v=>v≤i) (fun v=>[(16,.int .i64 (v:Int)),(15,.int .i64 (u:Int)),(9,.slice p4 i cap4),(1,pv b1)])
  (fun _=>[[(b1,row [.int .i64 (i:Int),.slice p m cap] 37)],c,co]) (fun v=>i-v) 0 (Nat.zero_le _) (body:= ?_)
 intro v hvi
 by_cases hvl:v<i
 rotate_left
 ·obtain rfl:v=i:=by omega
  repeat(first|(refine st ?_;intros)|refine G.draw [] (h:= ?_)|refine G.draw (id:=17) [(49,.quiet)] (h:= ?_)|(refine cq hAw ?_)|(refine cq hFo ?_)|(refine cq hFe ?_)|(refine cq hJo ?_)|(refine cq hBe ?_))
  refine Dn.round (u+1) (by omega) (by omega)
 obtain⟨ch,hw,hcl,hclt,hci⟩:=hTab.below hvl
 have hcu:=hci u hul
 have hBe:=below17ct p4 i cap4 l co hR (by omega) (by omega) (u:Int) (v:Int) ch hw hcl hclt
 obtain⟨b0,off,cs,T,fz,rfl,rfl,_,hget⟩:=(RV.rw hR).pos tcells_len (by omega)
 have hll:=hTab.len
 have q2:cs[off+v*5+2]? =some (.int .i64 (at5 l v).c2):=hget v 2 _ _ (at5get (by omega)) rfl
 have r2:cs[off+u*5+2]? =some (.int .i64 (at5 l u).c2):=hget u 2 _ _ (at5get (by omega)) rfl
 have r3:cs[off+u*5+3]? =some (.int .i64 (at5 l u).c3):=hget u 3 _ _ (at5get (by omega)) rfl
 have hbu:=hTab.bnd hul
 generalize (at5 l v).c2=z2 at*
 generalize (at5 l u).c2=y2 at*
 generalize (at5 l u).c3=y3 at*
 have w3:IntKind.wrap .i64 (y2+y3)=y2+y3:=wrap_i64 (by omega)
 by_cases g1:y2≤z2
 ·by_cases g2:z2<y2+y3
  ·rw[decide_eq_true (hcu.2 ⟨g1,g2⟩)] at hBe
   have hn:(!(dec (z2<y2+y3)==true))=false:=by rw[dec_true g2];rfl
   repeat(first|(refine st ?_;intros)|refine G.draw [] (h:= ?_)|refine G.draw (id:=17) [(49,.quiet)] (h:= ?_)|(refine cq hAw ?_)|(refine cq hFo ?_)|(refine cq hFe ?_)|(refine cq hJo ?_)|(refine cq hBe ?_))
   refine Dn.round (v+1) (by omega) (by omega)
  ·rw[decide_eq_false (fun hq=>g2 (hcu.1 hq).2)] at hBe
   have hn:(!(dec (z2<y2+y3)==false))=false:=by rw[dec_false g2];rfl
   repeat(first|(refine st ?_;intros)|refine G.draw [] (h:= ?_)|refine G.draw (id:=17) [(49,.quiet)] (h:= ?_)|(refine cq hAw ?_)|(refine cq hFo ?_)|(refine cq hFe ?_)|(refine cq hJo ?_)|(refine cq hBe ?_))
   refine Dn.round (v+1) (by omega) (by omega)
 ·rw[decide_eq_false (fun hq=>g1 (hcu.1 hq).1)] at hBe
  repeat(first|(refine st ?_;intros)|refine G.draw [] (h:= ?_)|refine G.draw (id:=17) [(49,.quiet)] (h:= ?_)|(refine cq hAw ?_)|(refine cq hFo ?_)|(refine cq hFe ?_)|(refine cq hJo ?_)|(refine cq hBe ?_))
  refine Dn.round (v+1) (by omega) (by omega)
end Go.Proofs.YtlnehgklibbjiaaGreat
