/-
  Parts of the proof, put together: Ext1, Ext2, Stable, SrtPlain3, Sym, Stable2. No condition.
-/
import Derived.Test.YtjoicjgfgkpdjaaGreatI12
set_option linter.unusedVariables false
set_option linter.unusedSimpArgs false
set_option linter.unnecessarySimpa false
set_option maxHeartbeats 4000000
namespace Go.Proofs.YtjoicjgfgkpdjaaGreat
open Go.SL Go.Spc Go.Tup Go.Srt
instance:Inhabited T5:=⟨⟨0,0,0,0,0⟩⟩
def oCells (o:T5):List Value:=[.int .i64 o.c0,.int .i64 o.c1,.int .i64 o.c2,.int .i64 o.c3,.int .i64 o.c4]
def runCells (bb k n:Nat) (o:T5):List Value:=[pv bb,.int .i64 (k:Int),.int .i64 (n:Int),.int .i64 o.c0,.int .i64 o.c1,.int .i64 o.c2,.int .i64 o.c3,.int .i64 o.c4]
def RunH (bx:Nat) (g:Gr) (k:Nat) (o:T5) (ts:List T5) (rest:List Int):Hp:=
 [[(bx,row (runCells g.bb k ts.length o) 187)],[g.obj],[(g.br,row (wcells (words k ts++rest)) 125)]]
def T5.setCol (t:T5) (c:Nat) (v:Int):T5:=
 match c with
 |0=>{t with c0:=v}
 |1=>{t with c1:=v}
 |2=>{t with c2:=v}
 |3=>{t with c3:=v}
 |4=>{t with c4:=v}
 |_=>t
theorem setCol_list (t:T5) (c:Nat) (v:Int) (h:c<5):(T5.setCol t c v).toList=t.toList.set c v:=by
 match c,h with
 |0,_=>rfl
 |1,_=>rfl
 |2,_=>rfl
 |3,_=>rfl
 |4,_=>rfl
theorem tw_set (t:T5) (k c:Nat) (v:Int) (h:c<k) (hk:k≤5):tw k (T5.setCol t c v)=(tw k t).set c (wd v):=by
 unfold tw
 rw[setCol_list t c v (by omega),List.take_set,List.map_set]
theorem words_set (k c:Nat) (v:Int) (hc:c<k) (hk:k≤5):∀(ts:List T5) (i:Nat),i<ts.length→(words k ts).set (i*k+c) (wd v)=words k (ts.set i (T5.setCol (at_ ts i) c v))
 |[],_,h=>by simp at h
 |t::ts,0,_=>by
  simp only[words,List.flatMap_cons,Nat.zero_mul,Nat.zero_add,List.set_cons_zero]
  rw[List.set_append_left _ _ (by rw[tw_length t hk];exact hc)]
  show _=tw k (T5.setCol t c v)++_
  rw[tw_set t k c v hc hk]
 |t::ts,i+1,h=>by
  have ih:=words_set k c v hc hk ts i (by simpa using h)
  simp only[words,List.flatMap_cons,List.set_cons_succ] at ih⊢
  rw[List.set_append_right _ _ (by rw[tw_length t hk,Nat.succ_mul];omega),tw_length t hk,show(i+1)*k+c-k=i*k+c by rw[Nat.succ_mul];omega,ih]
  rfl
theorem wordsk_get (k c:Nat) (hc:c<k) (hk:k≤5):∀(ts:List T5) (i:Nat),i<ts.length→(words k ts)[i*k+c]? =some (wd ((at_ ts i).col c))
 |[],_,h=>by simp at h
 |t::ts,0,_=>by
  simp only[words,List.flatMap_cons,Nat.zero_mul,Nat.zero_add]
  rw[List.getElem?_append_left (by rw[tw_length t hk];exact hc),tw_get t k c hc hk]
  rfl
 |t::ts,i+1,h=>by
  have ih:=wordsk_get k c hc hk ts i (by simpa using h)
  simp only[words,List.flatMap_cons] at ih⊢
  rw[List.getElem?_append_right (by rw[tw_length t hk,Nat.succ_mul];omega),tw_length t hk,show(i+1)*k+c-k=i*k+c by rw[Nat.succ_mul];omega,ih]
  rfl
theorem idx_lt {i n k c:Nat} (hi:i<n) (hc:c<k):i*k+c<n*k:=by
 have:(i+1)*k≤n*k:=Nat.mul_le_mul_right _ hi
 rw[Nat.succ_mul] at this;omega
theorem rw_get {k c:Nat} (hc:c<k) (hk:k≤5) {ts:List T5} {i:Nat} (hi:i<ts.length) {rest:List Int}:(wcells (words k ts++rest))[i*k+c]? =some (.int .u64 (wd ((at_ ts i).col c))):=by
 unfold wcells
 rw[List.getElem?_map,List.getElem?_append_left (by rw[words_length hk];exact idx_lt hi hc),wordsk_get k c hc hk ts i hi]
 rfl
theorem rw_set {k c:Nat} (hc:c<k) (hk:k≤5) {ts:List T5} {i:Nat} (hi:i<ts.length) {rest:List Int} (v:Int):(wcells (words k ts++rest)).set (i*k+c) (.int .u64 (wd v))=wcells (words k (ts.set i (T5.setCol (at_ ts i) c v))++rest):=by
 rw[wcells_set,List.set_append_left _ _ (by rw[words_length hk];exact idx_lt hi hc),words_set k c v hc hk ts i hi]
theorem At_ct (bx:Nat) (g:Gr) (k:Nat) (o:T5) (ts:List T5) (rest:List Int) (h1:1≤k) (h2:k≤5) (hg:g.n≤1000000000) (hgn:ts.length*k≤g.n) (hok:∀t∈ts,okT k t) (i:Nat) (hi:i<ts.length):
  CtQ Tryz.prog 143 [pv bx,.int .i64 (i:Int)] (RunH bx g k o ts rest) (tv (at_ ts i)):=by
 have hm:at_ ts i∈ts:=by
  unfold at_;rw[List.getD_eq_getElem?_getD,List.getElem?_eq_getElem hi];exact List.getElem_mem hi
 have hokt:=hok _ hm
 have hback:∀c,c<k→IntKind.wrap .i64 (wd ((at_ ts i).col c))=(at_ ts i).col c:=fun c hc=>wrap_back (okT_col hokt c (by omega))
 have htz:=tpart_zero (at_ ts i)
 have htp:=tpart_length (at_ ts i)
 have htset:=tpart_set (at_ ts i)
 have htall:=tpart_all (at_ ts i) k h2 hokt
 have hik:i*k≤ts.length*k:=Nat.mul_le_mul_right _ (by omega)
 have hmul:IntKind.wrap .i64 ((i:Int)*(k:Int))=((i*k:Nat):Int):=by rw[←Int.natCast_mul];exact wrap_i64 (by omega)
 have hget:∀c,c<k→(wcells (words k ts++rest))[i*k+c]? =some (.int .u64 (wd ((at_ ts i).col c))):=fun c hc=>rw_get hc h2 hi
 have hidx:∀c,c<k→i*k+c<ts.length*k:=fun c hc=>idx_lt hi hc
 generalize hcells:wcells (words k ts++rest)=cells at*
 generalize at_ ts i=t at*
 generalize hn:ts.length=n at*
 unfold RunH runCells Gr.obj
 rw[hcells,hn]
 generalize hik2:i*k=ik at*
 refine Ct.intro Tryz.func143 rfl Tryz.ntmps143 (nle rfl) fun w0=> ?_;dsimp only[argSlots,Nat.reduceAdd]
 repeat(first|(refine st ?_;intros)|refine G.draw [] (h:= ?_))
 rename_i b4 b5
 refine G.loop (X:=Nat) (fun c=>c≤k) (fun c=>[(11,.int .i64 (c:Int)),(10,.int .i64 (k:Int)),(0,pv bx),(1,.int .i64 (i:Int)),(5,.pointer (some ⟨b5,0,none⟩)),(4,.pointer (some ⟨b4,0,none⟩))])
  (fun c=>[[(b4,row (tpart t 0) 38)],[(b5,row (tpart t c) 38)],[(bx,row [pv g.bb,.int .i64 (k:Int),.int .i64 (n:Int),.int .i64 o.c0,.int .i64 o.c1,.int .i64 o.c2,.int .i64 o.c3,.int .i64 o.c4] 187)],[(g.bb,row [.slice (some ⟨g.br,0,none⟩) g.n g.n] 150)],[(g.br,row cells 125)]])
  (fun c=>k-c) 0 (by omega) (body:= ?_)
 intro c hc
 by_cases hck:c<k
 ·have hgi:=hget c hck
  have hbi:=hback c hck
  have hti:=htset c (by omega)
  have htl:=htp c (by omega)
  have hid:=hidx c hck
  have hai:((ik:Int)+(c:Int)).toNat=ik+c:=by omega
  repeat(first|(refine st ?_;intros)|refine G.draw [] (h:= ?_))
  exact Dn.round (c+1) (by omega) (by omega)
 ·have hki:k=c:=by omega
  subst hki
  rw[htall,htz]
  unfold tcells
  repeat(first|(refine st ?_;intros)|refine G.draw [] (h:= ?_))
  (refine Dn.post (Hr:=[[(bx,row [pv g.bb,.int .i64 (k:Int),.int .i64 (n:Int),.int .i64 o.c0,.int .i64 o.c1,.int .i64 o.c2,.int .i64 o.c3,.int .i64 o.c4] 187)],[(g.bb,row [.slice (some ⟨g.br,0,none⟩) g.n g.n] 150)],[(g.br,row cells 125)]]) Tryz.results143 (hR:= ?_);exact⟨rfl,rfl⟩)
theorem RLen_ct (bx:Nat) (g:Gr) (k:Nat) (o:T5) (ts:List T5) (rest:List Int):CtQ Tryz.prog 181 [pv bx] (RunH bx g k o ts rest) (.int .i64 (ts.length:Int)):=by
 unfold RunH runCells
 refine Ct.intro Tryz.func181 rfl Tryz.ntmps181 (nle rfl) fun w0=> ?_;dsimp only[argSlots,Nat.reduceAdd]
 repeat(refine st ?_;intros)
 (refine Dn.post (Hr:=[[(bx,row [pv g.bb,.int .i64 (k:Int),.int .i64 (ts.length:Int),.int .i64 o.c0,.int .i64 o.c1,.int .i64 o.c2,.int .i64 o.c3,.int .i64 o.c4] 187)],[g.obj],[(g.br,row (wcells (words k ts++rest)) 125)]]) Tryz.results181 (hR:= ?_);exact⟨rfl,rfl⟩)
def ltO (o:T5) (a b:T5):Bool:=decide (cmpT o a b<0)
theorem ltO_swo (o:T5):Swo (ltO o) where
 asym:=fun a b h=>by
  simp only[ltO,decide_eq_true_eq,decide_eq_false_iff_not] at*
  have:=cmpT_swap o a b;omega
 ntrans:=fun a b c h1 h2=>by
  simp only[ltO,decide_eq_false_iff_not] at*
  have e1:=cmpT_swap o a b
  have e2:=cmpT_swap o b c
  have e3:=cmpT_swap o a c
  have:=cmpT_trans o c b a (by omega) (by omega)
  omega
theorem RLess_ct (bx:Nat) (g:Gr) (k:Nat) (o:T5) (ts:List T5) (rest:List Int) (h1:1≤k) (h2:k≤5) (hg:g.n≤1000000000) (hgn:ts.length*k≤g.n) (hok:∀t∈ts,okT k t) (i j:Nat) (hi:i<ts.length) (hj:j<ts.length):
  CtQ Tryz.prog 182 [pv bx,.int .i64 (i:Int),.int .i64 (j:Int)] (RunH bx g k o ts rest) (.bool (ltO o (at_ ts i) (at_ ts j))):=by
 have hA:=At_ct bx g k o ts rest h1 h2 hg hgn hok i hi
 have hB:=At_ct bx g k o ts rest h1 h2 hg hgn hok j hj
 have hC:CtQ Tryz.prog 154 [tv (at_ ts i),tv (at_ ts j),.agg (oCells o).toArray] [] (.int .i64 (cmpT o (at_ ts i) (at_ ts j))):=Compare_ct _ _ _ _ _ _ _ _ _ _ _ _ _ _ _
 generalize tv (at_ ts i)=va at*
 generalize tv (at_ ts j)=vb at*
 have hlt:ltO o (at_ ts i) (at_ ts j)=dec (cmpT o (at_ ts i) (at_ ts j)<0):=by rw[dec_eq];rfl
 rw[hlt]
 generalize cmpT o (at_ ts i) (at_ ts j)=c at*
 unfold RunH runCells at*
 unfold oCells at hC
 refine Ct.intro Tryz.func182 rfl Tryz.ntmps182 (nle rfl) fun w0=> ?_;dsimp only[argSlots,Nat.reduceAdd]
 repeat(first|(refine st ?_;intros)|refine G.draw (id:=1) [(2,.quiet),(5,.quiet),(10,.quiet)] (h:= ?_)|(refine cq hA ?_)|(refine cq hB ?_)|(refine cq hC ?_))
 (refine Dn.post (Hr:=[[(bx,row [pv g.bb,.int .i64 (k:Int),.int .i64 (ts.length:Int),.int .i64 o.c0,.int .i64 o.c1,.int .i64 o.c2,.int .i64 o.c3,.int .i64 o.c4] 187)],[g.obj],[(g.br,row (wcells (words k ts++rest)) 125)]]) Tryz.results182 (hR:= ?_);exact⟨rfl,rfl⟩)
def mix (c:Nat) (a b:T5):T5:=⟨if 0<c then a.c0 else b.c0,if 1<c then a.c1 else b.c1,if 2<c then a.c2 else b.c2,if 3<c then a.c3 else b.c3,if 4<c then a.c4 else b.c4⟩
theorem mix_zero (a b:T5):mix 0 a b=b:=rfl
theorem mix_succ (c:Nat) (a b:T5) (h:c<5):T5.setCol (mix c a b) c (a.col c)=mix (c+1) a b:=by
 match c,h with
 |0,_=>rfl
 |1,_=>rfl
 |2,_=>rfl
 |3,_=>rfl
 |4,_=>rfl
theorem mix_col (c:Nat) (a b:T5) (h:c<5):(mix c a b).col c=b.col c:=by
 match c,h with
 |0,_=>rfl
 |1,_=>rfl
 |2,_=>rfl
 |3,_=>rfl
 |4,_=>rfl
theorem mix_all (k:Nat) (a b:T5) (h:k≤5) (ha:∀i,k≤i→a.col i=0) (hb:∀i,k≤i→b.col i=0):mix k a b=a:=by
 have a0:=ha 0;have a1:=ha 1;have a2:=ha 2;have a3:=ha 3;have a4:=ha 4
 have b0:=hb 0;have b1:=hb 1;have b2:=hb 2;have b3:=hb 3;have b4:=hb 4
 obtain⟨x0,x1,x2,x3,x4⟩:=a
 obtain⟨y0,y1,y2,y3,y4⟩:=b
 simp only[T5.col] at*
 match k,h with
 |0,_=>simp_all [mix]
 |1,_=>simp_all [mix]
 |2,_=>simp_all [mix]
 |3,_=>simp_all [mix]
 |4,_=>simp_all [mix]
 |5,_=>simp[mix]
theorem at_set (ts:List T5) (i j:Nat) (t:T5) (hi:i<ts.length):at_ (ts.set i t) j=if j=i then t else at_ ts j:=by
 unfold at_
 simp only[List.getD_eq_getElem?_getD,List.getElem?_set]
 by_cases h:i=j
 ·subst h;simp[hi]
 ·rw[if_neg h,if_neg (fun e=>h e.symm)]
def swc (ts:List T5) (i j c:Nat):List T5:=(ts.set i (mix c (at_ ts j) (at_ ts i))).set j (mix c (at_ ts i) (at_ ts j))
theorem RSwap_ct (bx:Nat) (g:Gr) (k:Nat) (o:T5) (ts:List T5) (rest:List Int) (h1:1≤k) (h2:k≤5) (hg:g.n≤1000000000) (hgn:ts.length*k≤g.n) (hok:∀t∈ts,okT k t) (i j:Nat) (hi:i<ts.length) (hj:j<ts.length) (hij:i≠j):
  Ct Tryz.prog 183 [pv bx,.int .i64 (i:Int),.int .i64 (j:Int)] (RunH bx g k o ts rest) fun v H'=>v= .tuple #[]∧H'=RunH bx g k o (sw ts i j) rest:=by
 have hik:i*k≤ts.length*k:=Nat.mul_le_mul_right _ (by omega)
 have hjk:j*k≤ts.length*k:=Nat.mul_le_mul_right _ (by omega)
 have hmi:IntKind.wrap .i64 ((i:Int)*(k:Int))=((i*k:Nat):Int):=by rw[←Int.natCast_mul];exact wrap_i64 (by omega)
 have hmj:IntKind.wrap .i64 ((j:Int)*(k:Int))=((j*k:Nat):Int):=by rw[←Int.natCast_mul];exact wrap_i64 (by omega)
 have hmem:∀q,q<ts.length→at_ ts q∈ts:=fun q hq=>by
  unfold at_;rw[List.getD_eq_getElem?_getD,List.getElem?_eq_getElem hq];exact List.getElem_mem hq
 have hend:swc ts i j k=sw ts i j:=by
  unfold swc sw
  rw[mix_all k _ _ h2 (hok _ (hmem j hj)).2 (hok _ (hmem i hi)).2,mix_all k _ _ h2 (hok _ (hmem i hi)).2 (hok _ (hmem j hj)).2]
 have hbeg:swc ts i j 0=ts:=by
  unfold swc
  rw[mix_zero,mix_zero]
  apply ext_at
  ·simp
  ·intro q
   rw[at_set _ _ _ _ (by simpa using hj),at_set _ _ _ _ hi]
   split
   ·rename_i e;rw[e]
   ·split
    ·rename_i e;rw[e]
    ·rfl
 have hlen:∀c,(swc ts i j c).length=ts.length:=fun c=>by simp[swc]
 have hati:∀c,at_ (swc ts i j c) i=mix c (at_ ts j) (at_ ts i):=fun c=>by
  unfold swc;rw[at_set _ _ _ _ (by simpa using hj),if_neg hij,at_set _ _ _ _ hi,if_pos rfl]
 have hatj:∀c,at_ (swc ts i j c) j=mix c (at_ ts i) (at_ ts j):=fun c=>by
  unfold swc;rw[at_set _ _ _ _ (by simpa using hj),if_pos rfl]
 have hgi:∀c,c<k→(wcells (words k (swc ts i j c)++rest))[i*k+c]? =some (.int .u64 (wd ((at_ ts i).col c))):=fun c hc=>by
  rw[rw_get hc h2 (by rw[hlen];exact hi),hati,mix_col _ _ _ (by omega)]
 have hgj:∀c,c<k→(wcells (words k (swc ts i j c)++rest))[j*k+c]? =some (.int .u64 (wd ((at_ ts j).col c))):=fun c hc=>by
  rw[rw_get hc h2 (by rw[hlen];exact hj),hatj,mix_col _ _ _ (by omega)]
 obtain⟨M,hM⟩:∃M:Nat→List Value,∀c,c<k→(wcells (words k (swc ts i j c)++rest)).set (i*k+c) (.int .u64 (wd ((at_ ts j).col c)))=M c∧(M c).set (j*k+c) (.int .u64 (wd ((at_ ts i).col c)))=wcells (words k (swc ts i j (c+1))++rest):=by
  refine⟨fun c=>(wcells (words k (swc ts i j c)++rest)).set (i*k+c) (.int .u64 (wd ((at_ ts j).col c))),fun c hc=>⟨rfl,?_⟩⟩
  dsimp only
  rw[rw_set hc h2 (by rw[hlen];exact hi),rw_set hc h2 (by simp[hlen];exact hj)]
  congr 2
  congr 1
  rw[at_set _ _ _ _ (by rw[hlen];exact hi),if_neg (fun e=>hij e.symm),hati,hatj,mix_succ _ _ _ (by omega),mix_succ _ _ _ (by omega)]
  have e:∀(l:List T5) (A B A' B':T5),(((l.set i A).set j B).set i A').set j B'=(l.set i A').set j B':=fun l A B A' B'=>by
   rw[List.set_comm (l:=l.set i A) B A' (fun e=>hij e.symm),List.set_set,List.set_set]
  exact e ts _ _ _ _
 have hcl:∀c,(wcells (words k (swc ts i j c)++rest)).length=ts.length*k+rest.length:=fun c=>by
  rw[wcells_length,List.length_append,words_length h2,hlen]
 have hMl:∀c,c<k→(M c).length=ts.length*k+rest.length:=fun c hc=>by rw[←(hM c hc).1,List.length_set,hcl]
 have hidi:∀c,c<k→i*k+c<ts.length*k:=fun c hc=>idx_lt hi hc
 have hidj:∀c,c<k→j*k+c<ts.length*k:=fun c hc=>idx_lt hj hc
 have hH0:RunH bx g k o ts rest=RunH bx g k o (swc ts i j 0) rest:=by rw[hbeg]
 have hH1:RunH bx g k o (sw ts i j) rest=RunH bx g k o (swc ts i j k) rest:=by rw[hend]
 rw[hH0,hH1]
 unfold RunH runCells Gr.obj
 simp only[hlen]
 generalize hC:(fun c=>wcells (words k (swc ts i j c)++rest))=C at*
 have hCe:∀c,wcells (words k (swc ts i j c)++rest)=C c:=fun c=>by rw[←hC]
 simp only[hCe] at*
 generalize i*k=ik at*
 generalize j*k=jk at*
 generalize hn:ts.length=n at*
 refine Ct.intro Tryz.func183 rfl Tryz.ntmps183 (nle rfl) fun w0=> ?_;dsimp only[argSlots,Nat.reduceAdd]
 repeat(first|(refine st ?_;intros)|refine G.draw [] (h:= ?_))
 refine G.loop (X:=Nat) (fun c=>c≤k) (fun c=>[(13,.int .i64 (c:Int)),(12,.int .i64 (k:Int)),(0,pv bx),(1,.int .i64 (i:Int)),(2,.int .i64 (j:Int))])
  (fun c=>[[(bx,row [pv g.bb,.int .i64 (k:Int),.int .i64 (n:Int),.int .i64 o.c0,.int .i64 o.c1,.int .i64 o.c2,.int .i64 o.c3,.int .i64 o.c4] 187)],[(g.bb,row [.slice (some ⟨g.br,0,none⟩) g.n g.n] 150)],[(g.br,row (C c) 125)]])
  (fun c=>k-c) 0 (by omega) (body:= ?_)
 intro c hc
 by_cases hck:c<k
 ·have h3:=hgi c hck
  have h4:=hgj c hck
  obtain⟨h5,h6⟩:=hM c hck
  have h7:=hMl c hck
  have h8:=hcl c
  have h9:=hidi c hck
  have h10:=hidj c hck
  have e1:((ik:Int)+(c:Int)).toNat=ik+c:=by omega
  have e2:((jk:Int)+(c:Int)).toNat=jk+c:=by omega
  repeat(first|(refine st ?_;intros)|refine G.draw [] (h:= ?_))
  exact Dn.round (c+1) (by omega) (by omega)
 ·have hki:k=c:=by omega
  subst hki
  repeat(first|(refine st ?_;intros)|refine G.draw [] (h:= ?_))
  (refine Dn.postEnd (Hr:=[[(bx,row [pv g.bb,.int .i64 (k:Int),.int .i64 (n:Int),.int .i64 o.c0,.int .i64 o.c1,.int .i64 o.c2,.int .i64 o.c3,.int .i64 o.c4] 187)],[(g.bb,row [.slice (some ⟨g.br,0,none⟩) g.n g.n] 150)],[(g.br,row (C k) 125)]]) Tryz.results183 (hR:= ?_);exact⟨rfl,rfl⟩)
instance:Meth Tryz.prog 185 "Less" 182:=Meth.of (by kernel_rfl)
instance:Meth Tryz.prog 185 "Swap" 183:=Meth.of (by kernel_rfl)
instance:Meth Tryz.prog 185 "Len" 181:=Meth.of (by kernel_rfl)
abbrev runV (bx:Nat):Value:= .iface 185 (pv bx)
structure TsOk (g:Gr) (k n:Nat) (ts:List T5):Prop where
 k1:1≤k
 k5:k≤5
 gn:g.n≤1000000000
 fit:n*k≤g.n
 len:ts.length=n
 ok:∀t∈ts,okT k t
theorem sw_mem {ts:List T5} {i j:Nat} (hi:i<ts.length) (hj:j<ts.length) {t:T5} (h:t∈sw ts i j):t∈ts:=by
 have hm:∀q,q<ts.length→at_ ts q∈ts:=fun q hq=>by
  unfold at_;rw[List.getD_eq_getElem?_getD,List.getElem?_eq_getElem hq];exact List.getElem_mem hq
 unfold sw at h
 rcases List.mem_or_eq_of_mem_set h with h|h
 ·rcases List.mem_or_eq_of_mem_set h with h|h
  ·exact h
  ·rw[h];exact hm j hj
 ·rw[h];exact hm i hi
theorem TsOk.sw {g:Gr} {k n:Nat} {ts:List T5} (h:TsOk g k n ts) {i j:Nat} (hi:i<n) (hj:j<n):TsOk g k n (sw ts i j):=
 {h with len:=(by rw[sw_length];exact h.len),ok:=fun t ht=>h.ok t (sw_mem (by rw[h.len];exact hi) (by rw[h.len];exact hj) ht)}
theorem TsOk.n_le {g:Gr} {k n:Nat} {ts:List T5} (h:TsOk g k n ts):n≤1000000000:=Nat.le_trans (Nat.le_mul_of_pos_right n h.k1) (Nat.le_trans h.fit h.gn)
theorem less_of {g:Gr} {k n:Nat} {ts:List T5} (h:TsOk g k n ts) (bx:Nat) (o:T5) (rest:List Int) (i j:Nat) (hi:i<n) (hj:j<n):
  CtQ Tryz.prog 182 [pv bx,.int .i64 (i:Int),.int .i64 (j:Int)] (RunH bx g k o ts rest) (.bool (ltO o (at_ ts i) (at_ ts j))):=
 RLess_ct bx g k o ts rest h.k1 h.k5 h.gn (by rw[h.len];exact h.fit) h.ok i j (by rw[h.len];exact hi) (by rw[h.len];exact hj)
theorem swap_of {g:Gr} {k n:Nat} {ts:List T5} (h:TsOk g k n ts) (bx:Nat) (o:T5) (rest:List Int) (i j:Nat) (hi:i<n) (hj:j<n) (hij:i≠j):
  Ct Tryz.prog 183 [pv bx,.int .i64 (i:Int),.int .i64 (j:Int)] (RunH bx g k o ts rest) fun v H'=>v= .tuple #[]∧H'=RunH bx g k o (sw ts i j) rest:=
 RSwap_ct bx g k o ts rest h.k1 h.k5 h.gn (by rw[h.len];exact h.fit) h.ok i j (by rw[h.len];exact hi) (by rw[h.len];exact hj) hij
theorem Seg.mono {α:Type} [Inhabited α] {lt:α→α→Bool} {l:List α} {a b c d:Nat} (h:Seg lt l a b) (h1:a≤c) (h2:d≤b):Seg lt l c d:=fun i j i1 i2 i3=>h i j (by omega) i2 (by omega)
section
variable (bx:Nat) (g:Gr) (k n:Nat) (o:T5) (rest:List Int)
theorem swapRange_ct (ts:List T5) (h:TsOk g k n ts) (a b m:Nat) (hab:a+m≤b) (hb:b+m≤n):
  Ct Tryz.prog 163 [runV bx,.int .i64 (a:Int),.int .i64 (b:Int),.int .i64 (m:Int)] (RunH bx g k o ts rest) fun v H'=>
   v= .tuple #[]∧∃ts',H'=RunH bx g k o ts' rest∧TsOk g k n ts'∧∀q,at_ ts' q=swrF ts a b m q:=by
 have hnn:=h.n_le
 refine Ct.intro Tryz.func163 rfl Tryz.ntmps163 (nle rfl) fun w0=> ?_;dsimp only[argSlots,Nat.reduceAdd]
 repeat(refine st ?_;intros)
 refine G.loop (X:=Nat×List T5) (fun x=>x.1≤m∧TsOk g k n x.2∧∀q,at_ x.2 q=swrF ts a b x.1 q) (fun x=>[(8,.int .i64 (x.1:Int)),(0,runV bx),(1,.int .i64 (a:Int)),(2,.int .i64 (b:Int)),(3,.int .i64 (m:Int))])
  (fun x=>RunH bx g k o x.2 rest) (fun x=>m-x.1) (0,ts) ⟨Nat.zero_le _,h,fun q=>by unfold swrF;rw[if_neg (by omega),if_neg (by omega)]⟩ (body:= ?_)
 rintro⟨i,us⟩ ⟨hi,hok,hq⟩
 dsimp only at hi hok hq⊢
 by_cases him:i<m
 ·have hS:=swap_of hok bx o rest (a+i) (b+i) (by omega) (by omega) (by omega)
  have e1:IntKind.wrap .i64 ((a:Int)+(i:Int))=((a+i:Nat):Int):=by rw[←Int.natCast_add];exact wrap_i64 (by omega)
  have e2:IntKind.wrap .i64 ((b:Int)+(i:Int))=((b+i:Nat):Int):=by rw[←Int.natCast_add];exact wrap_i64 (by omega)
  repeat(refine st ?_;intros)
  refine R.invoke (hct:=hS) (h:= ?_)
  rintro _ _ ⟨rfl,rfl⟩
  try dsimp only[List.cons_append,List.nil_append]
  repeat(refine st ?_;intros)
  exact Dn.round (i+1,sw us (a+i) (b+i)) ⟨him,hok.sw (by omega) (by omega),swr_step hab (by rw[h.len];exact hb) (by rw[hok.len,h.len]) hq him⟩ (by dsimp only;omega)
 ·obtain rfl:i=m:=by omega
  repeat(refine st ?_;intros)
  (refine Dn.postEnd (Hr:=RunH bx g k o us rest) Tryz.results163 (hR:= ?_);exact⟨rfl,us,rfl,hok,hq⟩)
theorem rotate_ct (ts:List T5) (h:TsOk g k n ts) (a m b:Nat) (ham:a<m) (hmb:m<b) (hb:b≤n):
  Ct Tryz.prog 161 [runV bx,.int .i64 (a:Int),.int .i64 (m:Int),.int .i64 (b:Int)] (RunH bx g k o ts rest) fun v H'=>
   v= .tuple #[]∧∃ts',H'=RunH bx g k o ts' rest∧TsOk g k n ts'∧∀q,at_ ts' q=rotF ts a m b q:=by
 have hnn:=h.n_le
 have e1:IntKind.wrap .i64 ((m:Int)-(a:Int))=((m-a:Nat):Int):=by rw[wrap_i64 (by omega)];omega
 have e2:IntKind.wrap .i64 ((b:Int)-(m:Int))=((b-m:Nat):Int):=by rw[wrap_i64 (by omega)];omega
 refine Ct.intro Tryz.func161 rfl Tryz.ntmps161 (nle rfl) fun w0=> ?_;dsimp only[argSlots,Nat.reduceAdd]
 repeat(refine st ?_;intros)
 refine G.loop (X:=Nat×Nat×List T5) (fun x=>0<x.1∧x.1≤m∧0<x.2.1∧m+x.2.1≤n∧TsOk g k n x.2.2∧∀q,rotF x.2.2 (m-x.1) m (m+x.2.1) q=rotF ts a m b q)
  (fun x=>[(9,.int .i64 (x.2.1:Int)),(8,.int .i64 (x.1:Int)),(0,runV bx),(2,.int .i64 (m:Int))])
  (fun x=>RunH bx g k o x.2.2 rest) (fun x=>x.1+x.2.1) (m-a,b-m,ts) ⟨by dsimp only;omega,by dsimp only;omega,by dsimp only;omega,by dsimp only;omega,h,fun q=>by dsimp only;rw[show m-(m-a)=a by omega,show m+(b-m)=b by omega]⟩ (body:= ?_)
 rintro⟨i,j,us⟩ ⟨hi0,him,hj0,hjn,hok,hq⟩
 dsimp only at hi0 him hj0 hjn hok hq⊢
 have e3:IntKind.wrap .i64 ((m:Int)-(i:Int))=((m-i:Nat):Int):=by rw[wrap_i64 (by omega)];omega
 by_cases hij:i=j
 ·subst hij
  have hS:=swapRange_ct bx g k n o rest us hok (m-i) m i (by omega) (by omega)
  repeat(refine st ?_;intros)
  refine R.call (hct:=hS) (h:= ?_)
  rintro _ _ ⟨rfl,us',rfl,hok',hq'⟩
  try dsimp only[List.cons_append,List.nil_append]
  repeat(refine st ?_;intros)
  (refine Dn.postEnd (Hr:=RunH bx g k o us' rest) Tryz.results161 (hR:= ?_);exact⟨rfl,us',rfl,hok',fun q=>by rw[←hq];exact rot_last him hq' q⟩)
 ·by_cases hgt:j<i
  ·have hS:=swapRange_ct bx g k n o rest us hok (m-i) m j (by omega) (by omega)
   have e4:IntKind.wrap .i64 ((i:Int)-(j:Int))=((i-j:Nat):Int):=by rw[wrap_i64 (by omega)];omega
   repeat(refine st ?_;intros)
   refine R.call (hct:=hS) (h:= ?_)
   rintro _ _ ⟨rfl,us',rfl,hok',hq'⟩
   try dsimp only[List.cons_append,List.nil_append]
   repeat(refine st ?_;intros)
   exact Dn.round (i-j,j,us') ⟨by omega,by omega,by omega,by omega,hok',fun q=>by rw[←hq];exact rot_stepL him hgt hq' q⟩ (by dsimp only;omega)
  ·have hS:=swapRange_ct bx g k n o rest us hok (m-i) (m+j-i) i (by omega) (by omega)
   have e4:IntKind.wrap .i64 ((j:Int)-(i:Int))=((j-i:Nat):Int):=by rw[wrap_i64 (by omega)];omega
   have e5:IntKind.wrap .i64 ((m:Int)+(j:Int))=((m+j:Nat):Int):=by rw[←Int.natCast_add];exact wrap_i64 (by omega)
   have e6:IntKind.wrap .i64 (((m+j:Nat):Int)-(i:Int))=((m+j-i:Nat):Int):=by rw[wrap_i64 (by omega)];omega
   repeat(refine st ?_;intros)
   refine R.call (hct:=hS) (h:= ?_)
   rintro _ _ ⟨rfl,us',rfl,hok',hq'⟩
   try dsimp only[List.cons_append,List.nil_append]
   repeat(refine st ?_;intros)
   exact Dn.round (i,j-i,us') ⟨by dsimp only;omega,by dsimp only;omega,by dsimp only;omega,by dsimp only;omega,hok',fun q=>by rw[←hq];exact rot_stepR him (by omega) hq' q⟩ (by dsimp only;omega)
def Srt (o:T5) (ts ts':List T5) (a b:Nat):Prop:=Go.Srt.Sp (ltO o) false ts ts'∧Ins ts ts' a b
theorem insSort_ct (ts:List T5) (h:TsOk g k n ts) (a b:Nat) (hab:a≤b) (hb:b≤n):
  Ct Tryz.prog 158 [runV bx,.int .i64 (a:Int),.int .i64 (b:Int)] (RunH bx g k o ts rest) fun v H'=>
   v= .tuple #[]∧∃ts',H'=RunH bx g k o ts' rest∧TsOk g k n ts'∧Srt o ts ts' a b∧Seg (ltO o) ts' a b:=by
 have hnn:=h.n_le
 have hsw:=ltO_swo o
 refine Ct.intro Tryz.func158 rfl Tryz.ntmps158 (nle rfl) fun w0=> ?_;dsimp only[argSlots,Nat.reduceAdd]
 repeat(first|(refine st ?_;intros)|(refine cq hL ?_))
 refine G.loop (X:=Nat×List T5) (fun x=>a<x.1∧(x.1≤b∨x.1=a+1)∧TsOk g k n x.2∧Srt o ts x.2 a b∧Seg (ltO o) x.2 a x.1)
  (fun x=>[(6,.int .i64 (x.1:Int)),(0,runV bx),(1,.int .i64 (a:Int)),(2,.int .i64 (b:Int))])
  (fun x=>RunH bx g k o x.2 rest) (fun x=>b+1-x.1) (a+1,ts) ⟨Nat.lt_succ_self _,.inr rfl,h,⟨Go.Srt.Sp.refl _ _,Ins.refl _ _ _⟩,fun i j i1 i2 i3=>by dsimp only at i3;omega⟩ (body:= ?_)
 rintro⟨i,us⟩ ⟨hai,hib,hok,⟨hsp,hins⟩,hseg⟩
 dsimp only at hai hib hok hsp hins hseg⊢
 by_cases hi:i<b
 ·repeat(first|(refine st ?_;intros)|(refine cq hL ?_))
  refine G.loop (X:=Nat×List T5) (fun x=>a≤x.1∧x.1≤i∧TsOk g k n x.2∧Srt o ts x.2 a b∧Down (ltO o) x.2 a i x.1)
   (fun x=>[(7,.int .i64 (x.1:Int)),(6,.int .i64 (i:Int)),(0,runV bx),(1,.int .i64 (a:Int)),(2,.int .i64 (b:Int))])
   (fun x=>RunH bx g k o x.2 rest) (fun x=>x.1) (i,us) ⟨by dsimp only;omega,Nat.le_refl _,hok,⟨hsp,hins⟩,Down.start hseg⟩ (body:= ?_)
  rintro⟨j,vs⟩ ⟨haj,hji,hok2,⟨hsp2,hins2⟩,hdown⟩
  dsimp only at haj hji hok2 hsp2 hins2 hdown⊢
  by_cases hja:a<j
  ·have hL:=less_of hok2 bx o rest j (j-1) (by omega) (by omega)
   have e1:IntKind.wrap .i64 ((j:Int)-1)=((j-1:Nat):Int):=by rw[wrap_i64 (by omega)];omega
   cases hlt:ltO o (at_ vs j) (at_ vs (j-1)) with
   |true=>
    rw[hlt] at hL
    have hS:=swap_of hok2 bx o rest j (j-1) (by omega) (by omega) (by omega)
    repeat(first|(refine st ?_;intros)|(refine cq hL ?_))
    refine R.invoke (hct:=hS) (h:= ?_)
    rintro _ _ ⟨rfl,rfl⟩
    try dsimp only[List.cons_append,List.nil_append]
    repeat(first|(refine st ?_;intros)|(refine cq hL ?_))
    refine Dn.round (j-1,sw vs j (j-1)) ⟨by omega,by omega,hok2.sw (by omega) (by omega),⟨hsp2.trans (sw_sp hsw (by omega) (by rw[hok2.len];omega) hlt),hins2.trans (sw_ins (by omega) (by omega) (by rw[hok2.len];omega))⟩,hdown.step hsw hja hji (by rw[hok2.len];omega) hlt⟩ (by dsimp only;omega)
   |false=>
    rw[hlt] at hL
    repeat(first|(refine st ?_;intros)|(refine cq hL ?_))
    exact Dn.round (i+1,vs) ⟨by omega,.inl (by omega),hok2,⟨hsp2,hins2⟩,hdown.stop hsw (.inr hlt) haj⟩ (by dsimp only;omega)
  ·repeat(first|(refine st ?_;intros)|(refine cq hL ?_))
   exact Dn.round (i+1,vs) ⟨by omega,.inl (by omega),hok2,⟨hsp2,hins2⟩,hdown.stop hsw (.inl (by omega)) haj⟩ (by dsimp only;omega)
 ·repeat(first|(refine st ?_;intros)|(refine cq hL ?_))
  (refine Dn.postEnd (Hr:=RunH bx g k o us rest) Tryz.results158 (hR:= ?_);exact⟨rfl,us,rfl,hok,⟨hsp,hins⟩,Seg.mono hseg (Nat.le_refl _) (by omega)⟩)
end
end Go.Proofs.YtjoicjgfgkpdjaaGreat
namespace Go.Srt
variable {α:Type} {lt:α→α→Bool} [Inhabited α]
def Blk (lt:α→α→Bool) (l:List α) (bs n:Nat):Prop:=∀q,Seg lt l (q*bs) (min ((q+1)*bs) n)
def Mid (lt:α→α→Bool) (l:List α) (bs n q:Nat):Prop:=(∀p,p<q→Seg lt l (p*(2*bs)) ((p+1)*(2*bs)))∧∀p,2*q≤p→Seg lt l (p*bs) (min ((p+1)*bs) n)
theorem Seg.sub {l:List α} {a b c d:Nat} (h:Seg lt l a b) (h1:a≤c) (h2:d≤b):Seg lt l c d:=fun i j i1 i2 i3=>h i j (by omega) i2 (by omega)
theorem Seg.none {l:List α} {a b:Nat} (h:b≤a):Seg lt l a b:=fun i j i1 i2 i3=>by omega
theorem mul2 (q bs:Nat):(2*q)*bs=q*(2*bs):=by rw[Nat.mul_comm 2 q,Nat.mul_assoc]
theorem mid_start {l:List α} {bs n:Nat} (h:Blk lt l bs n):Mid lt l bs n 0:=⟨fun p hp=>by omega,fun p _=>h p⟩
theorem mid_get {l:List α} {bs n q a:Nat} (h:Mid lt l bs n q) (ha:a=q*(2*bs)) (hn:a+bs≤n):Seg lt l a (a+bs)∧Seg lt l (a+bs) (min (a+2*bs) n):=by
 have h1:=h.2 (2*q) (Nat.le_refl _)
 have h2:=h.2 (2*q+1) (by omega)
 have e:=mul2 q bs
 rw[Nat.succ_mul (2*q),e,←ha] at h1
 rw[Nat.succ_mul (2*q+1),Nat.succ_mul (2*q),e,←ha] at h2
 refine⟨h1.sub (Nat.le_refl _) (by omega),h2.sub (Nat.le_refl _) (by omega)⟩
theorem mid_step {l l':List α} {bs n q a b:Nat} (h:Mid lt l bs n q) (ha:a=q*(2*bs)) (hb:b=a+2*bs) (hi:Ins l l' a b) (hs:Seg lt l' a b):Mid lt l' bs n (q+1):=by
 refine⟨fun p hp=> ?_,fun p hp=> ?_⟩
 ·by_cases hpq:p=q
  ·subst hpq
   rw[Nat.succ_mul p,←ha,←hb];exact hs
  ·refine(h.1 p (by omega)).out hi (.inl ?_)
   rw[ha];exact Nat.mul_le_mul_right _ (by omega)
 ·refine(h.2 p (by omega)).out hi (.inr ?_)
  have:=Nat.mul_le_mul_right bs hp
  rw[show 2*(q+1)=2*q+1+1 by omega,Nat.succ_mul (2*q+1),Nat.succ_mul (2*q),mul2,←ha] at this
  omega
theorem mid_fin {l l':List α} {bs n q a:Nat} (h:Mid lt l bs n q) (ha:a=q*(2*bs)) (hn:n<a+2*bs) (hi:Ins l l' a n) (hs:Seg lt l' a n):Blk lt l' (2*bs) n:=by
 intro p
 by_cases hpq:p<q
 ·refine(h.1 p hpq).out hi (.inl ?_)|>.sub (Nat.le_refl _) (by omega)
  rw[ha];exact Nat.mul_le_mul_right _ (by omega)
 ·by_cases hp:p=q
  ·subst hp
   rw[←ha];exact hs.sub (Nat.le_refl _) (by omega)
  ·refine Seg.none ?_
   have:=Nat.mul_le_mul_right (2*bs) (show q+1≤p by omega)
   rw[Nat.succ_mul q,←ha] at this
   omega
theorem mid_fin0 {l:List α} {bs n q a:Nat} (h:Mid lt l bs n q) (ha:a=q*(2*bs)) (hn:n≤a+bs) (hb:0<bs):Blk lt l (2*bs) n:=by
 refine mid_fin h ha (by omega) (Ins.refl _ _ _) ?_
 have h1:=h.2 (2*q) (Nat.le_refl _)
 have e:=mul2 q bs
 rw[Nat.succ_mul (2*q),e,←ha] at h1
 exact h1.sub (Nat.le_refl _) (by omega)
theorem blk_one {l:List α} {bs n:Nat} (h:Blk lt l bs n) (hb:n≤bs):Seg lt l 0 n:=by
 have:=h 0
 exact this.sub (by omega) (by omega)
theorem blk_first {l l':List α} {n c a:Nat} (h:∀p,p<c→Seg lt l (p*20) ((p+1)*20)) (ha:a=c*20) (hn:n<a+20) (hi:Ins l l' a n) (hs:Seg lt l' a n):Blk lt l' 20 n:=by
 intro p
 by_cases hpq:p<c
 ·exact(h p hpq).out hi (.inl (by omega))|>.sub (Nat.le_refl _) (by omega)
 ·by_cases hp:p=c
  ·subst hp
   rw[←ha];exact hs.sub (Nat.le_refl _) (by omega)
  ·exact Seg.none (by omega)
end Go.Srt
namespace Go.Proofs.YtjoicjgfgkpdjaaGreat
open Go.SL Go.Spc Go.Tup Go.Srt
theorem half_shr (i j:Nat):((i:Int)+(j:Int)).fdiv (2^min (Int.toNat 1) IntKind.u64.bits)=(((i+j)/2:Nat):Int):=by
 have e0:(2:Int)^min (Int.toNat 1) IntKind.u64.bits=2:=by decide
 rw[e0,Int.fdiv_eq_ediv_of_nonneg _ (by decide)]
 omega
theorem Srt.rot {o:T5} {ts us:List T5} {a m b c d:Nat} (h1:a≤m) (h2:m≤b) (hb:b≤ts.length) (hl:us.length=ts.length) (hr:∀k,at_ us k=rotF ts a m b k)
  (hc:∀i j,a≤i→i<m→m≤j→j<b→ltO o (at_ ts j) (at_ ts i)=true) (hca:c≤a) (hbd:b≤d):Srt o ts us c d:=
 ⟨rot_sp (ltO_swo o) h1 h2 hb hl hr hc,(Ins.rot h1 h2 hl hr).wide hca hbd⟩
theorem Srt.trans {o:T5} {ts us vs:List T5} {a b:Nat} (h:Srt o ts us a b) (h2:Srt o us vs a b):Srt o ts vs a b:=⟨h.1.trans h2.1,h.2.trans h2.2⟩
theorem Srt.wide {o:T5} {ts us:List T5} {a b c d:Nat} (h:Srt o ts us a b) (h1:c≤a) (h2:b≤d):Srt o ts us c d:=⟨h.1,h.2.wide h1 h2⟩
theorem Srt.refl (o:T5) (ts:List T5) (a b:Nat):Srt o ts ts a b:=⟨Go.Srt.Sp.refl _ _,Ins.refl _ _ _⟩
section
variable (bx:Nat) (g:Gr) (k n:Nat) (o:T5) (rest:List Int)
theorem symMerge_ct:∀(d:Nat) (ts:List T5) (h:TsOk g k n ts) (a m b:Nat),b-a≤d→a<m→m<b→b≤n→Seg (ltO o) ts a m→Seg (ltO o) ts m b→
  Ct Tryz.prog 159 [runV bx,.int .i64 (a:Int),.int .i64 (m:Int),.int .i64 (b:Int)] (RunH bx g k o ts rest) fun v H'=>
   v= .tuple #[]∧∃ts',H'=RunH bx g k o ts' rest∧TsOk g k n ts'∧Srt o ts ts' a b∧Seg (ltO o) ts' a b:=by
 intro d
 induction d with
 |zero=>intro ts h a m b hd ham hmb;omega
 |succ d ih=>
 intro ts h a m b hd ham hmb hb s1 s2
 have hnn:=h.n_le
 have hsw:=ltO_swo o
 have hlen:=h.len
 have e1:IntKind.wrap .i64 ((m:Int)-(a:Int))=((m-a:Nat):Int):=by rw[wrap_i64 (by omega)];omega
 have e2:IntKind.wrap .i64 ((b:Int)-(m:Int))=((b-m:Nat):Int):=by rw[wrap_i64 (by omega)];omega
 refine Ct.intro Tryz.func159 rfl Tryz.ntmps159 (nle rfl) fun w0=> ?_;dsimp only[argSlots,Nat.reduceAdd]
 by_cases hm1:m=a+1
 ·clear ih
  repeat(first|(refine st ?_;intros)|(refine cq hL ?_))
  refine G.loop (X:=Nat×Nat) (fun x=>m≤x.1∧x.1≤x.2∧x.2≤b∧(x.1=m∨ltO o (at_ ts (x.1-1)) (at_ ts a)=true)∧(x.2=b∨ltO o (at_ ts x.2) (at_ ts a)=false))
   (fun x=>[(9,.int .i64 (x.2:Int)),(8,.int .i64 (x.1:Int)),(0,runV bx),(1,.int .i64 (a:Int))])
   (fun x=>RunH bx g k o ts rest) (fun x=>x.2-x.1) (m,b) ⟨Nat.le_refl _,Nat.le_of_lt hmb,Nat.le_refl _,.inl rfl,.inl rfl⟩ (body:= ?_)
  rintro⟨i,j⟩ ⟨hmi,hij,hjb,f1,f2⟩
  dsimp only at hmi hij hjb f1 f2⊢
  by_cases hlt:i<j
  ·have hsh:=half_shr i j
   generalize hh:(i+j)/2=c at hsh
   have hh1:i≤c∧c<j:=by omega
   have e3:IntKind.wrap .i64 ((i:Int)+(j:Int))=((i+j:Nat):Int):=by rw[←Int.natCast_add];exact wrap_i64 (by omega)
   have hL:=less_of h bx o rest c a (by omega) (by omega)
   cases hl:ltO o (at_ ts c) (at_ ts a) with
   |true=>
    rw[hl] at hL
    repeat(first|(refine st ?_;intros)|(refine cq hL ?_))
    exact Dn.round (c+1,j) ⟨by omega,by omega,hjb,.inr (by simpa using hl),f2⟩ (by dsimp only;omega)
   |false=>
    rw[hl] at hL
    repeat(first|(refine st ?_;intros)|(refine cq hL ?_))
    exact Dn.round (i,c) ⟨hmi,by omega,by omega,f1,.inr hl⟩ (by dsimp only;omega)
  ·obtain rfl:i=j:=by omega
   repeat(first|(refine st ?_;intros)|(refine cq hL ?_))
   refine G.loop (X:=Nat×List T5) (fun x=>a≤x.1∧x.1+1≤i∧TsOk g k n x.2∧∀q,at_ x.2 q=rotF ts a (a+1) (x.1+1) q)
    (fun x=>[(11,.int .i64 (x.1:Int)),(8,.int .i64 (i:Int)),(0,runV bx)])
    (fun x=>RunH bx g k o x.2 rest) (fun x=>i-x.1) (a,ts) ⟨Nat.le_refl _,by dsimp only;omega,h,fun q=>(rot_id ts (.inr rfl) (by omega) (Nat.le_refl _) q).symm⟩ (body:= ?_)
   rintro⟨c,us⟩ ⟨hac,hci,hok,hq⟩
   dsimp only at hac hci hok hq⊢
   have e3:IntKind.wrap .i64 ((i:Int)-1)=((i-1:Nat):Int):=by rw[wrap_i64 (by omega)];omega
   by_cases hc:c<i-1
   ·have hS:=swap_of hok bx o rest c (c+1) (by omega) (by omega) (by omega)
    have e4:IntKind.wrap .i64 ((c:Int)+1)=((c+1:Nat):Int):=by rw[wrap_i64 (by omega)];omega
    repeat(first|(refine st ?_;intros)|(refine cq hL ?_))
    refine R.invoke (hct:=hS) (h:= ?_)
    rintro _ _ ⟨rfl,rfl⟩
    try dsimp only[List.cons_append,List.nil_append]
    repeat(first|(refine st ?_;intros)|(refine cq hL ?_))
    exact Dn.round (c+1,sw us c (c+1)) ⟨by omega,by dsimp only;omega,hok.sw (by omega) (by omega),rot_up hac (by rw[hok.len];omega) hq⟩ (by dsimp only;omega)
   ·obtain rfl:i=c+1:=by omega
    obtain⟨g1,g2⟩:=ins1 hsw hm1 hmi hjb s2 f1 f2 (by rw[hm1];exact hq)
    repeat(first|(refine st ?_;intros)|(refine cq hL ?_))
    (refine Dn.post (Hr:=RunH bx g k o us rest) Tryz.results159 (hR:= ?_);exact⟨rfl,us,rfl,hok,Srt.rot (by omega) hmi (by omega) (by rw[hok.len,hlen]) (by rw[hm1];exact hq) g1 (Nat.le_refl _) hjb,g2⟩)
 by_cases hb1:b=m+1
 ·clear ih
  repeat(first|(refine st ?_;intros)|(refine cq hL ?_))
  refine G.loop (X:=Nat×Nat) (fun x=>a≤x.1∧x.1≤x.2∧x.2≤m∧(x.1=a∨ltO o (at_ ts m) (at_ ts (x.1-1))=false)∧(x.2=m∨ltO o (at_ ts m) (at_ ts x.2)=true))
   (fun x=>[(13,.int .i64 (x.2:Int)),(12,.int .i64 (x.1:Int)),(0,runV bx),(2,.int .i64 (m:Int))])
   (fun x=>RunH bx g k o ts rest) (fun x=>x.2-x.1) (a,m) ⟨Nat.le_refl _,Nat.le_of_lt ham,Nat.le_refl _,.inl rfl,.inl rfl⟩ (body:= ?_)
  rintro⟨i,j⟩ ⟨hmi,hij,hjb,f1,f2⟩
  dsimp only at hmi hij hjb f1 f2⊢
  by_cases hlt:i<j
  ·have hsh:=half_shr i j
   generalize hh:(i+j)/2=c at hsh
   have hh1:i≤c∧c<j:=by omega
   have e3:IntKind.wrap .i64 ((i:Int)+(j:Int))=((i+j:Nat):Int):=by rw[←Int.natCast_add];exact wrap_i64 (by omega)
   have hL:=less_of h bx o rest m c (by omega) (by omega)
   cases hl:ltO o (at_ ts m) (at_ ts c) with
   |true=>
    rw[hl] at hL
    repeat(first|(refine st ?_;intros)|(refine cq hL ?_))
    exact Dn.round (i,c) ⟨hmi,by omega,by omega,f1,.inr hl⟩ (by dsimp only;omega)
   |false=>
    rw[hl] at hL
    repeat(first|(refine st ?_;intros)|(refine cq hL ?_))
    exact Dn.round (c+1,j) ⟨by omega,by omega,hjb,.inr (by simpa using hl),f2⟩ (by dsimp only;omega)
  ·obtain rfl:i=j:=by omega
   repeat(first|(refine st ?_;intros)|(refine cq hL ?_))
   refine G.loop (X:=Nat×List T5) (fun x=>i≤x.1∧x.1≤m∧TsOk g k n x.2∧∀q,at_ x.2 q=rotF ts x.1 m (m+1) q)
    (fun x=>[(15,.int .i64 (x.1:Int)),(12,.int .i64 (i:Int)),(0,runV bx)])
    (fun x=>RunH bx g k o x.2 rest) (fun x=>x.1) (m,ts) ⟨by dsimp only;omega,Nat.le_refl _,h,fun q=>(rot_id ts (.inl rfl) (Nat.le_refl _) (by omega) q).symm⟩ (body:= ?_)
   rintro⟨c,us⟩ ⟨hic,hcm,hok,hq⟩
   dsimp only at hic hcm hok hq⊢
   by_cases hc:i<c
   ·have hS:=swap_of hok bx o rest c (c-1) (by omega) (by omega) (by omega)
    have e4:IntKind.wrap .i64 ((c:Int)-1)=((c-1:Nat):Int):=by rw[wrap_i64 (by omega)];omega
    repeat(first|(refine st ?_;intros)|(refine cq hL ?_))
    refine R.invoke (hct:=hS) (h:= ?_)
    rintro _ _ ⟨rfl,rfl⟩
    try dsimp only[List.cons_append,List.nil_append]
    repeat(first|(refine st ?_;intros)|(refine cq hL ?_))
    exact Dn.round (c-1,sw us c (c-1)) ⟨by dsimp only;omega,by dsimp only;omega,hok.sw (by omega) (by omega),rot_down (by omega) hcm (by rw[hok.len];omega) hq⟩ (by dsimp only;omega)
   ·obtain rfl:c=i:=by omega
    obtain⟨g1,g2⟩:=ins2 hsw hb1 hmi hjb s1 f1 f2 (by rw[hb1];exact hq)
    repeat(first|(refine st ?_;intros)|(refine cq hL ?_))
    (refine Dn.post (Hr:=RunH bx g k o us rest) Tryz.results159 (hR:= ?_);exact⟨rfl,us,rfl,hok,Srt.rot hjb (by omega) (by omega) (by rw[hok.len,hlen]) (by rw[hb1];exact hq) g1 hmi (Nat.le_refl _),g2⟩)
 have e3:IntKind.wrap .i64 ((a:Int)+(b:Int))=((a+b:Nat):Int):=by rw[←Int.natCast_add];exact wrap_i64 (by omega)
 have hsh:=half_shr a b
 generalize hmid:(a+b)/2=mid at hsh
 have e4:IntKind.wrap .i64 ((mid:Int)+(m:Int))=((mid+m:Nat):Int):=by rw[←Int.natCast_add];exact wrap_i64 (by omega)
 obtain⟨low,hlow⟩:∃low,low=if mid<m then mid+m-b else a:=⟨_,rfl⟩
 obtain⟨high,hhigh⟩:∃high,high=if mid<m then mid else m:=⟨_,rfl⟩
 have hN:mid+m≤a+b∨mid<m:=by omega
 have e5:IntKind.wrap .i64 (((mid+m:Nat):Int)-1)=((mid+m-1:Nat):Int):=by rw[wrap_i64 (by omega)];omega
 have hlohi:low≤high:=by split at hlow<;>split at hhigh<;>omega
 have hhim:high≤m:=by split at hhigh<;>omega
 repeat(first|(refine stn ?_;intros)|(refine cq hL ?_))
 apply G.seq
 repeat(first|(refine stn ?_;intros)|(refine cq hL ?_))
 apply G.seq
 repeat(first|(refine stn ?_;intros)|(refine cq hL ?_))
 apply G.seq
 repeat(first|(refine stn ?_;intros)|(refine cq hL ?_))
 apply G.seq
 repeat(first|(refine stn ?_;intros)|(refine cq hL ?_))
 apply G.seq
 repeat(first|(refine stn ?_;intros)|(refine cq hL ?_))
 apply G.seq
 repeat(first|(refine stn ?_;intros)|(refine cq hL ?_))
 apply G.seq
 repeat(first|(refine stn ?_;intros)|(refine cq hL ?_))
 refine G.cut (D':=[]) (X:=Unit) (fun _=>True) (fun _=>[(18,.int .i64 (low:Int)),(19,.int .i64 (high:Int)),(17,.int .i64 ((mid+m:Nat):Int)),(16,.int .i64 (mid:Int)),(0,runV bx),(1,.int .i64 (a:Int)),(2,.int .i64 (m:Int)),(3,.int .i64 (b:Int))])
  (fun _=>RunH bx g k o ts rest) ?_ ?_
 ·by_cases hmm:mid<m
  ·rw[if_pos hmm] at hlow hhigh
   have e6:IntKind.wrap .i64 (((mid+m:Nat):Int)-(b:Int))=(low:Int):=by rw[wrap_i64 (by omega)];omega
   subst hhigh
   repeat(first|(refine st ?_;intros)|(refine cq hL ?_))
   exact Dn.meet () trivial
  ·rw[if_neg hmm] at hlow hhigh
   subst hlow hhigh
   repeat(first|(refine st ?_;intros)|(refine cq hL ?_))
   exact Dn.meet () trivial
 rintro⟨⟩-
 repeat(first|(refine st ?_;intros)|(refine cq hL ?_))
 refine G.loop (X:=Nat×Nat) (fun x=>low≤x.1∧x.1≤x.2∧x.2≤high∧(x.1=low∨ltO o (at_ ts (mid+m-x.1)) (at_ ts (x.1-1))=false)∧(x.2=high∨ltO o (at_ ts (mid+m-1-x.2)) (at_ ts x.2)=true))
  (fun x=>[(20,.int .i64 ((mid+m-1:Nat):Int)),(18,.int .i64 (x.1:Int)),(19,.int .i64 (x.2:Int)),(17,.int .i64 ((mid+m:Nat):Int)),(16,.int .i64 (mid:Int)),(0,runV bx),(1,.int .i64 (a:Int)),(2,.int .i64 (m:Int)),(3,.int .i64 (b:Int))])
  (fun _=>RunH bx g k o ts rest) (fun x=>x.2-x.1) (low,high) ⟨Nat.le_refl _,hlohi,Nat.le_refl _,.inl rfl,.inl rfl⟩ (body:= ?_)
 rintro⟨s,r⟩ ⟨hls,hsr,hrh,f1,f2⟩
 dsimp only at hls hsr hrh f1 f2⊢
 by_cases hlt:s<r
 ·have hsh2:=half_shr s r
  generalize hh:(s+r)/2=c at hsh2
  have hh1:s≤c∧c<r:=by omega
  have hpc:mid+m-1-c<b:=by split at hlow<;>omega
  have e6:IntKind.wrap .i64 ((s:Int)+(r:Int))=((s+r:Nat):Int):=by rw[←Int.natCast_add];exact wrap_i64 (by omega)
  have e7:IntKind.wrap .i64 (((mid+m-1:Nat):Int)-(c:Int))=((mid+m-1-c:Nat):Int):=by rw[wrap_i64 (by omega)];omega
  have hL:=less_of h bx o rest (mid+m-1-c) c (by omega) (by omega)
  cases hl:ltO o (at_ ts (mid+m-1-c)) (at_ ts c) with
  |true=>
   rw[hl] at hL
   repeat(first|(refine st ?_;intros)|(refine cq hL ?_))
   exact Dn.round (s,c) ⟨hls,by omega,by omega,f1,.inr hl⟩ (by dsimp only;omega)
  |false=>
   rw[hl] at hL
   repeat(first|(refine st ?_;intros)|(refine cq hL ?_))
   exact Dn.round (c+1,r) ⟨by omega,by omega,hrh,.inr (by dsimp only;rw[show mid+m-(c+1)=mid+m-1-c by omega];simpa using hl),f2⟩ (by dsimp only;omega)
 obtain rfl:s=r:=by omega
 obtain⟨e,he⟩:∃e,e=mid+m-s:=⟨_,rfl⟩
 have hfin:=fun (us:List T5) hr=>sym_facts hsw (l1:=us) ham hmb s1 s2 hmid.symm rfl he hlow hhigh hls hrh f1 f2 hr
 have hbd:a≤s∧s≤m∧m≤e∧e≤b∧s≤mid∧mid≤e∧mid-s=e-m:=by split at hlow<;>split at hhigh<;>omega
 clear f1 f2 hls hrh hlt hlow hhigh hlohi hhim
 obtain⟨b1,b2,b3,b4,b5,b6,b7⟩:=hbd
 have e6:IntKind.wrap .i64 (((mid+m:Nat):Int)-(s:Int))=(e:Int):=by rw[wrap_i64 (by omega)];omega
 repeat(first|(refine stn ?_;intros)|(refine cq hL ?_))
 apply G.seq
 repeat(first|(refine stn ?_;intros)|(refine cq hL ?_))
 apply G.seq
 repeat(first|(refine stn ?_;intros)|(refine cq hL ?_))
 apply G.seq
 repeat(first|(refine stn ?_;intros)|(refine cq hL ?_))
 refine G.cut (D':=[]) (X:=List T5) (fun us=>TsOk g k n us∧Srt o ts us a b∧∀q,at_ us q=rotF ts s m e q) (fun _=>[(22,.int .i64 (e:Int)),(18,.int .i64 (s:Int)),(16,.int .i64 (mid:Int)),(0,runV bx),(1,.int .i64 (a:Int)),(3,.int .i64 (b:Int))])
  (fun us=>RunH bx g k o us rest) ?_ ?_
 ·by_cases hr:s<m
  ·by_cases hr2:m<e
   ·have hR:=rotate_ct bx g k n o rest ts h s m e hr hr2 (by omega)
    repeat(first|(refine st ?_;intros)|(refine cq hL ?_))
    refine R.call (hct:=hR) (h:= ?_)
    rintro _ _ ⟨rfl,us,rfl,hok,hq⟩
    try dsimp only[List.cons_append,List.nil_append]
    repeat(first|(refine st ?_;intros)|(refine cq hL ?_))
    exact Dn.meet us ⟨hok,Srt.rot b2 b3 (by omega) (by rw[hok.len,hlen]) hq (hfin us hq).1 b1 b4,hq⟩
   ·repeat(first|(refine st ?_;intros)|(refine cq hL ?_))
    exact Dn.meet ts ⟨h,Srt.refl _ _ _ _,fun q=>(rot_id ts (.inr (by omega)) b2 b3 q).symm⟩
  ·repeat(first|(refine st ?_;intros)|(refine cq hL ?_))
   exact Dn.meet ts ⟨h,Srt.refl _ _ _ _,fun q=>(rot_id ts (.inl (by omega)) b2 b3 q).symm⟩
 rintro us ⟨hok,hsrt,hq⟩
 obtain⟨-,⟨q1,q2,q3,q4⟩,hx,-⟩:=hfin us hq
 clear hfin
 refine G.cut (D':=[]) (X:=List T5) (fun vs=>TsOk g k n vs∧Srt o us vs a mid∧Seg (ltO o) vs a mid) (fun _=>[(22,.int .i64 (e:Int)),(18,.int .i64 (s:Int)),(16,.int .i64 (mid:Int)),(0,runV bx),(1,.int .i64 (a:Int)),(3,.int .i64 (b:Int))])
  (fun vs=>RunH bx g k o vs rest) ?_ ?_
 ·by_cases hr:a<s
  ·by_cases hr2:s<mid
   ·have hR:=ih us hok a s mid (by omega) hr hr2 (by omega) q1 q2
    repeat(first|(refine st ?_;intros)|(refine cq hL ?_))
    refine R.call (hct:=hR) (h:= ?_)
    rintro _ _ ⟨rfl,vs,rfl,hok2,hs2,hg2⟩
    try dsimp only[List.cons_append,List.nil_append]
    repeat(first|(refine st ?_;intros)|(refine cq hL ?_))
    exact Dn.meet vs ⟨hok2,hs2,hg2⟩
   ·obtain rfl:s=mid:=by omega
    repeat(first|(refine st ?_;intros)|(refine cq hL ?_))
    exact Dn.meet us ⟨hok,Srt.refl _ _ _ _,q1⟩
  ·obtain rfl:a=s:=by omega
   repeat(first|(refine st ?_;intros)|(refine cq hL ?_))
   exact Dn.meet us ⟨hok,Srt.refl _ _ _ _,q2⟩
 rintro vs ⟨hok2,hs2,hg2⟩
 have q3':=q3.out hs2.2 (.inr (Nat.le_refl _))
 have q4':=q4.out hs2.2 (.inr (by omega))
 have hx2:=cross_keep hx hs2.2
 have hs3:=hsrt.trans (hs2.wide (Nat.le_refl _) (by omega))
 by_cases hr:mid<e
 ·by_cases hr2:e<b
  ·have hR:=ih vs hok2 mid e b (by omega) hr hr2 (by omega) q3' q4'
   repeat(first|(refine st ?_;intros)|(refine cq hL ?_))
   refine R.call (hct:=hR) (h:= ?_)
   rintro _ _ ⟨rfl,ws,rfl,hok4,hs4,hg4⟩
   try dsimp only[List.cons_append,List.nil_append]
   repeat(first|(refine st ?_;intros)|(refine cq hL ?_))
   (refine Dn.postEnd (Hr:=RunH bx g k o ws rest) Tryz.results159 (hR:= ?_);exact⟨rfl,ws,rfl,hok4,hs3.trans (hs4.wide (by omega) (Nat.le_refl _)),seg_join (hg2.out hs4.2 (.inl (Nat.le_refl _))) hg4 (cross_keepR hx2 hs4.2)⟩)
  ·obtain rfl:e=b:=by omega
   repeat(first|(refine st ?_;intros)|(refine cq hL ?_))
   (refine Dn.postEnd (Hr:=RunH bx g k o vs rest) Tryz.results159 (hR:= ?_);exact⟨rfl,vs,rfl,hok2,hs3,seg_join hg2 q3' hx2⟩)
 ·obtain rfl:mid=e:=by omega
  repeat(first|(refine st ?_;intros)|(refine cq hL ?_))
  (refine Dn.postEnd (Hr:=RunH bx g k o vs rest) Tryz.results159 (hR:= ?_);exact⟨rfl,vs,rfl,hok2,hs3,seg_join hg2 q4' hx2⟩)
end
section
variable (bx:Nat) (g:Gr) (k n:Nat) (o:T5) (rest:List Int)
theorem stable_ct (ts:List T5) (h:TsOk g k n ts):
  Ct Tryz.prog 153 [runV bx,.int .i64 (n:Int)] (RunH bx g k o ts rest) fun v H'=>
   v= .tuple #[]∧∃ts',H'=RunH bx g k o ts' rest∧TsOk g k n ts'∧Srt o ts ts' 0 n∧Seg (ltO o) ts' 0 n:=by
 have hnn:=h.n_le
 refine Ct.intro Tryz.func153 rfl Tryz.ntmps153 (nle rfl) fun w0=> ?_;dsimp only[argSlots,Nat.reduceAdd]
 repeat(refine st ?_;intros)
 refine G.loop (X:=Nat×List T5) (fun x=>x.1*20≤n∧TsOk g k n x.2∧Srt o ts x.2 0 n∧∀p,p<x.1→Seg (ltO o) x.2 (p*20) ((p+1)*20))
  (fun x=>[(6,.int .i64 ((x.1*20+20:Nat):Int)),(5,.int .i64 ((x.1*20:Nat):Int)),(4,.int .i64 20),(0,runV bx),(1,.int .i64 (n:Int))])
  (fun x=>RunH bx g k o x.2 rest) (fun x=>n+20-x.1*20) (0,ts) ⟨by dsimp only;omega,h,Srt.refl _ _ _ _,fun p hp=>by dsimp only at hp;omega⟩ (body:= ?_)
 rintro⟨c,us⟩ ⟨hc,hok,hs,hq⟩
 dsimp only at hc hok hs hq⊢
 generalize ha:c*20=a at hc⊢
 by_cases hb:a+20≤n
 ·have hI:=insSort_ct bx g k n o rest us hok a (a+20) (by omega) hb
  have e1:IntKind.wrap .i64 (((a+20:Nat):Int)+20)=(((c+1)*20+20:Nat):Int):=by rw[wrap_i64 (by omega)];omega
  repeat(refine st ?_;intros)
  refine R.call (hct:=hI) (h:= ?_)
  rintro _ _ ⟨rfl,vs,rfl,hok2,hs2,hg2⟩
  try dsimp only[List.cons_append,List.nil_append]
  repeat(refine st ?_;intros)
  have e2:a+20=(c+1)*20:=by omega
  refine Dn.round (c+1,vs) ⟨by dsimp only;omega,hok2,hs.trans (hs2.wide (by omega) hb),fun p hp=> ?_⟩ (by dsimp only;omega) ?_ (by repeat(first|exact Split.nil|(apply Split.cons;·(repeat(first|exact Take.here|apply Take.there|exact Take.nil)))))
  ·by_cases hpc:p=c
   ·subst hpc;rw[show(p+1)*20=a+20 by omega,ha];exact hg2
   ·exact(hq p (by dsimp only at hp;omega)).out hs2.2 (.inl (by dsimp only at hp;omega))
  ·rw[e2];exact(by repeat(first|exact trivial|refine⟨rfl,?_⟩))
 have hI:=insSort_ct bx g k n o rest us hok a n hc (Nat.le_refl _)
 repeat(refine st ?_;intros)
 refine R.call (hct:=hI) (h:= ?_)
 rintro _ _ ⟨rfl,vs,rfl,hok2,hs2,hg2⟩
 try dsimp only[List.cons_append,List.nil_append]
 have hB:=blk_first hq ha.symm (by omega) hs2.2 hg2
 have hs3:=hs.trans (hs2.wide (Nat.zero_le _) (Nat.le_refl _))
 clear hs2 hg2 hs hok hq hI
 repeat(refine st ?_;intros)
 refine G.loop (X:=Nat×List T5) (fun x=>0<x.1∧x.1≤2000000020∧TsOk g k n x.2∧Srt o ts x.2 0 n∧Blk (ltO o) x.2 x.1 n)
  (fun x=>[(4,.int .i64 (x.1:Int)),(0,runV bx),(1,.int .i64 (n:Int))])
  (fun x=>RunH bx g k o x.2 rest) (fun x=>n-x.1) (20,vs) ⟨by dsimp only;omega,by dsimp only;omega,hok2,hs3,hB⟩ (body:= ?_)
 clear hB hs3 hok2 vs us
 rintro⟨bs,us⟩ ⟨hb0,hb1,hok,hs,hB⟩
 dsimp only at hb0 hb1 hok hs hB⊢
 by_cases hbn:bs<n
 ·have e1:IntKind.wrap .i64 (2*(bs:Int))=((2*bs:Nat):Int):=by rw[wrap_i64 (by omega)];omega
  have e1':IntKind.wrap .i64 ((bs:Int)*2)=((2*bs:Nat):Int):=by rw[wrap_i64 (by omega)];omega
  repeat(refine st ?_;intros)
  refine G.loop (X:=Nat×List T5) (fun x=>x.1*(2*bs)≤n∧TsOk g k n x.2∧Srt o ts x.2 0 n∧Mid (ltO o) x.2 bs n x.1)
   (fun x=>[(6,.int .i64 ((x.1*(2*bs)+2*bs:Nat):Int)),(5,.int .i64 ((x.1*(2*bs):Nat):Int)),(4,.int .i64 (bs:Int)),(0,runV bx),(1,.int .i64 (n:Int))])
   (fun x=>RunH bx g k o x.2 rest) (fun x=>n+2*bs-x.1*(2*bs)) (0,us) ⟨by simp,hok,hs,mid_start hB⟩ (by simp only[Nat.zero_mul,Nat.zero_add];exact(by repeat(first|exact trivial|refine⟨rfl,?_⟩))) (by repeat(first|exact Split.nil|(apply Split.cons;·(repeat(first|exact Take.here|apply Take.there|exact Take.nil))))) ?_
  clear hok hs hB
  rintro⟨q,us⟩ ⟨hqn,hok,hs,hM⟩
  dsimp only at hqn hok hs hM⊢
  have hq1:(q+1)*(2*bs)=q*(2*bs)+2*bs:=Nat.succ_mul _ _
  generalize ha:q*(2*bs)=a at hqn hq1⊢
  have e2:IntKind.wrap .i64 ((a:Int)+(bs:Int))=((a+bs:Nat):Int):=by rw[←Int.natCast_add];exact wrap_i64 (by omega)
  by_cases hb:a+2*bs≤n
  ·obtain⟨g1,g2⟩:=mid_get hM ha.symm (by omega)
   rw[Nat.min_eq_left hb] at g2
   have hI:=symMerge_ct bx g k n o rest (2*bs) us hok a (a+bs) (a+2*bs) (by omega) (by omega) (by omega) hb g1 g2
   have e3:IntKind.wrap .i64 (((a+2*bs:Nat):Int)+((2*bs:Nat):Int))=(((q+1)*(2*bs)+2*bs:Nat):Int):=by rw[wrap_i64 (by omega)];omega
   repeat(refine st ?_;intros)
   refine R.call (hct:=hI) (h:= ?_)
   rintro _ _ ⟨rfl,vs,rfl,hok2,hs2,hg2⟩
   try dsimp only[List.cons_append,List.nil_append]
   repeat(refine st ?_;intros)
   refine Dn.round (q+1,vs) ⟨by dsimp only;omega,hok2,hs.trans (hs2.wide (by omega) hb),mid_step hM ha.symm rfl hs2.2 hg2⟩ (by dsimp only;omega) ?_ (by repeat(first|exact Split.nil|(apply Split.cons;·(repeat(first|exact Take.here|apply Take.there|exact Take.nil)))))
   rw[←hq1];exact(by repeat(first|exact trivial|refine⟨rfl,?_⟩))
  ·by_cases hm:a+bs<n
   ·obtain⟨g1,g2⟩:=mid_get hM ha.symm (by omega)
    have hI:=symMerge_ct bx g k n o rest n us hok a (a+bs) n (by omega) (by omega) (by omega) (Nat.le_refl _) g1 (g2.sub (Nat.le_refl _) (by omega))
    repeat(refine st ?_;intros)
    refine R.call (hct:=hI) (h:= ?_)
    rintro _ _ ⟨rfl,vs,rfl,hok2,hs2,hg2⟩
    try dsimp only[List.cons_append,List.nil_append]
    repeat(refine st ?_;intros)
    exact Dn.round (2*bs,vs) ⟨by dsimp only;omega,by dsimp only;omega,hok2,hs.trans (hs2.wide (by omega) (Nat.le_refl _)),mid_fin hM ha.symm (by omega) hs2.2 hg2⟩ (by dsimp only;omega)
   ·repeat(refine st ?_;intros)
    exact Dn.round (2*bs,us) ⟨by dsimp only;omega,by dsimp only;omega,hok,hs,mid_fin0 hM ha.symm (by omega) hb0⟩ (by dsimp only;omega)
 ·repeat(refine st ?_;intros)
  (refine Dn.postEnd (Hr:=RunH bx g k o us rest) Tryz.results153 (hR:= ?_);exact⟨rfl,us,rfl,hok,hs,blk_one hB (by omega)⟩)
theorem Stable_ct (ts:List T5) (h:TsOk g k n ts):
  Ct Tryz.prog 141 [runV bx] (RunH bx g k o ts rest) fun v H'=>
   v= .tuple #[]∧∃ts',H'=RunH bx g k o ts' rest∧TsOk g k n ts'∧Go.Srt.Sp (ltO o) false ts ts'∧Sd (ltO o) false ts':=by
 have hN:=RLen_ct bx g k o ts rest
 rw[h.len] at hN
 have hS:=stable_ct bx g k n o rest ts h
 refine Ct.intro Tryz.func141 rfl Tryz.ntmps141 (nle rfl) fun w0=> ?_;dsimp only[argSlots,Nat.reduceAdd]
 repeat(first|(refine st ?_;intros)|(refine cq hN ?_))
 refine R.call (hct:=hS) (h:= ?_)
 rintro _ _ ⟨rfl,vs,rfl,hok2,hs2,hg2⟩
 try dsimp only[List.cons_append,List.nil_append]
 repeat(first|(refine st ?_;intros)|(refine cq hN ?_))
 (refine Dn.postEnd (Hr:=RunH bx g k o vs rest) Tryz.results141 (hR:= ?_);exact⟨rfl,vs,rfl,hok2,hs2.1,seg_sd (by rw[hok2.len];exact hg2)⟩)
end
end Go.Proofs.YtjoicjgfgkpdjaaGreat
