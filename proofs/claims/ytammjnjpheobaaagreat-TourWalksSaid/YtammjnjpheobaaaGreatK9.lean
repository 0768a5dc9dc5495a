/-
  Parts of the proof, put together: Dev2, Arena, TupPlain, Tup, WorkPlain, Work. No condition.
-/
import Derived.Test.YtammjnjpheobaaaGreatK8
set_option linter.unusedVariables false
set_option linter.unusedSimpArgs false
set_option linter.unnecessarySimpa false
set_option maxHeartbeats 4000000
namespace Go.Proofs.YtammjnjpheobaaaGreat
open Go.SL
structure Db where
 key:Nat
 p:Option Addr
 cap:Nat
 ws:List Int
 born:Nat
 ch:Chunk
def Db.ent (size:Nat) (e:Db):Ent Int:=⟨(e.key:Int),.slice e.p size e.cap,e.born⟩
def Db.ok (size:Nat) (e:Db):Prop:=Vec 158 1 e.p size e.cap (wcells e.ws) e.ch
def dkOf:List Db→Nat→Option (List Int)
 |[],_=>none
 |e::es,i=>if e.key=i then some e.ws else dkOf es i
def dkSet (d:Nat→Option (List Int)) (i:Nat) (ws:List Int):Nat→Option (List Int):=fun j=>if j=i then some ws else d j
def chs (es:List Db):Chunk:=(es.map (·.ch)).flatten
theorem find_db (size i:Nat):∀(es:List Db) (j:Nat),findE (i:Int) (es.map (Db.ent size)) j=none∧dkOf es i=none∨
  ∃l1 e l2,es=l1++e::l2∧e.key=i∧dkOf es i=some e.ws∧findE (i:Int) (es.map (Db.ent size)) j=some (j+l1.length,.slice e.p size e.cap)∧∀x,(∀k,dkOf (l1++x::l2) k=if x.key=i∧k=i then some x.ws else if x.key=i then dkOf es k else dkOf (l1++x::l2) k)
 |[],_=> .inl ⟨rfl,rfl⟩
 |e::es,j=>by
  by_cases h:e.key=i
  ·refine .inr ⟨[],e,es,rfl,h,by simp[dkOf,h],?_,fun x k=> ?_⟩
   ·simp[findE,Db.ent,h]
   ·by_cases hx:x.key=i
    ·by_cases hk:k=i
     ·simp[dkOf,hx,hk]
     ·have:¬i=k:=fun e=>hk e.symm
      simp[dkOf,hx,hk,h,this]
    ·simp[hx]
  ·have hne:¬((i:Int)=(e.key:Int)):=by omega
   rcases find_db size i es (j+1) with⟨h1,h2⟩|⟨l1,e',l2,h1,h2,h3,h4,h5⟩
   ·refine .inl ⟨?_,?_⟩
    ·simp only[List.map_cons,findE]
     have hne':¬((i:Int)=(Db.ent size e).key):=hne
     rw[if_neg hne'];exact h1
    ·simp[dkOf,h,h2]
   ·refine .inr ⟨e::l1,e',l2,by rw[h1];rfl,h2,by simp only[dkOf,if_neg h,h3],?_,fun x k=> ?_⟩
    ·simp only[List.map_cons,findE]
     have hne':¬((i:Int)=(Db.ent size e).key):=hne
     rw[if_neg hne']
     simp only[List.length_cons]
     rw[h4,Nat.add_assoc,Nat.add_comm 1]
    ·have:=h5 x k
     simp only[List.cons_append,dkOf]
     by_cases hk:e.key=k
     ·have hki:¬k=i:=fun hh=>h (hk.trans hh)
      simp[hk,hki]
     ·simp only[if_neg hk]
      exact this
theorem set_db (size i:Nat) (p:Option Addr) (cap:Nat) (ws:List Int) (ch:Chunk) (ck:Nat) (es:List Db):∃es2 ck2 old born,
  setE (i:Int) (.slice p size cap) (es.map (Db.ent size)) ck=(es2.map (Db.ent size),ck2)∧(∀k,dkOf es2 k=dkSet (dkOf es) i ws k)∧
  (chs es++ch).Perm (chs es2++old)∧∀e∈es2,e∈es∨e=⟨i,p,cap,ws,born,ch⟩:=by
 rcases find_db size i es 0 with⟨h1,h2⟩|⟨l1,e,l2,rfl,h2,h3,h4,h5⟩
 ·refine⟨es++[⟨i,p,cap,ws,ck,ch⟩],ck+1,[],ck,?_,?_,?_,?_⟩
  ·simp[setE,h1,Db.ent]
  ·intro k
   have:∀(es:List Db),dkOf es i=none→dkOf (es++[⟨i,p,cap,ws,ck,ch⟩]) k=dkSet (dkOf es) i ws k:=by
    intro es
    induction es with
    |nil=>
     intro _
     by_cases hk:k=i
     ·simp[dkOf,dkSet,hk]
     ·have:¬i=k:=fun e=>hk e.symm
      simp[dkOf,dkSet,hk,this]
    |cons e es ih=>
     intro h
     simp only[dkOf] at h
     split at h
     ·cases h
     ·rename_i hn
      have:=ih h
      simp only[List.cons_append,dkOf,dkSet] at this⊢
      split
      ·rename_i hk
       rw[if_neg (fun hh=>hn (hk.trans hh))]
      ·exact this
   exact this es h2
  ·simp[chs]
  ·intro e he
   rcases List.mem_append.1 he with h|h
   ·exact .inl h
   ·exact .inr (by simpa using h)
 ·refine⟨l1++⟨i,p,cap,ws,e.born,ch⟩::l2,ck,e.ch,e.born,?_,?_,?_,?_⟩
  ·simp only[setE,h4,Nat.zero_add]
   refine Prod.ext ?_ rfl
   simp only[List.map_append,List.map_cons]
   have hm:∀(l1:List (Ent Int)) (x:Ent Int) (l2:List (Ent Int)) (f:Ent Int→Ent Int),(l1++x::l2).modify l1.length f=l1++f x::l2:=by
    intro l1 x l2 f
    induction l1 with
    |nil=>rfl
    |cons y l1 ih=>simp[ih]
   have:=hm (l1.map (Db.ent size)) (e.ent size) (l2.map (Db.ent size)) fun e=>{e with val:= .slice p size cap}
   rw[List.length_map] at this
   rw[this]
   simp[Db.ent,h2]
  ·intro k
   rw[h5 ⟨i,p,cap,ws,e.born,ch⟩ k]
   simp[dkSet]
  ·simp only[chs,List.map_append,List.map_cons,List.flatten_append,List.flatten_cons,List.append_assoc]
   refine List.Perm.append_left _ ?_
   refine List.perm_append_comm.trans ?_
   rw[←List.append_assoc]
   exact List.Perm.append_right _ List.perm_append_comm
  ·intro x hx
   rcases List.mem_append.1 hx with h|h
   ·exact .inl (List.mem_append_left _ h)
   ·rcases List.mem_cons.1 h with rfl|h
    ·exact .inr rfl
    ·exact .inl (List.mem_append_right _ (List.mem_cons_of_mem _ h))
structure Dv where
 size:Nat
 blocks:Nat
 disk:Nat→Option (List Int)
 fault:Int
 acts:Nat
def IsDev (bd:Nat) (δ:Dv) (c:Chunk):Prop:=
 ∃bl bn pp np cp xs pc es ck junk,c=(bd,row (dvCells δ.size δ.blocks bl bn pp np cp δ.fault δ.acts) 115)::(bn,mrow ikey (es.map (Db.ent δ.size)) ck)::(pc++(chs es++junk))∧
  Vec 222 2 pp np cp xs pc∧(∀e∈es,e.ok δ.size)∧(∀i,dkOf es i=δ.disk i)∧np≤δ.acts∧(8≤δ.size∧δ.size≤256)∧δ.blocks≤1000000∧(-1≤δ.fault∧δ.fault≤1000000000)
theorem Size_ct (bd:Nat) (δ:Dv) (c:Chunk) (h:IsDev bd δ c):CtQ Tryz.prog 80 [.pointer (some ⟨bd,0,none⟩)] [c] (.int .i64 (δ.size:Int)):=by
 obtain⟨bl,bn,pp,np,cp,xs,pc,es,ck,junk,rfl,_⟩:=h
 refine CtQ.conv (H2:=[[(bd,row (dvCells δ.size δ.blocks bl bn pp np cp δ.fault δ.acts) 115)],(bn,mrow ikey (es.map (Db.ent δ.size)) ck)::(pc++(chs es++junk))]) ?_ rfl
 unfold dvCells
 refine Ct.intro Tryz.func80 rfl Tryz.ntmps80 (nle rfl) fun w0=> ?_;dsimp only[argSlots,Nat.reduceAdd]
 repeat(refine st ?_;intros)
 (refine Dn.post (Hr:=[[(bd,row [.int .i64 (δ.size:Int),.int .i64 (δ.blocks:Int),.map (some bl),.map (some bn),.slice pp np cp,.int .i64 (-1),.int .i64 δ.fault,.bool false,.int .i64 (δ.acts:Int)] 115)],(bn,mrow ikey (es.map (Db.ent δ.size)) ck)::(pc++(chs es++junk))]) Tryz.results80 (hR:= ?_);exact⟨rfl,rfl⟩)
def Dv.acted (δ:Dv):Dv:={δ with fault:=less δ.fault,acts:=δ.acts+1}
def Dv.failed (δ:Dv):Dv:={δ with fault:= -1}
def Dv.wrote (δ:Dv) (i:Nat) (ws:List Int):Dv:={δ with fault:=less δ.fault,acts:=δ.acts+1,disk:=dkSet δ.disk i ws}
theorem less_range {f:Int} (h: -1≤f∧f≤1000000000): -1≤less f∧less f≤1000000000:=by unfold less;split<;>omega
theorem Write_ok (bd:Nat) (δ:Dv) (c:Chunk) (h:IsDev bd δ c) (i:Nat) (hi:i<δ.blocks) (hf:δ.fault≠0) (ha:δ.acts≤1000000000000) (b off cap:Nat) (cs:List Value) (E:Nat) (fz:Nat×Nat) (ws:List Int)
  (hws:(cs.drop off).take δ.size=wcells ws) (hl:ws.length=δ.size):
  Ct Tryz.prog 157 [.pointer (some ⟨bd,0,none⟩),.int .i64 (i:Int),.slice (some ⟨b,off,none⟩) δ.size cap] [c,[(b,rowf cs E fz)]] fun v H'=>
   ∃c',v= .int .i64 0∧IsDev bd (δ.wrote i ws) c'∧H'=[c',[(b,rowf cs E fz)]]:=by
 obtain⟨bl,bn,pp,np,cp,xs,pc,es,ck,junk,rfl,hV,hes,hdk,hnp,hsz,hbk,hfr⟩:=h
 have hD:=Down_cells bd δ.size δ.blocks bl bn pp np cp δ.fault δ.acts
 have hA:=act_ok bd δ.size δ.blocks bl bn pp np cp δ.fault δ.acts hf hfr ha
 have hC:=CloneW_ct b off δ.size cap cs E fz ws (by omega) (by omega) hws hl
 unfold dvCells at hD hA
 refine Ct.conv (H2:=[[(bd,row (dvCells δ.size δ.blocks bl bn pp np cp δ.fault δ.acts) 115)],[(bn,mrow ikey (es.map (Db.ent δ.size)) ck)],pc,chs es++junk,[(b,rowf cs E fz)]])
  (R2:=fun v H'=>v= .int .i64 0∧∃p cap' c' es2 ck2 p' cp' pc',H'=[[(bd,row (dvCells δ.size δ.blocks bl bn p' (np+1) cp' (less δ.fault) (δ.acts+1)) 115)],[(bn,mrow ikey (es2.map (Db.ent δ.size)) ck2)],pc',chs es++junk,c',[(b,rowf cs E fz)]]∧
   Vec 158 1 p δ.size cap' (wcells ws) c'∧setE (i:Int) (.slice p δ.size cap') (es.map (Db.ent δ.size)) ck=(es2.map (Db.ent δ.size),ck2)∧(∀k,dkOf es2 k=dkSet (dkOf es) i ws k)∧(∃xs',Vec 222 2 p' (np+1) cp' xs' pc')∧
   (∃old born,(chs es++c').Perm (chs es2++old)∧∀e∈es2,e∈es∨e=⟨i,p,cap',ws,born,c'⟩)) ?_ (by simp) ?_
 ·unfold dvCells
  refine Ct.intro Tryz.func157 rfl Tryz.ntmps157 (nle rfl) fun w0=> ?_;dsimp only[argSlots,Nat.reduceAdd]
  repeat(first|(refine st ?_;intros)|(refine cq hD ?_)|(refine cq hC ?_)|(refine cq hA ?_))
  refine R.call (hct:=hA) (h:= ?_)
  rintro _ _ ⟨rfl,rfl⟩
  try dsimp only[List.cons_append,List.nil_append]
  repeat(first|(refine st ?_;intros)|(refine cq hD ?_)|(refine cq hC ?_)|(refine cq hA ?_))
  refine R.call (hct:=hC) (h:= ?_)
  rintro _ _ ⟨p,cap',c',rfl,hV1,rfl⟩
  try dsimp only[List.cons_append,List.nil_append]
  repeat(first|(refine st ?_;intros)|(refine cq hD ?_)|(refine cq hC ?_)|(refine cq hA ?_))
  obtain⟨es2,ck2,old,born,hset,hdk2,hperm,hmem⟩:=set_db δ.size i p cap' ws c' ck es
  apply R.mapUpdate (K:=Int) (mk:=ikey) (es:=es.map (Db.ent δ.size)) (ck:=ck) (key:=(i:Int)) (es':=es2.map (Db.ent δ.size)) (ck':=ck2)
  ·exact rfl
  ·repeat(first|exact Has.here|apply Has.there)
  ·exact rfl
  ·exact rfl
  ·exact KeyAsk.int rfl
  ·exact hset
  ·repeat(first|exact Upd.here|apply Upd.there)
  ·exact rfl
  repeat(first|(refine st ?_;intros)|(refine cq hD ?_)|(refine cq hC ?_)|(refine cq hA ?_))
  rename_i p' cp' pc' hV2
  (refine Dn.post (Hr:=[[(bd,row [.int .i64 (δ.size:Int),.int .i64 (δ.blocks:Int),.map (some bl),.map (some bn),.slice p' (np+1) cp',.int .i64 (-1),.int .i64 (less δ.fault),.bool false,.int .i64 ((δ.acts+1:Nat):Int)] 115)],[(bn,mrow ikey (es2.map (Db.ent δ.size)) ck2)],pc',chs es++junk,c',[(b,rowf cs E fz)]]) Tryz.results157 (hR:= ?_);
   exact⟨rfl,p,cap',c',es2,ck2,p',cp',pc',rfl,hV1,hset,hdk2,⟨_,hV2⟩,old,born,hperm,hmem⟩)
 ·rintro v H' ⟨rfl,p,cap',c',es2,ck2,p',cp',pc',rfl,hV1,hset,hdk2,⟨xs',hV2⟩,old,born,hperm,hmem⟩
  refine⟨_,⟨_,rfl,⟨bl,bn,p',np+1,cp',xs',pc',es2,ck2,old++junk,rfl,hV2,?_,?_,?_,hsz,hbk,less_range hfr⟩,rfl⟩,?_⟩
  ·intro e he
   rcases hmem e he with h|rfl
   ·exact hes e h
   ·exact hV1
  ·intro k
   rw[hdk2]
   simp only[Dv.wrote,dkSet,hdk]
  ·simp only[Dv.wrote];omega
  ·simp only[List.flatten_cons,List.flatten_nil,List.append_nil,List.cons_append,List.nil_append]
   refine List.Perm.cons _ (List.Perm.cons _ ?_)
   simp only[List.append_assoc]
   refine List.Perm.append_left _ ?_
   rw[←List.append_assoc,←List.append_assoc,←List.append_assoc,←List.append_assoc]
   refine List.Perm.append_right _ ?_
   refine List.Perm.trans ?_ (hperm.append_right junk)
   simp only[List.append_assoc]
   exact List.Perm.append_left _ List.perm_append_comm
theorem Write_fault (bd:Nat) (δ:Dv) (c:Chunk) (h:IsDev bd δ c) (i:Nat) (hi:i<δ.blocks) (hf:δ.fault=0) (b off cap:Nat) (cs:List Value) (E:Nat) (fz:Nat×Nat):
  Ct Tryz.prog 157 [.pointer (some ⟨bd,0,none⟩),.int .i64 (i:Int),.slice (some ⟨b,off,none⟩) δ.size cap] [c,[(b,rowf cs E fz)]] fun v H'=>
   ∃c',v= .int .i64 6∧IsDev bd δ.failed c'∧H'=[c',[(b,rowf cs E fz)]]:=by
 obtain⟨bl,bn,pp,np,cp,xs,pc,es,ck,junk,rfl,hV,hes,hdk,hnp,hsz,hbk,hfr⟩:=h
 have hD:=Down_cells bd δ.size δ.blocks bl bn pp np cp δ.fault δ.acts
 have hA:=act_fault bd δ.size δ.blocks bl bn pp np cp δ.acts
 rw[←hf] at hA
 unfold dvCells at hD hA
 refine Ct.conv (H2:=[[(bd,row (dvCells δ.size δ.blocks bl bn pp np cp δ.fault δ.acts) 115)],[(bn,mrow ikey (es.map (Db.ent δ.size)) ck)],pc,chs es++junk,[(b,rowf cs E fz)]])
  (R2:=fun v H'=>v= .int .i64 6∧H'=[[(bd,row (dvCells δ.size δ.blocks bl bn pp np cp (-1) δ.acts) 115)],[(bn,mrow ikey (es.map (Db.ent δ.size)) ck)],pc,chs es++junk,[(b,rowf cs E fz)]]) ?_ (by simp) ?_
 ·unfold dvCells
  refine Ct.intro Tryz.func157 rfl Tryz.ntmps157 (nle rfl) fun w0=> ?_;dsimp only[argSlots,Nat.reduceAdd]
  repeat(first|(refine st ?_;intros)|(refine cq hD ?_)|(refine cq hA ?_))
  refine R.call (hct:=hA) (h:= ?_)
  rintro _ _ ⟨rfl,rfl⟩
  try dsimp only[List.cons_append,List.nil_append]
  repeat(first|(refine st ?_;intros)|(refine cq hD ?_)|(refine cq hA ?_))
  (refine Dn.post (Hr:=[[(bd,row [.int .i64 (δ.size:Int),.int .i64 (δ.blocks:Int),.map (some bl),.map (some bn),.slice pp np cp,.int .i64 (-1),.int .i64 (-1),.bool false,.int .i64 (δ.acts:Int)] 115)],[(bn,mrow ikey (es.map (Db.ent δ.size)) ck)],pc,chs es++junk,[(b,rowf cs E fz)]]) Tryz.results157 (hR:= ?_);exact⟨rfl,rfl⟩)
 ·rintro v H' ⟨rfl,rfl⟩
  exact⟨_,⟨_,rfl,⟨bl,bn,pp,np,cp,xs,pc,es,ck,junk,rfl,hV,hes,hdk,hnp,hsz,hbk,(by decide:(-1:Int)≤-1∧(-1:Int)≤1000000000)⟩,rfl⟩,by simp[Dv.failed]⟩
theorem Read_fault (bd:Nat) (δ:Dv) (c:Chunk) (h:IsDev bd δ c) (i:Nat) (hi:i<δ.blocks) (hf:δ.fault=0):
  Ct Tryz.prog 143 [.pointer (some ⟨bd,0,none⟩),.int .i64 (i:Int)] [c] fun v H'=>
   ∃c',v= .tuple #[.slice none 0 0,.int .i64 6]∧IsDev bd δ.failed c'∧H'=[c']:=by
 obtain⟨bl,bn,pp,np,cp,xs,pc,es,ck,junk,rfl,hV,hes,hdk,hnp,hsz,hbk,hfr⟩:=h
 have hD:=Down_cells bd δ.size δ.blocks bl bn pp np cp δ.fault δ.acts
 have hA:=act_fault bd δ.size δ.blocks bl bn pp np cp δ.acts
 rw[←hf] at hA
 unfold dvCells at hD hA
 refine Ct.conv (H2:=[[(bd,row (dvCells δ.size δ.blocks bl bn pp np cp δ.fault δ.acts) 115)],[(bn,mrow ikey (es.map (Db.ent δ.size)) ck)],pc,chs es++junk])
  (R2:=fun v H'=>v= .tuple #[.slice none 0 0,.int .i64 6]∧H'=[[(bd,row (dvCells δ.size δ.blocks bl bn pp np cp (-1) δ.acts) 115)],[(bn,mrow ikey (es.map (Db.ent δ.size)) ck)],pc,chs es++junk]) ?_ (by simp) ?_
 ·unfold dvCells
  refine Ct.intro Tryz.func143 rfl Tryz.ntmps143 (nle rfl) fun w0=> ?_;dsimp only[argSlots,Nat.reduceAdd]
  repeat(first|(refine st ?_;intros)|(refine cq hD ?_)|(refine cq hA ?_))
  refine R.call (hct:=hA) (h:= ?_)
  rintro _ _ ⟨rfl,rfl⟩
  try dsimp only[List.cons_append,List.nil_append]
  repeat(first|(refine st ?_;intros)|(refine cq hD ?_)|(refine cq hA ?_))
  (refine Dn.post (Hr:=[[(bd,row [.int .i64 (δ.size:Int),.int .i64 (δ.blocks:Int),.map (some bl),.map (some bn),.slice pp np cp,.int .i64 (-1),.int .i64 (-1),.bool false,.int .i64 (δ.acts:Int)] 115)],[(bn,mrow ikey (es.map (Db.ent δ.size)) ck)],pc,chs es++junk]) Tryz.results143 (hR:= ?_);exact⟨rfl,rfl⟩)
 ·rintro v H' ⟨rfl,rfl⟩
  exact⟨_,⟨_,rfl,⟨bl,bn,pp,np,cp,xs,pc,es,ck,junk,rfl,hV,hes,hdk,hnp,hsz,hbk,(by decide:(-1:Int)≤-1∧(-1:Int)≤1000000000)⟩,rfl⟩,by simp[Dv.failed]⟩
theorem Read_ok (bd:Nat) (δ:Dv) (c:Chunk) (h:IsDev bd δ c) (i:Nat) (hi:i<δ.blocks) (hf:δ.fault≠0) (ha:δ.acts≤1000000000000) (ws:List Int) (hd:δ.disk i=some ws):
  Ct Tryz.prog 143 [.pointer (some ⟨bd,0,none⟩),.int .i64 (i:Int)] [c] fun v H'=>
   ∃c' p cap' c2,v= .tuple #[.slice p δ.size cap',.int .i64 0]∧Vec 158 1 p δ.size cap' (wcells ws) c2∧IsDev bd δ.acted c'∧H'=[c',c2]:=by
 obtain⟨bl,bn,pp,np,cp,xs,pc,es,ck,junk,rfl,hV,hes,hdk,hnp,hsz,hbk,hfr⟩:=h
 have hD:=Down_cells bd δ.size δ.blocks bl bn pp np cp δ.fault δ.acts
 have hA:=act_ok bd δ.size δ.blocks bl bn pp np cp δ.fault δ.acts hf hfr ha
 unfold dvCells at hD hA
 rcases find_db δ.size i es 0 with⟨h1,h2⟩|⟨l1,e,l2,he,h2,h3,h4,_⟩
 ·rw[hdk,hd] at h2;cases h2
 have hok:=hes e (by rw[he];simp)
 have hews:e.ws=ws:=by rw[hdk,hd] at h3;simpa using h3.symm
 obtain⟨hlen,hok2⟩:=hok
 rcases hok2 with⟨_,hz,_⟩|⟨be,rest,hp,hch,hcap,hmc,hcm⟩
 ·omega
 rw[hews] at hlen
 have hlen':ws.length=δ.size:=by simpa using hlen
 have hC:=CloneW_ct be 0 δ.size e.cap (wcells ws++rest) 158 (0,0) ws (by omega) (by omega) (by rw[List.drop_zero,List.take_append_of_le_length (by simp;omega),List.take_of_length_le (by simp;omega)]) hlen'
 have hchs:chs es=chs l1++([(be,row (wcells ws++rest) 158)]++chs l2):=by
  rw[he];simp[chs,hch,hews]
 rw[hp] at h4
 refine Ct.conv (H2:=[[(bd,row (dvCells δ.size δ.blocks bl bn pp np cp δ.fault δ.acts) 115)],[(bn,mrow ikey (es.map (Db.ent δ.size)) ck)],pc,chs l1,[(be,row (wcells ws++rest) 158)],chs l2,junk])
  (R2:=fun v H'=>∃p cap' c2,v= .tuple #[.slice p δ.size cap',.int .i64 0]∧Vec 158 1 p δ.size cap' (wcells ws) c2∧H'=[[(bd,row (dvCells δ.size δ.blocks bl bn pp np cp (less δ.fault) (δ.acts+1)) 115)],[(bn,mrow ikey (es.map (Db.ent δ.size)) ck)],pc,chs l1,[(be,row (wcells ws++rest) 158)],chs l2,junk,c2]) ?_ (by simp[hchs]) ?_
 ·unfold dvCells
  refine Ct.intro Tryz.func143 rfl Tryz.ntmps143 (nle rfl) fun w0=> ?_;dsimp only[argSlots,Nat.reduceAdd]
  repeat(first|(refine st ?_;intros)|(refine cq hD ?_)|(refine cq hA ?_))
  refine R.call (hct:=hA) (h:= ?_)
  rintro _ _ ⟨rfl,rfl⟩
  try dsimp only[List.cons_append,List.nil_append]
  repeat(first|(refine st ?_;intros)|(refine cq hD ?_)|(refine cq hA ?_))
  apply R.lookupT (K:=Int) (mk:=ikey) (key:=(i:Int))
  ·exact rfl
  ·repeat(first|exact Has.here|apply Has.there)
  ·exact rfl
  ·exact KeyAsk.int rfl
  ·exact h4
  ·exact rfl
  ·exact nle rfl
  repeat(first|(refine st ?_;intros)|(refine cq hD ?_)|(refine cq hA ?_))
  refine R.call (hct:=hC) (h:= ?_)
  rintro _ _ ⟨p,cap',c',rfl,hV1,rfl⟩
  try dsimp only[List.cons_append,List.nil_append]
  repeat(first|(refine st ?_;intros)|(refine cq hD ?_)|(refine cq hA ?_))
  (refine Dn.post (Hr:=[[(bd,row [.int .i64 (δ.size:Int),.int .i64 (δ.blocks:Int),.map (some bl),.map (some bn),.slice pp np cp,.int .i64 (-1),.int .i64 (less δ.fault),.bool false,.int .i64 ((δ.acts+1:Nat):Int)] 115)],[(bn,mrow ikey (es.map (Db.ent δ.size)) ck)],pc,chs l1,[(be,row (wcells ws++rest) 158)],chs l2,junk,c']) Tryz.results143 (hR:= ?_);
   exact⟨p,cap',c',rfl,hV1,rfl⟩)
 ·rintro v H' ⟨p,cap',c2,rfl,hV1,rfl⟩
  refine⟨_,⟨_,p,cap',c2,rfl,hV1,⟨bl,bn,pp,np,cp,xs,pc,es,ck,junk,rfl,hV,hes,hdk,by simp only[Dv.acted];omega,hsz,hbk,less_range hfr⟩,rfl⟩,?_⟩
  simp[Dv.acted,hchs]
structure Gr where
 bb:Nat
 br:Nat
 n:Nat
 born:Nat
def Gr.ent (g:Gr):Ent Nat:=⟨g.bb,.int .i64 (g.n:Int),g.born⟩
def Gr.obj (g:Gr):Nat×Obj:=(g.bb,row [.slice (some ⟨g.br,0,none⟩) g.n g.n] 161)
structure Ar where
 room:Nat
 used:Nat
 peak:Nat
 gs:List Gr
def arCells (α:Ar) (bm:Nat):List Value:=[.int .i64 (α.room:Int),.int .i64 (α.used:Int),.int .i64 (α.peak:Int),.map (some bm)]
def IsArena (ba:Nat) (α:Ar) (c:Chunk):Prop:=
 ∃bm ck,c=(ba,row (arCells α bm) 104)::(bm,mrow pkey (α.gs.map Gr.ent) ck)::α.gs.map Gr.obj∧α.used≤α.room∧α.room≤1000000000∧α.peak≤α.room∧α.used≤α.peak∧α.used=(α.gs.map (·.n)).sum
theorem Room_ct (ba:Nat) (α:Ar) (c:Chunk) (h:IsArena ba α c):CtQ Tryz.prog 60 [.pointer (some ⟨ba,0,none⟩)] [c] (.int .i64 (α.room:Int)):=by
 obtain⟨bm,ck,rfl,_⟩:=h
 refine CtQ.conv (H2:=[[(ba,row (arCells α bm) 104)],(bm,mrow pkey (α.gs.map Gr.ent) ck)::α.gs.map Gr.obj]) ?_ rfl
 unfold arCells
 refine Ct.intro Tryz.func60 rfl Tryz.ntmps60 (nle rfl) fun w0=> ?_;dsimp only[argSlots,Nat.reduceAdd]
 repeat(refine st ?_;intros)
 (refine Dn.post (Hr:=[[(ba,row [.int .i64 (α.room:Int),.int .i64 (α.used:Int),.int .i64 (α.peak:Int),.map (some bm)] 104)],(bm,mrow pkey (α.gs.map Gr.ent) ck)::α.gs.map Gr.obj]) Tryz.results60 (hR:= ?_);exact⟨rfl,rfl⟩)
theorem Used_ct (ba:Nat) (α:Ar) (c:Chunk) (h:IsArena ba α c):CtQ Tryz.prog 17 [.pointer (some ⟨ba,0,none⟩)] [c] (.int .i64 (α.used:Int)):=by
 obtain⟨bm,ck,rfl,_⟩:=h
 refine CtQ.conv (H2:=[[(ba,row (arCells α bm) 104)],(bm,mrow pkey (α.gs.map Gr.ent) ck)::α.gs.map Gr.obj]) ?_ rfl
 unfold arCells
 refine Ct.intro Tryz.func17 rfl Tryz.ntmps17 (nle rfl) fun w0=> ?_;dsimp only[argSlots,Nat.reduceAdd]
 repeat(refine st ?_;intros)
 (refine Dn.post (Hr:=[[(ba,row [.int .i64 (α.room:Int),.int .i64 (α.used:Int),.int .i64 (α.peak:Int),.map (some bm)] 104)],(bm,mrow pkey (α.gs.map Gr.ent) ck)::α.gs.map Gr.obj]) Tryz.results17 (hR:= ?_);exact⟨rfl,rfl⟩)
theorem Left_ct (ba:Nat) (α:Ar) (c:Chunk) (h:IsArena ba α c):CtQ Tryz.prog 79 [.pointer (some ⟨ba,0,none⟩)] [c] (.int .i64 ((α.room:Int)-(α.used:Int))):=by
 have hR:=Room_ct ba α c h
 have hU:=Used_ct ba α c h
 obtain⟨bm,ck,_,h1,h2,_⟩:=h
 refine Ct.intro Tryz.func79 rfl Tryz.ntmps79 (nle rfl) fun w0=> ?_;dsimp only[argSlots,Nat.reduceAdd]
 repeat(first|(refine st ?_;intros)|(refine cq hR ?_)|(refine cq hU ?_))
 (refine Dn.post (Hr:=[c]) Tryz.results79 (hR:= ?_);exact⟨rfl,rfl⟩)
theorem Grant_full (ba:Nat) (α:Ar) (c:Chunk) (h:IsArena ba α c) (n:Int) (hn:0≤n) (hr:(α.room:Int)-(α.used:Int)<n):CtQ Tryz.prog 99 [.pointer (some ⟨ba,0,none⟩),.int .i64 n] [c] (.tuple #[.pointer none,.int .i64 7]):=by
 obtain⟨bm,ck,rfl,h1,h2,h3,h4,h5⟩:=h
 refine CtQ.conv (H2:=[[(ba,row (arCells α bm) 104)],(bm,mrow pkey (α.gs.map Gr.ent) ck)::α.gs.map Gr.obj]) ?_ rfl
 unfold arCells
 refine Ct.intro Tryz.func99 rfl Tryz.ntmps99 (nle rfl) fun w0=> ?_;dsimp only[argSlots,Nat.reduceAdd]
 repeat(first|(refine st ?_;intros)|refine G.draw [] (h:= ?_))
 (refine Dn.post (Hr:=[[(ba,row [.int .i64 (α.room:Int),.int .i64 (α.used:Int),.int .i64 (α.peak:Int),.map (some bm)] 104)],(bm,mrow pkey (α.gs.map Gr.ent) ck)::α.gs.map Gr.obj]) Tryz.results99 (hR:= ?_);exact⟨rfl,rfl⟩)
def Ar.grant (α:Ar) (g:Gr):Ar:={room:=α.room,used:=α.used+g.n,peak:=max α.peak (α.used+g.n),gs:=α.gs++[g]}
theorem findE_none {k:Nat}:∀(es:List (Ent Nat)) (i:Nat),(∀e∈es,e.key≠k)→findE k es i=none
 |[],_,_=>rfl
 |e::es,i,h=>by
  unfold findE
  rw[if_neg (fun he=>h e List.mem_cons_self he.symm)]
  exact findE_none es (i+1) fun e he=>h e (List.mem_cons_of_mem _ he)
theorem Grant_ct (ba:Nat) (α:Ar) (c:Chunk) (h:IsArena ba α c) (n:Nat) (hn:n≤α.room-α.used):Ct Tryz.prog 99 [.pointer (some ⟨ba,0,none⟩),.int .i64 (n:Int)] [c] fun v H'=>
  ∃g:Gr,∃c',g.n=n∧v= .tuple #[.pointer (some ⟨g.bb,0,none⟩),.int .i64 0]∧IsArena ba (α.grant g) c'∧H'=[c',[(g.br,row (zrep n [.int .u64 0]) 158)]]:=by
 obtain⟨bm,ck,rfl,h1,h2,h3,h4,h5⟩:=h
 refine Ct.conv (H2:=[[(ba,row (arCells α bm) 104)],[(bm,mrow pkey (α.gs.map Gr.ent) ck)],α.gs.map Gr.obj]) (R2:=fun v H'=>∃bb br:Nat,v= .tuple #[.pointer (some ⟨bb,0,none⟩),.int .i64 0]∧
  H'=[[(ba,row (arCells (α.grant ⟨bb,br,n,ck⟩) bm) 104)],[(bm,mrow pkey (α.gs.map Gr.ent++[⟨bb,.int .i64 (n:Int),ck⟩]) (ck+1))],α.gs.map Gr.obj,[(bb,row [.slice (some ⟨br,0,none⟩) n n] 161)],[(br,row (zrep n [.int .u64 0]) 158)]]) ?_ (by simp) ?_
 ·unfold arCells
  refine Ct.intro Tryz.func99 rfl Tryz.ntmps99 (nle rfl) fun w0=> ?_;dsimp only[argSlots,Nat.reduceAdd]
  repeat(first|(refine st ?_;intros)|refine G.draw [] (h:= ?_))
  rename_i br bb
  apply R1.nodup
  ·exact rfl
  intro hnd
  have hfresh:∀e∈α.gs.map Gr.ent,e.key≠bb:=by
   intro e he
   obtain⟨g,hg,rfl⟩:=List.mem_map.1 he
   simp only[keys,List.flatten_cons,List.flatten_nil,List.append_nil,List.cons_append,List.nil_append,List.map_cons,List.nodup_cons,List.mem_cons,List.mem_map,not_or] at hnd
   intro heq
   exact hnd.1.2.2.2 ⟨Gr.obj g,⟨g,hg,rfl⟩,heq⟩
  apply R.mapUpdate (K:=Nat) (mk:=pkey) (es:=α.gs.map Gr.ent) (ck:=ck) (key:=bb) (es':=α.gs.map Gr.ent++[⟨bb,.int .i64 (n:Int),ck⟩]) (ck':=ck+1)
  ·exact rfl
  ·repeat(first|exact Has.here|apply Has.there)
  ·exact rfl
  ·exact rfl
  ·refine KeyAsk.ptr ⟨_,_,Has.here⟩ fun e he=> ?_
   obtain⟨g,hg,rfl⟩:=List.mem_map.1 he
   refine⟨[.slice (some ⟨g.br,0,none⟩) g.n g.n],161,?_⟩
   apply Has.there;apply Has.there;apply Has.there;apply Has.there
   exact Has.in_ (List.mem_map.2 ⟨g,hg,rfl⟩)
  ·unfold setE
   rw[findE_none _ 0 hfresh]
  ·repeat(first|exact Upd.here|apply Upd.there)
  ·exact rfl
  repeat(first|(refine st ?_;intros)|refine G.draw [] (h:= ?_))
  (refine Dn.post (Hr:=[[(ba,row [.int .i64 (α.room:Int),.int .i64 ((α.used:Int)+(n:Int)),.int .i64 (max (α.peak:Int) ((α.used:Int)+(n:Int))),.map (some bm)] 104)],[(bm,mrow pkey (α.gs.map Gr.ent++[⟨bb,.int .i64 (n:Int),ck⟩]) (ck+1))],α.gs.map Gr.obj,[(bb,row [.slice (some ⟨br,0,none⟩) n n] 161)],[(br,row (zrep n [.int .u64 0]) 158)]]) Tryz.results99 (hR:= ?_);refine⟨bb,br,rfl,?_⟩)
  have e1:((α.grant ⟨bb,br,n,ck⟩).used:Int)=(α.used:Int)+(n:Int):=by simp[Ar.grant]
  have e2:((α.grant ⟨bb,br,n,ck⟩).peak:Int)=max (α.peak:Int) ((α.used:Int)+(n:Int)):=by simp only[Ar.grant];omega
  rw[e1,e2]
  rfl
 ·rintro v H' ⟨bb,br,rfl,rfl⟩
  refine⟨_,⟨⟨bb,br,n,ck⟩,_,rfl,rfl,⟨bm,ck+1,rfl,?_,?_,?_,?_,?_⟩,rfl⟩,?_⟩
  ·simp only[Ar.grant];omega
  ·simp only[Ar.grant];omega
  ·simp only[Ar.grant];omega
  ·simp only[Ar.grant];omega
  ·simp only[Ar.grant,List.map_append,List.sum_append];simp[h5]
  ·simp[Ar.grant,Gr.ent,Gr.obj]
theorem findE_mid {k:Nat} {g:Ent Nat} (hk:g.key=k):∀(es:List (Ent Nat)) (r:List (Ent Nat)) (i:Nat),(∀e∈es,e.key≠k)→findE k (es++g::r) i=some (i+es.length,g.val)
 |[],r,i,_=>by simp[findE,hk]
 |e::es,r,i,h=>by
  rw[List.cons_append,findE,if_neg (fun he=>h e List.mem_cons_self he.symm),findE_mid hk es r (i+1) fun e he=>h e (List.mem_cons_of_mem _ he)]
  simp;omega
def Ar.release (α:Ar) (g:Gr) (gs:List Gr):Ar:={room:=α.room,used:=α.used-g.n,peak:=α.peak,gs:=gs}
theorem Release_cb (ba:Nat) (α:Ar) (c:Chunk) (h:IsArena ba α c) (l1 l2:List Gr) (g:Gr) (hg:α.gs=l1++g::l2):Cb Tryz.prog 100 [.pointer (some ⟨ba,0,none⟩),.pointer (some ⟨g.bb,0,none⟩)] [c] fun v H'=>
  ∃c',v= .bool true∧IsArena ba (α.release g (l1++l2)) c'∧H'=[c']:=by
 obtain⟨bm,ck,rfl,h1,h2,h3,h4,h5⟩:=h
 rw[hg] at h5
 simp only[List.map_append,List.map_cons,List.sum_append,List.sum_cons] at h5
 refine Cb.conv (H2:=[[(ba,row (arCells α bm) 104)],[(bm,mrow pkey (l1.map Gr.ent++g.ent::l2.map Gr.ent) ck)],l1.map Gr.obj,[g.obj],l2.map Gr.obj]) (R2:=fun v H'=>v= .bool true∧
  H'=[[(ba,row (arCells (α.release g (l1++l2)) bm) 104)],[(bm,mrow pkey (l1.map Gr.ent++l2.map Gr.ent) ck)],l1.map Gr.obj,l2.map Gr.obj]) ?_ (List.Perm.of_eq (by simp[hg])) ?_
 ·unfold arCells
  obtain⟨bb,br,n,born⟩:=g
  dsimp only at h5
  simp only[Gr.ent,Gr.obj]
  refine Cb.intro Tryz.func100 rfl Tryz.ntmps100 (nle rfl) fun w0=> ?_;dsimp only[argSlots,Nat.reduceAdd]
  repeat(refine st ?_;intros)
  have ask:(keys [[(ba,row [.int .i64 (α.room:Int),.int .i64 (α.used:Int),.int .i64 (α.peak:Int),.map (some bm)] 104)],[(bm,mrow pkey (l1.map Gr.ent++⟨bb,.int .i64 (n:Int),born⟩::l2.map Gr.ent) ck)],l1.map Gr.obj,[(bb,row [.slice (some ⟨br,0,none⟩) n n] 161)],l2.map Gr.obj]).Nodup→∀e∈l1.map Gr.ent,e.key≠bb:=by
   intro hnd e he heq
   obtain⟨g,hg,rfl⟩:=List.mem_map.1 he
   simp only[keys,List.flatten_cons,List.flatten_nil,List.append_nil,List.cons_append,List.nil_append,List.map_cons,List.map_append,List.nodup_cons,List.nodup_append] at hnd
   exact hnd.2.2.2.2 g.bb (List.mem_map.2 ⟨_,List.mem_map.2 ⟨g,hg,rfl⟩,rfl⟩) bb List.mem_cons_self heq
  have asks:∀w0 S,KeyAsk Tryz.prog w0 S [[(ba,row [.int .i64 (α.room:Int),.int .i64 (α.used:Int),.int .i64 (α.peak:Int),.map (some bm)] 104)],[(bm,mrow pkey (l1.map Gr.ent++⟨bb,.int .i64 (n:Int),born⟩::l2.map Gr.ent) ck)],l1.map Gr.obj,[(bb,row [.slice (some ⟨br,0,none⟩) n n] 161)],l2.map Gr.obj] 151 pkey bb (l1.map Gr.ent++⟨bb,.int .i64 (n:Int),born⟩::l2.map Gr.ent):=by
   intro w0 S
   refine KeyAsk.ptr ⟨_,_,Has.there (Has.there (Has.there Has.here))⟩ fun e he=> ?_
   rcases List.mem_append.1 he with he|he
   ·obtain⟨g,hg,rfl⟩:=List.mem_map.1 he
    exact⟨[.slice (some ⟨g.br,0,none⟩) g.n g.n],161,Has.there (Has.there (Has.in_ (List.mem_map.2 ⟨g,hg,rfl⟩)))⟩
   ·rcases List.mem_cons.1 he with rfl|he
    ·exact⟨_,_,Has.there (Has.there (Has.there Has.here))⟩
    ·obtain⟨g,hg,rfl⟩:=List.mem_map.1 he
     exact⟨[.slice (some ⟨g.br,0,none⟩) g.n g.n],161,Has.there (Has.there (Has.there (Has.there (Has.in_ (List.mem_map.2 ⟨g,hg,rfl⟩)))))⟩
  apply R1.nodup
  ·exact rfl
  intro hnd
  have hfind:=findE_mid (k:=bb) (g:=⟨bb,.int .i64 (n:Int),born⟩) rfl (l1.map Gr.ent) (l2.map Gr.ent) 0 (ask hnd)
  dsimp only at hfind
  have hdel:delE bb (l1.map Gr.ent++⟨bb,.int .i64 (n:Int),born⟩::l2.map Gr.ent)=l1.map Gr.ent++l2.map Gr.ent:=by
   unfold delE
   rw[hfind]
   simp only[Nat.zero_add,List.length_map]
   rw[List.eraseIdx_append_of_length_le (by simp)]
   simp
  apply R.lookupT (K:=Nat) (mk:=pkey) (key:=bb)
  ·exact rfl
  ·repeat(first|exact Has.here|apply Has.there)
  ·exact rfl
  ·exact asks _ _
  ·exact hfind
  ·exact rfl
  ·exact nle rfl
  repeat(refine st ?_;intros)
  apply R.delete (K:=Nat) (mk:=pkey) (key:=bb)
  ·exact rfl
  ·repeat(first|exact Has.here|apply Has.there)
  ·exact rfl
  ·exact asks _ _
  ·exact hdel
  ·repeat(first|exact Upd.here|apply Upd.there)
  ·exact rfl
  repeat(refine st ?_;intros)
  (refine Dn.post (Hr:=[[(ba,row [.int .i64 (α.room:Int),.int .i64 ((α.used:Int)-(n:Int)),.int .i64 (α.peak:Int),.map (some bm)] 104)],[(bm,mrow pkey (l1.map Gr.ent++l2.map Gr.ent) ck)],l1.map Gr.obj,l2.map Gr.obj]) Tryz.results100 (hR:= ?_);refine⟨rfl,?_⟩)
  have e1:((α.release ⟨bb,br,n,born⟩ (l1++l2)).used:Int)=(α.used:Int)-(n:Int):=by simp only[Ar.release];omega
  rw[e1]
  rfl
 ·rintro v H' ⟨rfl,rfl⟩
  refine⟨_,⟨_,rfl,⟨bm,ck,rfl,?_,?_,?_,?_,?_⟩,rfl⟩,?_⟩
  ·simp only[Ar.release];omega
  ·simp only[Ar.release];omega
  ·simp only[Ar.release];omega
  ·simp only[Ar.release];omega
  ·simp only[Ar.release,List.map_append,List.sum_append];omega
  ·simp[Ar.release]
theorem Peak_ct (ba:Nat) (α:Ar) (c:Chunk) (h:IsArena ba α c):CtQ Tryz.prog 59 [.pointer (some ⟨ba,0,none⟩)] [c] (.int .i64 (α.peak:Int)):=by
 obtain⟨bm,ck,rfl,_⟩:=h
 refine CtQ.conv (H2:=[[(ba,row (arCells α bm) 104)],(bm,mrow pkey (α.gs.map Gr.ent) ck)::α.gs.map Gr.obj]) ?_ rfl
 unfold arCells
 refine Ct.intro Tryz.func59 rfl Tryz.ntmps59 (nle rfl) fun w0=> ?_;dsimp only[argSlots,Nat.reduceAdd]
 repeat(refine st ?_;intros)
 (refine Dn.post (Hr:=[[(ba,row [.int .i64 (α.room:Int),.int .i64 (α.used:Int),.int .i64 (α.peak:Int),.map (some bm)] 104)],(bm,mrow pkey (α.gs.map Gr.ent) ck)::α.gs.map Gr.obj]) Tryz.results59 (hR:= ?_);exact⟨rfl,rfl⟩)
theorem ArenaNew_ct (room:Nat) (hr:room≤1000000000):Ct Tryz.prog 39 [.int .i64 (room:Int)] [] fun v H'=>
  ∃ba c',v= .pointer (some ⟨ba,0,none⟩)∧IsArena ba ⟨room,0,0,[]⟩ c'∧H'=[c']:=by
 refine Ct.conv (H2:=[]) (R2:=fun v H'=>∃ba bm,v= .pointer (some ⟨ba,0,none⟩)∧H'=[[(ba,row [.int .i64 (room:Int),.int .i64 0,.int .i64 0,.map (some bm)] 104)],[(bm,mrow pkey [] 0)]]) ?_ rfl ?_
 ·have hmax:max (room:Int) 0=(room:Int):=by omega
  refine Ct.intro Tryz.func39 rfl Tryz.ntmps39 (nle rfl) fun w0=> ?_;dsimp only[argSlots,Nat.reduceAdd]
  repeat(refine st ?_;intros)
  rename_i bm ba
  (refine Dn.post (Hr:=[[(ba,row [.int .i64 (max (room:Int) 0),.int .i64 0,.int .i64 0,.map (some bm)] 104)],[(bm,mrow pkey [] 0)]]) Tryz.results39 (hR:= ?_);exact⟨ba,bm,rfl,by rw[hmax]⟩)
 ·rintro v H' ⟨ba,bm,rfl,rfl⟩
  exact⟨_,⟨ba,_,rfl,⟨bm,0,rfl,by dsimp only;omega,hr,by dsimp only;omega,by dsimp only;omega,rfl⟩,rfl⟩,by simp[arCells]⟩
end Go.Proofs.YtammjnjpheobaaaGreat
namespace Go.Tup
structure T5 where
 c0:Int
 c1:Int
 c2:Int
 c3:Int
 c4:Int
 deriving DecidableEq
def T5.toList (t:T5):List Int:=[t.c0,t.c1,t.c2,t.c3,t.c4]
def T5.col (t:T5):Nat→Int
 |0=>t.c0
 |1=>t.c1
 |2=>t.c2
 |3=>t.c3
 |4=>t.c4
 |_=>0
def fGo:List Int→Bool→(Nat→Bool)→Bool
 |[],_,_=>true
 |k::ks,over,s=>
  if(over=true∧k≠0)∨k< -5∨5<k then false
  else if k=0 then fGo ks true s
  else if s k.natAbs=true then false
  else fGo ks over (fun j=>if j=k.natAbs then true else s j)
def formed (o:T5):Bool:=fGo o.toList false (fun _=>false)
theorem fGo_bounds:∀(l:List Int) (over:Bool) (s:Nat→Bool),fGo l over s=true→∀k∈l,-5≤k∧k≤5
 |[],_,_,_,k,hk=>by cases hk
 |x::l,over,s,h,k,hk=>by
  unfold fGo at h
  split at h
  ·cases h
  ·rename_i hb
   have hx: -5≤x∧x≤5:=by omega
   rcases List.mem_cons.1 hk with rfl|hk
   ·exact hx
   ·split at h
    ·exact fGo_bounds l _ _ h k hk
    ·split at h
     ·cases h
     ·exact fGo_bounds l _ _ h k hk
theorem formed_bounds {o:T5} (h:formed o=true):∀k∈o.toList,-5≤k∧k≤5:=fGo_bounds _ _ _ h
def cmp3 (x y:Int):Int:=if x<y then-1 else if y<x then 1 else 0
def cmpL:List Int→T5→T5→Int
 |[],_,_=>0
 |k::ks,a,b=>
  if k=0 then 0
  else
   let c:=if k<0 then cmp3 (b.col (k.natAbs-1)) (a.col (k.natAbs-1)) else cmp3 (a.col (k.natAbs-1)) (b.col (k.natAbs-1))
   if c≠0 then c else cmpL ks a b
def cmpT (o a b:T5):Int:=if formed o=true then cmpL o.toList a b else 0
end Go.Tup
namespace Go.Proofs.YtammjnjpheobaaaGreat
open Go.SL Go.Tup
theorem Formed_ct (o0 o1 o2 o3 o4:Int):CtQ Tryz.prog 127 [.agg #[.int .i64 o0,.int .i64 o1,.int .i64 o2,.int .i64 o3,.int .i64 o4]] [] (.bool (formed ⟨o0,o1,o2,o3,o4⟩)):=by
 refine Ct.intro Tryz.func127 rfl Tryz.ntmps127 (nle rfl) fun w0=> ?_;dsimp only[argSlots,Nat.reduceAdd]
 repeat(refine st ?_;intros)
 rename_i b1 b2
 refine G.loop (X:=Nat×Bool×(Nat→Bool)) (fun x=>x.1≤5∧formed ⟨o0,o1,o2,o3,o4⟩=fGo ([o0,o1,o2,o3,o4].drop x.1) x.2.1 x.2.2)
  (fun x=>[(8,.int .i64 (x.1:Int)),(7,.agg #[.int .i64 o0,.int .i64 o1,.int .i64 o2,.int .i64 o3,.int .i64 o4]),(4,.bool x.2.1),(3,.pointer (some ⟨b2,0,none⟩))])
  (fun x=>[[(b2,row [.bool (x.2.2 0),.bool (x.2.2 1),.bool (x.2.2 2),.bool (x.2.2 3),.bool (x.2.2 4),.bool (x.2.2 5)] 208)]])
  (fun x=>5-x.1) (0,false,fun _=>false) ⟨by decide,rfl⟩ (body:= ?_)
 rintro⟨i,over,s⟩ ⟨hi,hf⟩
 dsimp only at hi hf⊢
 by_cases h5:i<5
 ·obtain⟨k,hk,hd⟩:∃k,([.int .i64 o0,.int .i64 o1,.int .i64 o2,.int .i64 o3,.int .i64 o4]:List Value)[i]? =some (.int .i64 k)∧
    [o0,o1,o2,o3,o4].drop i=k::[o0,o1,o2,o3,o4].drop (i+1):=by
   match i with
   |0=>exact⟨o0,rfl,rfl⟩
   |1=>exact⟨o1,rfl,rfl⟩
   |2=>exact⟨o2,rfl,rfl⟩
   |3=>exact⟨o3,rfl,rfl⟩
   |4=>exact⟨o4,rfl,rfl⟩
  rw[hd,fGo] at hf
  have hm1:∀k:Int,(max k (-k)).toNat=k.natAbs:=by intro k;omega
  have hm2:=hm1 k
  have hc: -5≤k→k≤5→([.bool (s 0),.bool (s 1),.bool (s 2),.bool (s 3),.bool (s 4),.bool (s 5)]:List Value)[k.natAbs]? =some (.bool (s k.natAbs)):=by
   intro h1 h2
   obtain h|h|h|h|h|h:k.natAbs=0∨k.natAbs=1∨k.natAbs=2∨k.natAbs=3∨k.natAbs=4∨k.natAbs=5:=by omega
   all_goals rw[h];rfl
  have hset: -5≤k→k≤5→([.bool (s 0),.bool (s 1),.bool (s 2),.bool (s 3),.bool (s 4),.bool (s 5)]:List Value).set k.natAbs (.bool true)=
    [.bool (if 0=k.natAbs then true else s 0),.bool (if 1=k.natAbs then true else s 1),.bool (if 2=k.natAbs then true else s 2),
     .bool (if 3=k.natAbs then true else s 3),.bool (if 4=k.natAbs then true else s 4),.bool (if 5=k.natAbs then true else s 5)]:=by
   intro h1 h2
   obtain h|h|h|h|h|h:k.natAbs=0∨k.natAbs=1∨k.natAbs=2∨k.natAbs=3∨k.natAbs=4∨k.natAbs=5:=by omega
   all_goals rw[h];rfl
  by_cases hb:k< -5∨5<k
  ·rw[if_pos (Or.inr hb)] at hf
   cases over
   all_goals repeat' (first|(refine st ?_;intros)|(refine sp ?_ ?_<;>intros)|fail)
   all_goals(refine Dn.post (Hr:=[]) Tryz.results127 (hR:= ?_);exact⟨congrArg Value.bool hf.symm,rfl⟩)
  ·have hc':=hc (by omega) (by omega)
   have hset':=hset (by omega) (by omega)
   have hle:k.natAbs<6:=by omega
   by_cases h0:k=0
   ·rw[if_neg (by simp[h0]),if_pos h0] at hf
    cases over
    all_goals repeat' (first|(refine st ?_;intros)|(refine sp ?_ ?_<;>intros)|fail)
    all_goals exact Dn.round (i+1,true,s) ⟨by omega,hf⟩ (by dsimp only;omega)
   ·cases over
    ·rw[if_neg (by simp;omega),if_neg h0] at hf
     by_cases hs:s k.natAbs=true
     ·rw[if_pos hs] at hf
      rw[hs] at hc'
      repeat' (first|(refine st ?_;intros)|(refine sp ?_ ?_<;>intros)|fail)
      (refine Dn.post (Hr:=[]) Tryz.results127 (hR:= ?_);exact⟨congrArg Value.bool hf.symm,rfl⟩)
     ·rw[if_neg hs] at hf
      simp only[Bool.not_eq_true] at hs
      rw[hs] at hc'
      repeat' (first|(refine st ?_;intros)|(refine sp ?_ ?_<;>intros)|fail)
      exact Dn.round (i+1,false,fun j=>if j=k.natAbs then true else s j) ⟨by omega,hf⟩ (by dsimp only;omega)
    ·rw[if_pos (by simp[h0])] at hf
     repeat' (first|(refine st ?_;intros)|(refine sp ?_ ?_<;>intros)|fail)
     (refine Dn.post (Hr:=[]) Tryz.results127 (hR:= ?_);exact⟨congrArg Value.bool hf.symm,rfl⟩)
 ·repeat' (first|(refine st ?_;intros)|(refine sp ?_ ?_<;>intros)|fail)
  obtain rfl:i=5:=by omega
  (refine Dn.post (Hr:=[]) Tryz.results127 (hR:= ?_);exact⟨congrArg Value.bool (hf.trans rfl).symm,rfl⟩)
def tv (t:T5):Value:= .agg #[.int .i64 t.c0,.int .i64 t.c1,.int .i64 t.c2,.int .i64 t.c3,.int .i64 t.c4]
theorem isNaN_ct (x:Int):CtQ Tryz.prog 201 [.int .i64 x] [] (.bool false):=by
 refine Ct.intro Tryz.func201 rfl Tryz.ntmps201 (nle rfl) fun w0=> ?_;dsimp only[argSlots,Nat.reduceAdd]
 repeat(refine st ?_;intros)
 (refine Dn.post (Hr:=[]) Tryz.results201 (hR:= ?_);exact⟨by simp[packV,dec_false],rfl⟩)
theorem cmp_ct (x y:Int):CtQ Tryz.prog 199 [.int .i64 x,.int .i64 y] [] (.int .i64 (cmp3 x y)):=by
 refine Ct.intro Tryz.func199 rfl Tryz.ntmps199 (nle rfl) fun w0=> ?_;dsimp only[argSlots,Nat.reduceAdd]
 repeat' (first|(refine st ?_;intros)|(refine cq isNaN_ct ?_)|(refine sp ?_ ?_<;>intros)|fail)
 all_goals(refine Dn.post (Hr:=[]) Tryz.results199 (hR:= ?_);refine⟨?_,rfl⟩)
 all_goals simp only[packV,cmp3]
 all_goals first|rw[if_pos (by assumption)]|rw[if_neg (by assumption),if_pos (by assumption)]|rw[if_neg (by assumption),if_neg (by assumption)]
theorem col_get (a0 a1 a2 a3 a4 k:Int) (h1:1≤k) (h2:k≤5):
  ([.int .i64 a0,.int .i64 a1,.int .i64 a2,.int .i64 a3,.int .i64 a4]:List Value)[(k-1).toNat]? =some (.int .i64 (T5.col ⟨a0,a1,a2,a3,a4⟩ (k.natAbs-1))):=by
 obtain rfl|rfl|rfl|rfl|rfl:k=1∨k=2∨k=3∨k=4∨k=5:=by omega
 all_goals rfl
theorem five_get (o0 o1 o2 o3 o4:Int) (i:Nat) (h:i<5):∃k,([.int .i64 o0,.int .i64 o1,.int .i64 o2,.int .i64 o3,.int .i64 o4]:List Value)[i]? =some (.int .i64 k)∧
  [o0,o1,o2,o3,o4].drop i=k::[o0,o1,o2,o3,o4].drop (i+1)∧k∈[o0,o1,o2,o3,o4]:=by
 match i with
 |0=>exact⟨o0,rfl,rfl,by simp⟩
 |1=>exact⟨o1,rfl,rfl,by simp⟩
 |2=>exact⟨o2,rfl,rfl,by simp⟩
 |3=>exact⟨o3,rfl,rfl,by simp⟩
 |4=>exact⟨o4,rfl,rfl,by simp⟩
theorem Compare_ct (a0 a1 a2 a3 a4 c0 c1 c2 c3 c4 o0 o1 o2 o3 o4:Int):
  CtQ Tryz.prog 193 [.agg #[.int .i64 a0,.int .i64 a1,.int .i64 a2,.int .i64 a3,.int .i64 a4],.agg #[.int .i64 c0,.int .i64 c1,.int .i64 c2,.int .i64 c3,.int .i64 c4],
   .agg #[.int .i64 o0,.int .i64 o1,.int .i64 o2,.int .i64 o3,.int .i64 o4]] [] (.int .i64 (cmpT ⟨o0,o1,o2,o3,o4⟩ ⟨a0,a1,a2,a3,a4⟩ ⟨c0,c1,c2,c3,c4⟩)):=by
 refine Ct.intro Tryz.func193 rfl Tryz.ntmps193 (nle rfl) fun w0=> ?_;dsimp only[argSlots,Nat.reduceAdd]
 by_cases hF:formed ⟨o0,o1,o2,o3,o4⟩=true
 ·have hfb:=formed_bounds hF
  simp only[T5.toList] at hfb
  simp only[cmpT,hF,if_true,T5.toList]
  have hF':(!formed ⟨o0,o1,o2,o3,o4⟩)=false:=by rw[hF];rfl
  generalize hres:cmpL [o0,o1,o2,o3,o4] ⟨a0,a1,a2,a3,a4⟩ ⟨c0,c1,c2,c3,c4⟩=res
  repeat(first|(refine st ?_;intros)|refine G.draw (id:=9) [(8,.quiet)] (h:= ?_)|refine G.draw (id:=13) [(8,.quiet)] (h:= ?_)|(refine cq Formed_ct ?_)|(refine cq cmp_ct ?_))
  rename_i b1 b2 b3
  refine G.loop (X:=Nat) (fun i=>i≤5∧res=cmpL ([o0,o1,o2,o3,o4].drop i) ⟨a0,a1,a2,a3,a4⟩ ⟨c0,c1,c2,c3,c4⟩)
   (fun i=>[(15,.int .i64 (i:Int)),(14,.agg #[.int .i64 o0,.int .i64 o1,.int .i64 o2,.int .i64 o3,.int .i64 o4]),(3,.pointer (some ⟨b1,0,none⟩)),(4,.pointer (some ⟨b2,0,none⟩))])
   (fun _=>[[(b1,row [.int .i64 a0,.int .i64 a1,.int .i64 a2,.int .i64 a3,.int .i64 a4] 49)],[(b2,row [.int .i64 c0,.int .i64 c1,.int .i64 c2,.int .i64 c3,.int .i64 c4] 49)]])
   (fun i=>5-i) 0 ⟨by decide,hres.symm⟩ (body:= ?_)
  rintro i ⟨hi,hf⟩
  by_cases h5:i<5
  ·obtain⟨k,hk,hd,hm⟩:=five_get o0 o1 o2 o3 o4 i h5
   obtain⟨hk1,hk2⟩:=hfb k hm
   rw[hd,cmpL] at hf
   by_cases h0:k=0
   ·rw[if_pos h0] at hf
    repeat(first|(refine st ?_;intros)|refine G.draw (id:=9) [(8,.quiet)] (h:= ?_)|refine G.draw (id:=13) [(8,.quiet)] (h:= ?_)|(refine cq Formed_ct ?_)|(refine cq cmp_ct ?_))
    (refine Dn.post (Hr:=[]) Tryz.results193 (hR:= ?_);exact⟨congrArg (Value.int .i64) hf.symm,rfl⟩)
   ·rw[if_neg h0] at hf
    by_cases hn:k<0
    ·have g1:=col_get a0 a1 a2 a3 a4 (-k) (by omega) (by omega)
     have g2:=col_get c0 c1 c2 c3 c4 (-k) (by omega) (by omega)
     rw[Int.natAbs_neg] at g1 g2
     simp only[hn,if_true] at hf
     by_cases hz:cmp3 (T5.col ⟨c0,c1,c2,c3,c4⟩ (k.natAbs-1)) (T5.col ⟨a0,a1,a2,a3,a4⟩ (k.natAbs-1))=0
     ·rw[if_neg (by simpa using hz)] at hf
      repeat(first|(refine st ?_;intros)|refine G.draw (id:=9) [(8,.quiet)] (h:= ?_)|refine G.draw (id:=13) [(8,.quiet)] (h:= ?_)|(refine cq Formed_ct ?_)|(refine cq cmp_ct ?_))
      exact Dn.round (i+1) ⟨by omega,hf⟩ (by omega)
     ·rw[if_pos hz] at hf
      repeat(first|(refine st ?_;intros)|refine G.draw (id:=9) [(8,.quiet)] (h:= ?_)|refine G.draw (id:=13) [(8,.quiet)] (h:= ?_)|(refine cq Formed_ct ?_)|(refine cq cmp_ct ?_))
      (refine Dn.post (Hr:=[]) Tryz.results193 (hR:= ?_);exact⟨congrArg (Value.int .i64) hf.symm,rfl⟩)
    ·have g1:=col_get a0 a1 a2 a3 a4 k (by omega) (by omega)
     have g2:=col_get c0 c1 c2 c3 c4 k (by omega) (by omega)
     simp only[hn,if_false] at hf
     by_cases hz:cmp3 (T5.col ⟨a0,a1,a2,a3,a4⟩ (k.natAbs-1)) (T5.col ⟨c0,c1,c2,c3,c4⟩ (k.natAbs-1))=0
     ·rw[if_neg (by simpa using hz)] at hf
      repeat(first|(refine st ?_;intros)|refine G.draw (id:=9) [(8,.quiet)] (h:= ?_)|refine G.draw (id:=13) [(8,.quiet)] (h:= ?_)|(refine cq Formed_ct ?_)|(refine cq cmp_ct ?_))
      exact Dn.round (i+1) ⟨by omega,hf⟩ (by omega)
     ·rw[if_pos hz] at hf
      repeat(first|(refine st ?_;intros)|refine G.draw (id:=9) [(8,.quiet)] (h:= ?_)|refine G.draw (id:=13) [(8,.quiet)] (h:= ?_)|(refine cq Formed_ct ?_)|(refine cq cmp_ct ?_))
      (refine Dn.post (Hr:=[]) Tryz.results193 (hR:= ?_);exact⟨congrArg (Value.int .i64) hf.symm,rfl⟩)
  ·repeat(first|(refine st ?_;intros)|refine G.draw (id:=9) [(8,.quiet)] (h:= ?_)|refine G.draw (id:=13) [(8,.quiet)] (h:= ?_)|(refine cq Formed_ct ?_)|(refine cq cmp_ct ?_))
   obtain rfl:i=5:=by omega
   (refine Dn.post (Hr:=[]) Tryz.results193 (hR:= ?_);exact⟨congrArg (Value.int .i64) hf.symm,rfl⟩)
 ·simp only[Bool.not_eq_true] at hF
  simp only[cmpT,hF]
  have hF':(!formed ⟨o0,o1,o2,o3,o4⟩)=true:=by rw[hF];rfl
  repeat(first|(refine st ?_;intros)|refine G.draw (id:=9) [(8,.quiet)] (h:= ?_)|refine G.draw (id:=13) [(8,.quiet)] (h:= ?_)|(refine cq Formed_ct ?_)|(refine cq cmp_ct ?_))
  (refine Dn.post (Hr:=[]) Tryz.results193 (hR:= ?_);exact⟨rfl,rfl⟩)
end Go.Proofs.YtammjnjpheobaaaGreat
namespace Go.Proofs.YtammjnjpheobaaaGreat
open Go.SL Go.Spc Go.Tup
abbrev pv (b:Nat):Value:= .pointer (some ⟨b,0,none⟩)
abbrev wd (c:Int):Int:=IntKind.wrap .u64 c
def inI64 (c:Int):Prop:= -9223372036854775808≤c∧c≤9223372036854775807
def okT (k:Nat) (t:T5):Prop:=(∀c∈t.toList,inI64 c)∧∀i,k≤i→t.col i=0
theorem wrap_back {c:Int} (h:inI64 c):IntKind.wrap .i64 (wd c)=c:=by
 obtain⟨h1,h2⟩:=h
 have h3:(9223372036854775808:Int)=2^(64-1):=by decide
 simp only[wd,IntKind.wrap,IntKind.bits,IntKind.signed,Bool.true_and,Bool.false_and,decide_eq_true_eq,←h3]
 simp
 split<;>omega
def tw (k:Nat) (t:T5):List Int:=(t.toList.take k).map wd
def words (k:Nat) (ts:List T5):List Int:=ts.flatMap (tw k)
theorem tw_length {k:Nat} (t:T5) (hk:k≤5):(tw k t).length=k:=by simp[tw,T5.toList];omega
theorem words_length {k:Nat} (hk:k≤5) (ts:List T5):(words k ts).length=ts.length*k:=by
 induction ts with
 |nil=>simp[words]
 |cons t ts ih=>
  simp only[words,List.flatMap_cons,List.length_append,tw_length t hk,List.length_cons] at ih⊢
  rw[ih,Nat.succ_mul];omega
@[simp] theorem words_app (k:Nat) (a b:List T5):words k (a++b)=words k a++words k b:=by simp[words]
@[simp] theorem words_nil (k:Nat):words k []=[]:=rfl
def Onto (d:Nat→Option (List Int)) (size k h first:Nat) (ts:List T5) (nb:Nat):Prop:=
 ∀j,j<nb→d (first+j)=some (sealW size ((first+j:Nat):Int) (k:Int) (words k ((ts.drop (j*h)).take h)))
structure Fl where
 first:Nat
 blocks:Nat
 width:Nat
 count:Nat
 deriving DecidableEq
def Fl.ext (f:Fl):Ext:=(f.first,f.blocks)
def flv (f:Fl):Value:= .agg #[.int .i64 (f.first:Int),.int .i64 (f.blocks:Int),.int .i64 (f.width:Int),.int .i64 (f.count:Int)]
abbrev holds (size k:Nat):Nat:=(size-2)/k
abbrev nblocks (size k c:Nat):Nat:=(c+holds size k-1)/holds size k
structure FileOk (d:Nat→Option (List Int)) (size:Nat) (Lv:List Ext) (f:Fl) (ts:List T5):Prop where
 w1:1≤f.width
 w2:f.width≤5
 len:ts.length=f.count
 cnt:f.count≤100000000
 blk:f.blocks=nblocks size f.width f.count
 fit:∀t∈ts,okT f.width t
 onto:Onto d size f.width (holds size f.width) f.first ts f.blocks
 live:f.blocks≠0→f.ext∈Lv
theorem FileOk.keep {d d':Nat→Option (List Int)} {size:Nat} {Lv:List Ext} {f:Fl} {ts:List T5} (h:FileOk d size Lv f ts) (hd:∀x,inF Lv x→d' x=d x):FileOk d' size Lv f ts:=by
 have ho:Onto d' size f.width (holds size f.width) f.first ts f.blocks:=by
  intro j hj
  rw[hd]
  ·exact h.onto j hj
  ·exact⟨f.ext,h.live (by omega),by simp[Fl.ext],by simp[Fl.ext];omega⟩
 exact{h with onto:=ho}
theorem FileOk.sub {d:Nat→Option (List Int)} {size:Nat} {Lv Lv':List Ext} {f:Fl} {ts:List T5} (h:FileOk d size Lv f ts) (hs:∀e∈Lv,e∈Lv'):FileOk d size Lv' f ts:=
 {h with live:=fun hb=>hs _ (h.live hb)}
structure Live (σ:Sp) (live:List Ext):Prop where
 fit:∀e∈live,1≤e.2∧e.1+e.2≤σ.n
 apart:live.Pairwise fun a b=>a.1+a.2≤b.1∨b.1+b.2≤a.1
 free:∀x,x<σ.n→(inF σ.free x↔¬inF live x)
 sum:total σ.free+total live=σ.n
theorem total_perm {a b:List Ext} (h:a.Perm b):total a=total b:=(h.map _).sum_nat
theorem inF_perm {a b:List Ext} (h:a.Perm b) (x:Nat):inF a x↔inF b x:=by
 unfold inF
 constructor
 ·rintro⟨e,he,h2⟩;exact⟨e,h.mem_iff.1 he,h2⟩
 ·rintro⟨e,he,h2⟩;exact⟨e,h.mem_iff.2 he,h2⟩
theorem Live.perm {σ:Sp} {l l':List Ext} (h:Live σ l) (hp:l.Perm l'):Live σ l' where
 fit:=fun e he=>h.fit e (hp.mem_iff.2 he)
 apart:=(hp.pairwise_iff (fun {a b} hab=>hab.symm)).1 h.apart
 free:=fun x hx=>by rw[h.free x hx,inF_perm hp]
 sum:=by rw[←total_perm hp];exact h.sum
theorem Live.other {σ:Sp} {e:Ext} {l:List Ext} (h:Live σ (e::l)) {x:Nat} (h1:e.1≤x) (h2:x<e.1+e.2):¬inF l x:=by
 rintro⟨y,hy,h3,h4⟩
 have:=List.rel_of_pairwise_cons h.apart hy
 omega
structure Wk where
 δ:Dv
 α:Ar
 σ:Sp
 live:List Ext
def IsAr (ba:Nat) (α:Ar) (c:Chunk):Prop:=∃c0,IsArena ba α c0∧c.Perm c0
theorem IsAr.perm {ba:Nat} {α:Ar} {c c':Chunk} (h:IsAr ba α c) (hp:c'.Perm c):IsAr ba α c':=
 let ⟨c0,h1,h2⟩:=h;⟨c0,h1,hp.trans h2⟩
theorem IsArena.ar {ba:Nat} {α:Ar} {c:Chunk} (h:IsArena ba α c):IsAr ba α c:=⟨c,h,.refl _⟩
theorem IsAr.open_ {ba:Nat} {α:Ar} {c:Chunk} (h:IsAr ba α c) {g:Gr} (hg:g∈α.gs):∃c1,c.Perm (c1++[g.obj]):=by
 obtain⟨c0,⟨bm,ck,rfl,_⟩,hp⟩:=h
 have hm:g.obj∈((ba,row (arCells α bm) 104)::(bm,mrow pkey (α.gs.map Gr.ent) ck)::α.gs.map Gr.obj):=by
  simp only[List.mem_cons,List.mem_map]
  exact .inr (.inr ⟨g,hg,rfl⟩)
 obtain⟨l1,l2,he⟩:=List.append_of_mem hm
 refine⟨l1++l2,hp.trans ?_⟩
 rw[he]
 exact List.perm_middle.trans (List.perm_append_comm (l₁:=[g.obj]))
theorem IsAr.num {ba:Nat} {α:Ar} {c:Chunk} (h:IsAr ba α c):α.used≤α.room∧α.room≤1000000000∧α.peak≤α.room∧α.used=(α.gs.map (·.n)).sum:=by
 obtain⟨c0,⟨bm,ck,_,h1,h2,h3,_,h5⟩,_⟩:=h
 exact⟨h1,h2,h3,h5⟩
def wrow (bw bd ba bs:Nat):Chunk:=[(bw,row [pv bd,pv ba,pv bs] 101)]
structure Wc (bd ba bs:Nat) (W:Wk) (cd ca cs:Chunk):Prop where
 dev:IsDev bd W.δ cd
 ar:IsAr ba W.α ca
 sp:IsSpace bs W.σ cs
 nn:W.δ.blocks=W.σ.n
 live:Live W.σ W.live
theorem IsDev.num {bd:Nat} {δ:Dv} {c:Chunk} (h:IsDev bd δ c):(8≤δ.size∧δ.size≤256)∧δ.blocks≤1000000∧(-1≤δ.fault∧δ.fault≤1000000000):=by
 obtain⟨bl,bn,pp,np,cp,xs,pc,es,ck,junk,_,_,_,_,_,h1,h2,h3⟩:=h
 exact⟨h1,h2,h3⟩
structure Ev (W W':Wk) (k m:Nat):Prop where
 size:W'.δ.size=W.δ.size
 n:W'.σ.n=W.σ.n
 acts:W.δ.acts≤W'.δ.acts∧W'.δ.acts≤W.δ.acts+k
 fault:W.δ.fault= -1→W'.δ.fault= -1
 room:W'.α.room=W.α.room
 big:big W.σ.free≤big W'.σ.free+m
theorem Ev.refl (W:Wk):Ev W W 0 0:=⟨rfl,rfl,⟨Nat.le_refl _,Nat.le_refl _⟩,id,rfl,Nat.le_refl _⟩
theorem Ev.trans {W W1 W2:Wk} {k1 m1 k2 m2:Nat} (h:Ev W W1 k1 m1) (h2:Ev W1 W2 k2 m2):Ev W W2 (k1+k2) (m1+m2):=
 ⟨h2.size.trans h.size,h2.n.trans h.n,⟨Nat.le_trans h.acts.1 h2.acts.1,by have:=h.acts.2;have:=h2.acts.2;omega⟩,fun e=>h2.fault (h.fault e),h2.room.trans h.room,by have:=h.big;have:=h2.big;omega⟩
theorem Ev.weak {W W':Wk} {k m k' m':Nat} (h:Ev W W' k m) (hk:k≤k') (hm:m≤m'):Ev W W' k' m':=
 {h with acts:=⟨h.acts.1,Nat.le_trans h.acts.2 (by omega)⟩,big:=Nat.le_trans h.big (by omega)}
theorem flat1 {c c0:Chunk} (h:c.Perm c0):(([c]:Hp).flatten).Perm (([c0]:Hp).flatten):=by simpa using h
theorem aRoom (ba:Nat) (α:Ar) (c:Chunk) (h:IsAr ba α c):CtQ Tryz.prog 60 [pv ba] [c] (.int .i64 (α.room:Int)):=by
 obtain⟨c0,h1,h2⟩:=h
 exact CtQ.convP (Room_ct ba α c0 h1) (flat1 h2)
theorem aUsed (ba:Nat) (α:Ar) (c:Chunk) (h:IsAr ba α c):CtQ Tryz.prog 17 [pv ba] [c] (.int .i64 (α.used:Int)):=by
 obtain⟨c0,h1,h2⟩:=h
 exact CtQ.convP (Used_ct ba α c0 h1) (flat1 h2)
theorem aPeak (ba:Nat) (α:Ar) (c:Chunk) (h:IsAr ba α c):CtQ Tryz.prog 59 [pv ba] [c] (.int .i64 (α.peak:Int)):=by
 obtain⟨c0,h1,h2⟩:=h
 exact CtQ.convP (Peak_ct ba α c0 h1) (flat1 h2)
theorem aLeft (ba:Nat) (α:Ar) (c:Chunk) (h:IsAr ba α c):CtQ Tryz.prog 79 [pv ba] [c] (.int .i64 ((α.room:Int)-(α.used:Int))):=by
 obtain⟨c0,h1,h2⟩:=h
 exact CtQ.convP (Left_ct ba α c0 h1) (flat1 h2)
theorem aFull (ba:Nat) (α:Ar) (c:Chunk) (h:IsAr ba α c) (n:Int) (hn:0≤n) (hr:(α.room:Int)-(α.used:Int)<n):CtQ Tryz.prog 99 [pv ba,.int .i64 n] [c] (.tuple #[.pointer none,.int .i64 7]):=by
 obtain⟨c0,h1,h2⟩:=h
 exact CtQ.convP (Grant_full ba α c0 h1 n hn hr) (flat1 h2)
theorem aGrant (ba:Nat) (α:Ar) (c:Chunk) (h:IsAr ba α c) (n:Nat) (hn:n≤α.room-α.used):Ct Tryz.prog 99 [pv ba,.int .i64 (n:Int)] [c] fun v H'=>
  ∃(g:Gr) (c':Chunk) (α':Ar),g.n=n∧v= .tuple #[pv g.bb,.int .i64 0]∧IsAr ba α' c'∧α'.gs.Perm (g::α.gs)∧α'.room=α.room∧H'=[c',[(g.br,row (wcells (List.replicate n 0)) 158)]]:=by
 obtain⟨c0,h1,h2⟩:=h
 refine Ct.convP (Grant_ct ba α c0 h1 n hn) (flat1 h2) ?_
 rintro v H' ⟨g,c',e1,e2,e3,rfl⟩
 refine⟨_,⟨g,c',_,e1,e2,e3.ar,?_,rfl,rfl⟩,?_⟩
 ·show(α.gs++[g]).Perm _
  exact List.perm_append_comm
 ·rw[zrep_w]
theorem aRelease_cb (ba:Nat) (α:Ar) (c:Chunk) (h:IsAr ba α c) (g:Gr) (G:List Gr) (hg:α.gs.Perm (g::G)):Cb Tryz.prog 100 [pv ba,pv g.bb] [c] fun v H'=>
  ∃(c':Chunk) (α':Ar),v= .bool true∧IsAr ba α' c'∧α'.gs.Perm G∧α'.room=α.room∧H'=[c']:=by
 obtain⟨c0,h1,h2⟩:=h
 obtain⟨l1,l2,he⟩:=List.append_of_mem (hg.mem_iff.2 List.mem_cons_self)
 refine Cb.conv (Release_cb ba α c0 h1 l1 l2 g he) (flat1 h2) ?_
 rintro v H' ⟨c',rfl,e3,rfl⟩
 refine⟨_,⟨c',_,rfl,e3.ar,?_,rfl,rfl⟩,.refl _⟩
 show(l1++l2).Perm G
 rw[he] at hg
 exact((List.perm_middle.symm.trans hg)).cons_inv
theorem aRelease (ba:Nat) (α:Ar) (c:Chunk) (h:IsAr ba α c) (g:Gr) (G:List Gr) (hg:α.gs.Perm (g::G)):Ct Tryz.prog 100 [pv ba,pv g.bb] [c] fun v H'=>
  ∃(c':Chunk) (α':Ar),v= .bool true∧IsAr ba α' c'∧α'.gs.Perm G∧α'.room=α.room∧H'=[c']:=(aRelease_cb ba α c h g G hg).1
theorem WDevice_ct (bw bd ba bs:Nat):CtQ Tryz.prog 24 [pv bw] [wrow bw bd ba bs] (pv bd):=by
 unfold wrow
 refine Ct.intro Tryz.func24 rfl Tryz.ntmps24 (nle rfl) fun w0=> ?_;dsimp only[argSlots,Nat.reduceAdd]
 repeat(refine st ?_;intros)
 (refine Dn.post (Hr:=[[(bw,row [pv bd,pv ba,pv bs] 101)]]) Tryz.results24 (hR:= ?_);exact⟨rfl,rfl⟩)
theorem WArena_ct (bw bd ba bs:Nat):CtQ Tryz.prog 16 [pv bw] [wrow bw bd ba bs] (pv ba):=by
 unfold wrow
 refine Ct.intro Tryz.func16 rfl Tryz.ntmps16 (nle rfl) fun w0=> ?_;dsimp only[argSlots,Nat.reduceAdd]
 repeat(refine st ?_;intros)
 (refine Dn.post (Hr:=[[(bw,row [pv bd,pv ba,pv bs] 101)]]) Tryz.results16 (hR:= ?_);exact⟨rfl,rfl⟩)
theorem WSpace_ct (bw bd ba bs:Nat):CtQ Tryz.prog 57 [pv bw] [wrow bw bd ba bs] (pv bs):=by
 unfold wrow
 refine Ct.intro Tryz.func57 rfl Tryz.ntmps57 (nle rfl) fun w0=> ?_;dsimp only[argSlots,Nat.reduceAdd]
 repeat(refine st ?_;intros)
 (refine Dn.post (Hr:=[[(bw,row [pv bd,pv ba,pv bs] 101)]]) Tryz.results57 (hR:= ?_);exact⟨rfl,rfl⟩)
theorem Holds_ct (bw bd ba bs:Nat) (δ:Dv) (cd:Chunk) (h:IsDev bd δ cd) (k:Nat) (h1:1≤k) (h2:k≤5):CtQ Tryz.prog 97 [pv bw,.int .i64 (k:Int)] [wrow bw bd ba bs,cd] (.int .i64 ((holds δ.size k:Nat):Int)):=by
 have hS:=Size_ct bd δ cd h
 obtain⟨hs,_⟩:=h.num
 have hq:((δ.size:Int)-2).tdiv (k:Int)=((holds δ.size k:Nat):Int):=by
  rw[show(δ.size:Int)-2=((δ.size-2:Nat):Int) by omega,Int.tdiv_eq_ediv_of_nonneg (by omega)]
  simp[holds]
 have hle:holds δ.size k≤256:=Nat.le_trans (Nat.div_le_self _ _) (by omega)
 have hw:IntKind.wrap .i64 (((δ.size:Int)-2).tdiv (k:Int))=((holds δ.size k:Nat):Int):=by rw[hq];exact wrap_i64 (by omega)
 unfold wrow
 refine Ct.intro Tryz.func97 rfl Tryz.ntmps97 (nle rfl) fun w0=> ?_;dsimp only[argSlots,Nat.reduceAdd]
 repeat(first|(refine st ?_;intros)|(refine cq hS ?_))
 (refine Dn.post (Hr:=[[(bw,row [pv bd,pv ba,pv bs] 101)],cd]) Tryz.results97 (hR:= ?_);exact⟨rfl,rfl⟩)
theorem holds_pos {s k:Nat} (hs:8≤s) (h1:1≤k) (h2:k≤5):1≤holds s k:=(Nat.le_div_iff_mul_le (by omega)).2 (by omega)
theorem holds_mul {s k:Nat}:holds s k*k≤s-2:=Nat.div_mul_le_self _ _
theorem blocks_ct (bw bd ba bs:Nat) (δ:Dv) (cd:Chunk) (h:IsDev bd δ cd) (k c:Nat) (h1:1≤k) (h2:k≤5) (hc:c≤100000000):CtQ Tryz.prog 98 [pv bw,.int .i64 (k:Int),.int .i64 (c:Int)] [wrow bw bd ba bs,cd] (.int .i64 ((nblocks δ.size k c:Nat):Int)):=by
 have hS:=Holds_ct bw bd ba bs δ cd h k h1 h2
 obtain⟨hs,_⟩:=h.num
 have hp:=holds_pos hs.1 h1 h2
 have hle:holds δ.size k≤256:=Nat.le_trans (Nat.div_le_self _ _) (by omega)
 have hq:((c:Int)+((holds δ.size k:Nat):Int)-1).tdiv ((holds δ.size k:Nat):Int)=((nblocks δ.size k c:Nat):Int):=by
  rw[show(c:Int)+((holds δ.size k:Nat):Int)-1=((c+holds δ.size k-1:Nat):Int) by omega,Int.tdiv_eq_ediv_of_nonneg (by omega)]
  simp[nblocks]
 have hle2:nblocks δ.size k c≤1000000000:=Nat.le_trans (Nat.div_le_self _ _) (by omega)
 have hw:IntKind.wrap .i64 (((c:Int)+((holds δ.size k:Nat):Int)-1).tdiv ((holds δ.size k:Nat):Int))=((nblocks δ.size k c:Nat):Int):=by rw[hq];exact wrap_i64 (by omega)
 generalize holds δ.size k=hk at*
 refine Ct.intro Tryz.func98 rfl Tryz.ntmps98 (nle rfl) fun w0=> ?_;dsimp only[argSlots,Nat.reduceAdd]
 repeat(first|(refine st ?_;intros)|(refine cq hS ?_))
 (refine Dn.post (Hr:=[wrow bw bd ba bs,cd]) Tryz.results98 (hR:= ?_);exact⟨rfl,rfl⟩)
end Go.Proofs.YtammjnjpheobaaaGreat
