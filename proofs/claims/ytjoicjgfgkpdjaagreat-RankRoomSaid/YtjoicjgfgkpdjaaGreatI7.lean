/-
  Parts of the proof, put together: Seal3, Device, Dev2, Arena, SpPlain. No condition.
-/
import Derived.Test.YtjoicjgfgkpdjaaGreatI6
set_option linter.unusedVariables false
set_option linter.unusedSimpArgs false
set_option linter.unnecessarySimpa false
set_option maxHeartbeats 4000000
namespace Go.Proofs.YtjoicjgfgkpdjaaGreat
open Go.SL
theorem sealW_length (size:Nat) (address tag:Int) (pw:List Int) (h:pw.length≤size):(sealW size address tag pw).length=size:=by simp[sealW,bodyW];omega
theorem sealW_take (size:Nat) (address tag:Int) (pw:List Int):(sealW size address tag pw).take (size-1)=(bodyW size tag pw).take (size-1):=by
 unfold sealW
 rw[List.take_set_of_le (Nat.le_refl _)]
theorem sealW_last (size:Nat) (address tag:Int) (pw:List Int) (hs:8≤size) (h:pw.length≤size-2):(sealW size address tag pw).getD (size-1) 0=lastW ((bodyW size tag pw).take (size-1)) pw.length address:=by
 have:(bodyW size tag pw).length=size:=by simp[bodyW];omega
 simp[sealW,List.getD_eq_getElem?_getD,this,show size-1<size by omega]
theorem sealW_get (size:Nat) (address tag:Int) (pw:List Int) (hs:8≤size) (h:pw.length≤size-2) (i:Nat) (hi:i<size-2):(sealW size address tag pw).getD i 0=pw.getD i 0:=by
 unfold sealW bodyW
 simp only[List.getD_eq_getElem?_getD]
 rw[List.getElem?_set_ne (by omega),List.getElem?_set_ne (by omega),List.getElem?_append]
 split
 ·rfl
 ·rename_i hh
  rw[List.getElem?_replicate,if_pos (by omega),List.getElem?_eq_none (by omega)]
  rfl
theorem sealW_tag (size:Nat) (address tag:Int) (pw:List Int) (hs:8≤size) (h:pw.length≤size-2):(sealW size address tag pw).getD (size-2) 0=tag:=by
 unfold sealW bodyW
 simp only[List.getD_eq_getElem?_getD]
 rw[List.getElem?_set_ne (by omega),List.getElem?_set_self (by simp;omega)]
 rfl
theorem w_get {ws:List Int} {rest:List Value} {i:Nat} {v:Int} (hi:i<ws.length) (h:ws.getD i 0=v):(wcells ws++rest)[i]? =some (.int .u64 v):=by
 rw[List.getElem?_append_left (by simpa using hi)]
 rw[List.getD_eq_getElem?_getD,List.getElem?_eq_getElem hi] at h
 simp only[Option.getD_some] at h
 simp[wcells,List.getElem?_eq_getElem hi,h]
theorem w_take {ws:List Int} {rest:List Value} {k:Nat} (hk:k≤ws.length):((wcells ws++rest).drop 0).take k=wcells (ws.take k):=by
 rw[List.drop_zero,List.take_append_of_le_length (by simpa using hk)]
 simp[wcells,List.map_take]
theorem w_drop {ws:List Int} {rest:List Value} {a k:Nat} (hk:a+k≤ws.length):((wcells ws++rest).drop a).take k=wcells ((ws.drop a).take k):=by
 rw[List.drop_append_of_le_length (by simp;omega),List.take_append_of_le_length (by simp;omega)]
 simp[wcells,List.map_take,List.map_drop]
theorem Get_ct (size address tag:Nat) (pw:List Int) (b cap:Nat) (rest:List Value) (E:Nat) (hs:8≤size∧size≤256) (hcap:size≤cap) (ha:address≤1000000000) (n:Nat) (hn:n=pw.length) (h1:1≤n) (h2:n≤size-2):
  Ct Tryz.prog 116 [.slice (some ⟨b,0,none⟩) size cap,.int .i64 (address:Int)] [[(b,row (wcells (sealW size address tag pw)++rest) E)]] fun v H'=>
   ∃p cap' c',v= .tuple #[.slice p n cap',.int .u64 (tag:Int),.int .i64 0]∧Vec 125 1 p n cap' (wcells pw) c'∧H'=[c',[(b,row (wcells (sealW size address tag pw)++rest) E)]]:=by
 subst hn
 obtain⟨hs1,hs2⟩:=hs
 have hR:=right_ct (size:Int) (address:Int) (by omega) (by omega)
 have hlen:=sealW_length size address tag pw (by omega)
 have hlast:=w_get (rest:=rest) (by omega) (sealW_last size address tag pw hs1 h2)
 have htag:=w_get (rest:=rest) (by omega) (sealW_tag size address tag pw hs1 h2)
 have hL:=last_ct b pw.length size cap (address:Int) (wcells (sealW size address tag pw)++rest) E (0,0) ((bodyW size tag pw).take (size-1)) (by omega) (by omega) hcap (by omega) (by omega)
  (by rw[←sealW_take size address tag pw];exact w_take (by omega)) (by rw[←sealW_take size address tag pw];simp;omega)
 have hCF:=ContainsF_ct b pw.length (size-2-pw.length) (cap-pw.length) (wcells (sealW size address tag pw)++rest) E (0,0) (((sealW size address tag pw).drop pw.length).take (size-2-pw.length)) (by omega) (w_drop (by omega)) (by simp;omega) (by
  intro w hw
  obtain⟨i,hi⟩:=List.getElem?_of_mem hw
  rw[List.getElem?_take] at hi
  split at hi
  ·rw[List.getElem?_drop] at hi
   have:=sealW_get size address tag pw hs1 h2 (pw.length+i) (by omega)
   rw[List.getD_eq_getElem?_getD,hi,List.getD_eq_getElem?_getD,List.getElem?_eq_none (by omega)] at this
   simpa using this
  ·cases hi)
 have hC:=CloneW_ct b 0 pw.length cap (wcells (sealW size address tag pw)++rest) E (0,0) pw h1 (by omega) (by
  rw[w_take (by omega)]
  congr 1
  apply List.ext_getElem
  ·simp;omega
  ·intro i i1 i2
   have:=sealW_get size address tag pw hs1 h2 i (by omega)
   simp only[List.getD_eq_getElem?_getD,List.getElem?_eq_getElem i2] at this
   rw[List.getElem?_eq_getElem (by omega)] at this
   simpa using this) rfl
 have hshr:=lastW_shr ((bodyW size tag pw).take (size-1)) pw.length (address:Int) (by omega)
 generalize lastW ((bodyW size tag pw).take (size-1)) pw.length (address:Int)=lw at*
 have e1:((size:Int)-1).toNat=size-1:=by omega
 have e2:((size:Int)-2).toNat=size-2:=by omega
 have e3:((pw.length:Int)+1-1)=(pw.length:Int):=by omega
 have e4:(((pw.length:Int)+1)-1).toNat=pw.length:=by omega
 have e5:IntKind.wrap .i64 ((pw.length:Int)+1-1)=(pw.length:Int):=by rw[e3];exact wrap_i64 (by omega)
 have e6:dec (lw≠lw)=false:=dec_false (by simp)
 generalize wcells (sealW size address tag pw)++rest=cells at*
 refine Ct.intro Tryz.func116 rfl Tryz.ntmps116 (nle rfl) fun w0=> ?_;dsimp only[argSlots,Nat.reduceAdd]
 repeat(first|(refine st ?_;intros)|refine G.draw (id:=5) [(17,.quiet),(26,.quiet)] (h:= ?_)|refine G.drawOrd (id:=7) [0,1,2,4,5,6,7,8,3,9,10,11] [(3,.eff [8])] (h:= ?_)|(refine cq hR ?_)|(refine cq hL ?_)|(refine cq hCF ?_))
 refine R.callX (hct:=hC) (h:= ?_)
 rintro _ _ ⟨p,cap',c',rfl,hV,rfl⟩
 try dsimp only[List.cons_append,List.nil_append]
 constructor
 ·(·(first|(intro _ _ h;cases h;done)|(repeat(first|exact qok_nil|(apply qok_cons;(·first|(intro hc;exact absurd hc (nmem rfl))|(intro _;apply CellPr.mk;(·repeat(first|exact Has.here|apply Has.there));(first|exact rfl|assumption))|(intro _;apply CellsPr.mk;(·repeat(first|exact Has.here|apply Has.there));(first|exact rfl|assumption))))))))
 repeat(first|(refine st ?_;intros)|refine G.draw (id:=5) [(17,.quiet),(26,.quiet)] (h:= ?_)|refine G.drawOrd (id:=7) [0,1,2,4,5,6,7,8,3,9,10,11] [(3,.eff [8])] (h:= ?_)|(refine cq hR ?_)|(refine cq hL ?_)|(refine cq hCF ?_))
 (refine Dn.post (Hr:=[c',[(b,row cells E)]]) Tryz.results116 (hR:= ?_);exact⟨p,cap',c',rfl,hV,rfl⟩)
def dvCells (size blocks:Nat) (bl bn:Nat) (pp:Option Addr) (np cp:Nat) (fault:Int) (acts:Nat):List Value:=
 [.int .i64 (size:Int),.int .i64 (blocks:Int),.map (some bl),.map (some bn),.slice pp np cp,.int .i64 (-1),.int .i64 fault,.bool false,.int .i64 (acts:Int)]
section
variable (bd size blocks bl bn:Nat) (pp:Option Addr) (np cp:Nat) (fault:Int) (acts:Nat)
theorem Down_cells:CtQ Tryz.prog 129 [.pointer (some ⟨bd,0,none⟩)] [[(bd,row (dvCells size blocks bl bn pp np cp fault acts) 112)]] (.bool false):=by
 unfold dvCells
 refine Ct.intro Tryz.func129 rfl Tryz.ntmps129 (nle rfl) fun w0=> ?_;dsimp only[argSlots,Nat.reduceAdd]
 repeat(refine st ?_;intros)
 (refine Dn.post (Hr:=[[(bd,row [.int .i64 (size:Int),.int .i64 (blocks:Int),.map (some bl),.map (some bn),.slice pp np cp,.int .i64 (-1),.int .i64 fault,.bool false,.int .i64 (acts:Int)] 112)]]) Tryz.results129 (hR:= ?_);exact⟨rfl,rfl⟩)
theorem act_fault:Ct Tryz.prog 130 [.pointer (some ⟨bd,0,none⟩)] [[(bd,row (dvCells size blocks bl bn pp np cp 0 acts) 112)]] fun v H'=>
  v= .int .i64 6∧H'=[[(bd,row (dvCells size blocks bl bn pp np cp (-1) acts) 112)]]:=by
 unfold dvCells
 refine Ct.intro Tryz.func130 rfl Tryz.ntmps130 (nle rfl) fun w0=> ?_;dsimp only[argSlots,Nat.reduceAdd]
 repeat(refine st ?_;intros)
 (refine Dn.post (Hr:=[[(bd,row [.int .i64 (size:Int),.int .i64 (blocks:Int),.map (some bl),.map (some bn),.slice pp np cp,.int .i64 (-1),.int .i64 (-1),.bool false,.int .i64 (acts:Int)] 112)]]) Tryz.results130 (hR:= ?_);exact⟨rfl,rfl⟩)
def less (fault:Int):Int:=if 0<fault then fault-1 else fault
theorem act_ok (hf:fault≠0) (hb: -1≤fault∧fault≤1000000000) (ha:acts≤1000000000000):Ct Tryz.prog 130 [.pointer (some ⟨bd,0,none⟩)] [[(bd,row (dvCells size blocks bl bn pp np cp fault acts) 112)]] fun v H'=>
  v= .int .i64 0∧H'=[[(bd,row (dvCells size blocks bl bn pp np cp (less fault) (acts+1)) 112)]]:=by
 unfold dvCells less
 by_cases h0:0<fault
 ·rw[if_pos h0]
  refine Ct.intro Tryz.func130 rfl Tryz.ntmps130 (nle rfl) fun w0=> ?_;dsimp only[argSlots,Nat.reduceAdd]
  repeat(refine st ?_;intros)
  (refine Dn.post (Hr:=[[(bd,row [.int .i64 (size:Int),.int .i64 (blocks:Int),.map (some bl),.map (some bn),.slice pp np cp,.int .i64 (-1),.int .i64 (fault-1),.bool false,.int .i64 ((acts:Int)+1)] 112)]]) Tryz.results130 (hR:= ?_);exact⟨rfl,rfl⟩)
 ·rw[if_neg h0]
  refine Ct.intro Tryz.func130 rfl Tryz.ntmps130 (nle rfl) fun w0=> ?_;dsimp only[argSlots,Nat.reduceAdd]
  repeat(refine st ?_;intros)
  (refine Dn.post (Hr:=[[(bd,row [.int .i64 (size:Int),.int .i64 (blocks:Int),.map (some bl),.map (some bn),.slice pp np cp,.int .i64 (-1),.int .i64 fault,.bool false,.int .i64 ((acts:Int)+1)] 112)]]) Tryz.results130 (hR:= ?_);exact⟨rfl,rfl⟩)
end
theorem DeviceNew_ct (size blocks:Nat) (hs:8≤size∧size≤256) (hb:blocks≤1000000):Ct Tryz.prog 34 [.int .i64 (size:Int),.int .i64 (blocks:Int)] [] fun v H'=>
  ∃bd bl bn,v= .tuple #[.pointer (some ⟨bd,0,none⟩),.int .i64 0]∧H'=[[(bd,row (dvCells size blocks bl bn none 0 0 (-1) 0) 112)],[(bn,.map #[] 0)]]:=by
 refine Ct.intro Tryz.func34 rfl Tryz.ntmps34 (nle rfl) fun w0=> ?_;dsimp only[argSlots,Nat.reduceAdd]
 repeat(refine st ?_;intros)
 rename_i bl bn bd
 (refine Dn.post (Hr:=[[(bd,row (dvCells size blocks bl bn none 0 0 (-1) 0) 112)],[(bn,.map #[] 0)]]) Tryz.results34 (hR:= ?_);exact⟨bd,bl,bn,rfl,rfl⟩)
structure Db where
 key:Nat
 p:Option Addr
 cap:Nat
 ws:List Int
 born:Nat
 ch:Chunk
def Db.ent (size:Nat) (e:Db):Ent Int:=⟨(e.key:Int),.slice e.p size e.cap,e.born⟩
def Db.ok (size:Nat) (e:Db):Prop:=Vec 125 1 e.p size e.cap (wcells e.ws) e.ch
def dkOf:List Db→Nat→Option (List Int)
 |[],_=>none
 |e::es,i=>if e.key=i then some e.ws else dkOf es i
def dkSet (d:Nat→Option (List Int)) (i:Nat) (ws:List Int):Nat→Option (List Int):=fun j=>if j=i then some ws else d j
def chs (es:List Db):Chunk:=(es.map (·.ch)).flatten
theorem find_db (size i:Nat):∀(es:List Db) (j:Nat),findE (i:Int) (es.map (Db.ent size)) j=none∧dkOf es i=none∨
  ∃l1 e l2,es=l1++e::l2∧e.key=i∧dkOf es i=some e.ws∧findE (i:Int) (es.map (Db.ent size)) j=some (j+l1.length,.slice e.p size e.cap)∧∀x,(∀k,dkOf (l1++x::l2) k=if x.key=i∧k=i then some x.ws else if x.key=i then dkOf es k else dkOf (l1++x::l2) k)
 |[],_=> .inl ⟨rfl,rfl⟩
 |e::es,j=>by
  by_cases h:e.key=i
  ·refine .inr ⟨[],e,es,rfl,h,by simp[dkOf,h],?_,fun x k=> ?_⟩
   ·simp[findE,Db.ent,h]
   ·by_cases hx:x.key=i
    ·by_cases hk:k=i
     ·simp[dkOf,hx,hk]
     ·have:¬i=k:=fun e=>hk e.symm
      simp[dkOf,hx,hk,h,this]
    ·simp[hx]
  ·have hne:¬((i:Int)=(e.key:Int)):=by omega
   rcases find_db size i es (j+1) with⟨h1,h2⟩|⟨l1,e',l2,h1,h2,h3,h4,h5⟩
   ·refine .inl ⟨?_,?_⟩
    ·simp only[List.map_cons,findE]
     have hne':¬((i:Int)=(Db.ent size e).key):=hne
     rw[if_neg hne'];exact h1
    ·simp[dkOf,h,h2]
   ·refine .inr ⟨e::l1,e',l2,by rw[h1];rfl,h2,by simp only[dkOf,if_neg h,h3],?_,fun x k=> ?_⟩
    ·simp only[List.map_cons,findE]
     have hne':¬((i:Int)=(Db.ent size e).key):=hne
     rw[if_neg hne']
     simp only[List.length_cons]
     rw[h4,Nat.add_assoc,Nat.add_comm 1]
    ·have:=h5 x k
     simp only[List.cons_append,dkOf]
     by_cases hk:e.key=k
     ·have hki:¬k=i:=fun hh=>h (hk.trans hh)
      simp[hk,hki]
     ·simp only[if_neg hk]
      exact this
theorem set_db (size i:Nat) (p:Option Addr) (cap:Nat) (ws:List Int) (ch:Chunk) (ck:Nat) (es:List Db):∃es2 ck2 old born,
  setE (i:Int) (.slice p size cap) (es.map (Db.ent size)) ck=(es2.map (Db.ent size),ck2)∧(∀k,dkOf es2 k=dkSet (dkOf es) i ws k)∧
  (chs es++ch).Perm (chs es2++old)∧∀e∈es2,e∈es∨e=⟨i,p,cap,ws,born,ch⟩:=by
 rcases find_db size i es 0 with⟨h1,h2⟩|⟨l1,e,l2,rfl,h2,h3,h4,h5⟩
 ·refine⟨es++[⟨i,p,cap,ws,ck,ch⟩],ck+1,[],ck,?_,?_,?_,?_⟩
  ·simp[setE,h1,Db.ent]
  ·intro k
   have:∀(es:List Db),dkOf es i=none→dkOf (es++[⟨i,p,cap,ws,ck,ch⟩]) k=dkSet (dkOf es) i ws k:=by
    intro es
    induction es with
    |nil=>
     intro _
     by_cases hk:k=i
     ·simp[dkOf,dkSet,hk]
     ·have:¬i=k:=fun e=>hk e.symm
      simp[dkOf,dkSet,hk,this]
    |cons e es ih=>
     intro h
     simp only[dkOf] at h
     split at h
     ·cases h
     ·rename_i hn
      have:=ih h
      simp only[List.cons_append,dkOf,dkSet] at this⊢
      split
      ·rename_i hk
       rw[if_neg (fun hh=>hn (hk.trans hh))]
      ·exact this
   exact this es h2
  ·simp[chs]
  ·intro e he
   rcases List.mem_append.1 he with h|h
   ·exact .inl h
   ·exact .inr (by simpa using h)
 ·refine⟨l1++⟨i,p,cap,ws,e.born,ch⟩::l2,ck,e.ch,e.born,?_,?_,?_,?_⟩
  ·simp only[setE,h4,Nat.zero_add]
   refine Prod.ext ?_ rfl
   simp only[List.map_append,List.map_cons]
   have hm:∀(l1:List (Ent Int)) (x:Ent Int) (l2:List (Ent Int)) (f:Ent Int→Ent Int),(l1++x::l2).modify l1.length f=l1++f x::l2:=by
    intro l1 x l2 f
    induction l1 with
    |nil=>rfl
    |cons y l1 ih=>simp[ih]
   have:=hm (l1.map (Db.ent size)) (e.ent size) (l2.map (Db.ent size)) fun e=>{e with val:= .slice p size cap}
   rw[List.length_map] at this
   rw[this]
   simp[Db.ent,h2]
  ·intro k
   rw[h5 ⟨i,p,cap,ws,e.born,ch⟩ k]
   simp[dkSet]
  ·simp only[chs,List.map_append,List.map_cons,List.flatten_append,List.flatten_cons,List.append_assoc]
   refine List.Perm.append_left _ ?_
   refine List.perm_append_comm.trans ?_
   rw[←List.append_assoc]
   exact List.Perm.append_right _ List.perm_append_comm
  ·intro x hx
   rcases List.mem_append.1 hx with h|h
   ·exact .inl (List.mem_append_left _ h)
   ·rcases List.mem_cons.1 h with rfl|h
    ·exact .inr rfl
    ·exact .inl (List.mem_append_right _ (List.mem_cons_of_mem _ h))
structure Dv where
 size:Nat
 blocks:Nat
 disk:Nat→Option (List Int)
 fault:Int
 acts:Nat
def IsDev (bd:Nat) (δ:Dv) (c:Chunk):Prop:=
 ∃bl bn pp np cp xs pc es ck junk,c=(bd,row (dvCells δ.size δ.blocks bl bn pp np cp δ.fault δ.acts) 112)::(bn,mrow ikey (es.map (Db.ent δ.size)) ck)::(pc++(chs es++junk))∧
  Vec 194 2 pp np cp xs pc∧(∀e∈es,e.ok δ.size)∧(∀i,dkOf es i=δ.disk i)∧np≤δ.acts∧(8≤δ.size∧δ.size≤256)∧δ.blocks≤1000000∧(-1≤δ.fault∧δ.fault≤1000000000)
theorem Size_ct (bd:Nat) (δ:Dv) (c:Chunk) (h:IsDev bd δ c):CtQ Tryz.prog 66 [.pointer (some ⟨bd,0,none⟩)] [c] (.int .i64 (δ.size:Int)):=by
 obtain⟨bl,bn,pp,np,cp,xs,pc,es,ck,junk,rfl,_⟩:=h
 refine CtQ.conv (H2:=[[(bd,row (dvCells δ.size δ.blocks bl bn pp np cp δ.fault δ.acts) 112)],(bn,mrow ikey (es.map (Db.ent δ.size)) ck)::(pc++(chs es++junk))]) ?_ rfl
 unfold dvCells
 refine Ct.intro Tryz.func66 rfl Tryz.ntmps66 (nle rfl) fun w0=> ?_;dsimp only[argSlots,Nat.reduceAdd]
 repeat(refine st ?_;intros)
 (refine Dn.post (Hr:=[[(bd,row [.int .i64 (δ.size:Int),.int .i64 (δ.blocks:Int),.map (some bl),.map (some bn),.slice pp np cp,.int .i64 (-1),.int .i64 δ.fault,.bool false,.int .i64 (δ.acts:Int)] 112)],(bn,mrow ikey (es.map (Db.ent δ.size)) ck)::(pc++(chs es++junk))]) Tryz.results66 (hR:= ?_);exact⟨rfl,rfl⟩)
def Dv.acted (δ:Dv):Dv:={δ with fault:=less δ.fault,acts:=δ.acts+1}
def Dv.failed (δ:Dv):Dv:={δ with fault:= -1}
def Dv.wrote (δ:Dv) (i:Nat) (ws:List Int):Dv:={δ with fault:=less δ.fault,acts:=δ.acts+1,disk:=dkSet δ.disk i ws}
theorem less_range {f:Int} (h: -1≤f∧f≤1000000000): -1≤less f∧less f≤1000000000:=by unfold less;split<;>omega
theorem Write_ok (bd:Nat) (δ:Dv) (c:Chunk) (h:IsDev bd δ c) (i:Nat) (hi:i<δ.blocks) (hf:δ.fault≠0) (ha:δ.acts≤1000000000000) (b off cap:Nat) (cs:List Value) (E:Nat) (fz:Nat×Nat) (ws:List Int)
  (hws:(cs.drop off).take δ.size=wcells ws) (hl:ws.length=δ.size):
  Ct Tryz.prog 110 [.pointer (some ⟨bd,0,none⟩),.int .i64 (i:Int),.slice (some ⟨b,off,none⟩) δ.size cap] [c,[(b,rowf cs E fz)]] fun v H'=>
   ∃c',v= .int .i64 0∧IsDev bd (δ.wrote i ws) c'∧H'=[c',[(b,rowf cs E fz)]]:=by
 obtain⟨bl,bn,pp,np,cp,xs,pc,es,ck,junk,rfl,hV,hes,hdk,hnp,hsz,hbk,hfr⟩:=h
 have hD:=Down_cells bd δ.size δ.blocks bl bn pp np cp δ.fault δ.acts
 have hA:=act_ok bd δ.size δ.blocks bl bn pp np cp δ.fault δ.acts hf hfr ha
 have hC:=CloneW_ct b off δ.size cap cs E fz ws (by omega) (by omega) hws hl
 unfold dvCells at hD hA
 refine Ct.conv (H2:=[[(bd,row (dvCells δ.size δ.blocks bl bn pp np cp δ.fault δ.acts) 112)],[(bn,mrow ikey (es.map (Db.ent δ.size)) ck)],pc,chs es++junk,[(b,rowf cs E fz)]])
  (R2:=fun v H'=>v= .int .i64 0∧∃p cap' c' es2 ck2 p' cp' pc',H'=[[(bd,row (dvCells δ.size δ.blocks bl bn p' (np+1) cp' (less δ.fault) (δ.acts+1)) 112)],[(bn,mrow ikey (es2.map (Db.ent δ.size)) ck2)],pc',chs es++junk,c',[(b,rowf cs E fz)]]∧
   Vec 125 1 p δ.size cap' (wcells ws) c'∧setE (i:Int) (.slice p δ.size cap') (es.map (Db.ent δ.size)) ck=(es2.map (Db.ent δ.size),ck2)∧(∀k,dkOf es2 k=dkSet (dkOf es) i ws k)∧(∃xs',Vec 194 2 p' (np+1) cp' xs' pc')∧
   (∃old born,(chs es++c').Perm (chs es2++old)∧∀e∈es2,e∈es∨e=⟨i,p,cap',ws,born,c'⟩)) ?_ (by simp) ?_
 ·unfold dvCells
  refine Ct.intro Tryz.func110 rfl Tryz.ntmps110 (nle rfl) fun w0=> ?_;dsimp only[argSlots,Nat.reduceAdd]
  repeat(first|(refine st ?_;intros)|(refine cq hD ?_)|(refine cq hC ?_)|(refine cq hA ?_))
  refine R.call (hct:=hA) (h:= ?_)
  rintro _ _ ⟨rfl,rfl⟩
  try dsimp only[List.cons_append,List.nil_append]
  repeat(first|(refine st ?_;intros)|(refine cq hD ?_)|(refine cq hC ?_)|(refine cq hA ?_))
  refine R.call (hct:=hC) (h:= ?_)
  rintro _ _ ⟨p,cap',c',rfl,hV1,rfl⟩
  try dsimp only[List.cons_append,List.nil_append]
  repeat(first|(refine st ?_;intros)|(refine cq hD ?_)|(refine cq hC ?_)|(refine cq hA ?_))
  obtain⟨es2,ck2,old,born,hset,hdk2,hperm,hmem⟩:=set_db δ.size i p cap' ws c' ck es
  apply R.mapUpdate (K:=Int) (mk:=ikey) (es:=es.map (Db.ent δ.size)) (ck:=ck) (key:=(i:Int)) (es':=es2.map (Db.ent δ.size)) (ck':=ck2)
  ·exact rfl
  ·repeat(first|exact Has.here|apply Has.there)
  ·exact rfl
  ·exact rfl
  ·exact KeyAsk.int rfl
  ·exact hset
  ·repeat(first|exact Upd.here|apply Upd.there)
  ·exact rfl
  repeat(first|(refine st ?_;intros)|(refine cq hD ?_)|(refine cq hC ?_)|(refine cq hA ?_))
  rename_i p' cp' pc' hV2
  (refine Dn.post (Hr:=[[(bd,row [.int .i64 (δ.size:Int),.int .i64 (δ.blocks:Int),.map (some bl),.map (some bn),.slice p' (np+1) cp',.int .i64 (-1),.int .i64 (less δ.fault),.bool false,.int .i64 ((δ.acts+1:Nat):Int)] 112)],[(bn,mrow ikey (es2.map (Db.ent δ.size)) ck2)],pc',chs es++junk,c',[(b,rowf cs E fz)]]) Tryz.results110 (hR:= ?_);
   exact⟨rfl,p,cap',c',es2,ck2,p',cp',pc',rfl,hV1,hset,hdk2,⟨_,hV2⟩,old,born,hperm,hmem⟩)
 ·rintro v H' ⟨rfl,p,cap',c',es2,ck2,p',cp',pc',rfl,hV1,hset,hdk2,⟨xs',hV2⟩,old,born,hperm,hmem⟩
  refine⟨_,⟨_,rfl,⟨bl,bn,p',np+1,cp',xs',pc',es2,ck2,old++junk,rfl,hV2,?_,?_,?_,hsz,hbk,less_range hfr⟩,rfl⟩,?_⟩
  ·intro e he
   rcases hmem e he with h|rfl
   ·exact hes e h
   ·exact hV1
  ·intro k
   rw[hdk2]
   simp only[Dv.wrote,dkSet,hdk]
  ·simp only[Dv.wrote];omega
  ·simp only[List.flatten_cons,List.flatten_nil,List.append_nil,List.cons_append,List.nil_append]
   refine List.Perm.cons _ (List.Perm.cons _ ?_)
   simp only[List.append_assoc]
   refine List.Perm.append_left _ ?_
   rw[←List.append_assoc,←List.append_assoc,←List.append_assoc,←List.append_assoc]
   refine List.Perm.append_right _ ?_
   refine List.Perm.trans ?_ (hperm.append_right junk)
   simp only[List.append_assoc]
   exact List.Perm.append_left _ List.perm_append_comm
theorem Write_fault (bd:Nat) (δ:Dv) (c:Chunk) (h:IsDev bd δ c) (i:Nat) (hi:i<δ.blocks) (hf:δ.fault=0) (b off cap:Nat) (cs:List Value) (E:Nat) (fz:Nat×Nat):
  Ct Tryz.prog 110 [.pointer (some ⟨bd,0,none⟩),.int .i64 (i:Int),.slice (some ⟨b,off,none⟩) δ.size cap] [c,[(b,rowf cs E fz)]] fun v H'=>
   ∃c',v= .int .i64 6∧IsDev bd δ.failed c'∧H'=[c',[(b,rowf cs E fz)]]:=by
 obtain⟨bl,bn,pp,np,cp,xs,pc,es,ck,junk,rfl,hV,hes,hdk,hnp,hsz,hbk,hfr⟩:=h
 have hD:=Down_cells bd δ.size δ.blocks bl bn pp np cp δ.fault δ.acts
 have hA:=act_fault bd δ.size δ.blocks bl bn pp np cp δ.acts
 rw[←hf] at hA
 unfold dvCells at hD hA
 refine Ct.conv (H2:=[[(bd,row (dvCells δ.size δ.blocks bl bn pp np cp δ.fault δ.acts) 112)],[(bn,mrow ikey (es.map (Db.ent δ.size)) ck)],pc,chs es++junk,[(b,rowf cs E fz)]])
  (R2:=fun v H'=>v= .int .i64 6∧H'=[[(bd,row (dvCells δ.size δ.blocks bl bn pp np cp (-1) δ.acts) 112)],[(bn,mrow ikey (es.map (Db.ent δ.size)) ck)],pc,chs es++junk,[(b,rowf cs E fz)]]) ?_ (by simp) ?_
 ·unfold dvCells
  refine Ct.intro Tryz.func110 rfl Tryz.ntmps110 (nle rfl) fun w0=> ?_;dsimp only[argSlots,Nat.reduceAdd]
  repeat(first|(refine st ?_;intros)|(refine cq hD ?_)|(refine cq hA ?_))
  refine R.call (hct:=hA) (h:= ?_)
  rintro _ _ ⟨rfl,rfl⟩
  try dsimp only[List.cons_append,List.nil_append]
  repeat(first|(refine st ?_;intros)|(refine cq hD ?_)|(refine cq hA ?_))
  (refine Dn.post (Hr:=[[(bd,row [.int .i64 (δ.size:Int),.int .i64 (δ.blocks:Int),.map (some bl),.map (some bn),.slice pp np cp,.int .i64 (-1),.int .i64 (-1),.bool false,.int .i64 (δ.acts:Int)] 112)],[(bn,mrow ikey (es.map (Db.ent δ.size)) ck)],pc,chs es++junk,[(b,rowf cs E fz)]]) Tryz.results110 (hR:= ?_);exact⟨rfl,rfl⟩)
 ·rintro v H' ⟨rfl,rfl⟩
  exact⟨_,⟨_,rfl,⟨bl,bn,pp,np,cp,xs,pc,es,ck,junk,rfl,hV,hes,hdk,hnp,hsz,hbk,(by decide:(-1:Int)≤-1∧(-1:Int)≤1000000000)⟩,rfl⟩,by simp[Dv.failed]⟩
theorem Read_fault (bd:Nat) (δ:Dv) (c:Chunk) (h:IsDev bd δ c) (i:Nat) (hi:i<δ.blocks) (hf:δ.fault=0):
  Ct Tryz.prog 115 [.pointer (some ⟨bd,0,none⟩),.int .i64 (i:Int)] [c] fun v H'=>
   ∃c',v= .tuple #[.slice none 0 0,.int .i64 6]∧IsDev bd δ.failed c'∧H'=[c']:=by
 obtain⟨bl,bn,pp,np,cp,xs,pc,es,ck,junk,rfl,hV,hes,hdk,hnp,hsz,hbk,hfr⟩:=h
 have hD:=Down_cells bd δ.size δ.blocks bl bn pp np cp δ.fault δ.acts
 have hA:=act_fault bd δ.size δ.blocks bl bn pp np cp δ.acts
 rw[←hf] at hA
 unfold dvCells at hD hA
 refine Ct.conv (H2:=[[(bd,row (dvCells δ.size δ.blocks bl bn pp np cp δ.fault δ.acts) 112)],[(bn,mrow ikey (es.map (Db.ent δ.size)) ck)],pc,chs es++junk])
  (R2:=fun v H'=>v= .tuple #[.slice none 0 0,.int .i64 6]∧H'=[[(bd,row (dvCells δ.size δ.blocks bl bn pp np cp (-1) δ.acts) 112)],[(bn,mrow ikey (es.map (Db.ent δ.size)) ck)],pc,chs es++junk]) ?_ (by simp) ?_
 ·unfold dvCells
  refine Ct.intro Tryz.func115 rfl Tryz.ntmps115 (nle rfl) fun w0=> ?_;dsimp only[argSlots,Nat.reduceAdd]
  repeat(first|(refine st ?_;intros)|(refine cq hD ?_)|(refine cq hA ?_))
  refine R.call (hct:=hA) (h:= ?_)
  rintro _ _ ⟨rfl,rfl⟩
  try dsimp only[List.cons_append,List.nil_append]
  repeat(first|(refine st ?_;intros)|(refine cq hD ?_)|(refine cq hA ?_))
  (refine Dn.post (Hr:=[[(bd,row [.int .i64 (δ.size:Int),.int .i64 (δ.blocks:Int),.map (some bl),.map (some bn),.slice pp np cp,.int .i64 (-1),.int .i64 (-1),.bool false,.int .i64 (δ.acts:Int)] 112)],[(bn,mrow ikey (es.map (Db.ent δ.size)) ck)],pc,chs es++junk]) Tryz.results115 (hR:= ?_);exact⟨rfl,rfl⟩)
 ·rintro v H' ⟨rfl,rfl⟩
  exact⟨_,⟨_,rfl,⟨bl,bn,pp,np,cp,xs,pc,es,ck,junk,rfl,hV,hes,hdk,hnp,hsz,hbk,(by decide:(-1:Int)≤-1∧(-1:Int)≤1000000000)⟩,rfl⟩,by simp[Dv.failed]⟩
theorem Read_ok (bd:Nat) (δ:Dv) (c:Chunk) (h:IsDev bd δ c) (i:Nat) (hi:i<δ.blocks) (hf:δ.fault≠0) (ha:δ.acts≤1000000000000) (ws:List Int) (hd:δ.disk i=some ws):
  Ct Tryz.prog 115 [.pointer (some ⟨bd,0,none⟩),.int .i64 (i:Int)] [c] fun v H'=>
   ∃c' p cap' c2,v= .tuple #[.slice p δ.size cap',.int .i64 0]∧Vec 125 1 p δ.size cap' (wcells ws) c2∧IsDev bd δ.acted c'∧H'=[c',c2]:=by
 obtain⟨bl,bn,pp,np,cp,xs,pc,es,ck,junk,rfl,hV,hes,hdk,hnp,hsz,hbk,hfr⟩:=h
 have hD:=Down_cells bd δ.size δ.blocks bl bn pp np cp δ.fault δ.acts
 have hA:=act_ok bd δ.size δ.blocks bl bn pp np cp δ.fault δ.acts hf hfr ha
 unfold dvCells at hD hA
 rcases find_db δ.size i es 0 with⟨h1,h2⟩|⟨l1,e,l2,he,h2,h3,h4,_⟩
 ·rw[hdk,hd] at h2;cases h2
 have hok:=hes e (by rw[he];simp)
 have hews:e.ws=ws:=by rw[hdk,hd] at h3;simpa using h3.symm
 obtain⟨hlen,hok2⟩:=hok
 rcases hok2 with⟨_,hz,_⟩|⟨be,rest,hp,hch,hcap,hmc,hcm⟩
 ·omega
 rw[hews] at hlen
 have hlen':ws.length=δ.size:=by simpa using hlen
 have hC:=CloneW_ct be 0 δ.size e.cap (wcells ws++rest) 125 (0,0) ws (by omega) (by omega) (by rw[List.drop_zero,List.take_append_of_le_length (by simp;omega),List.take_of_length_le (by simp;omega)]) hlen'
 have hchs:chs es=chs l1++([(be,row (wcells ws++rest) 125)]++chs l2):=by
  rw[he];simp[chs,hch,hews]
 rw[hp] at h4
 refine Ct.conv (H2:=[[(bd,row (dvCells δ.size δ.blocks bl bn pp np cp δ.fault δ.acts) 112)],[(bn,mrow ikey (es.map (Db.ent δ.size)) ck)],pc,chs l1,[(be,row (wcells ws++rest) 125)],chs l2,junk])
  (R2:=fun v H'=>∃p cap' c2,v= .tuple #[.slice p δ.size cap',.int .i64 0]∧Vec 125 1 p δ.size cap' (wcells ws) c2∧H'=[[(bd,row (dvCells δ.size δ.blocks bl bn pp np cp (less δ.fault) (δ.acts+1)) 112)],[(bn,mrow ikey (es.map (Db.ent δ.size)) ck)],pc,chs l1,[(be,row (wcells ws++rest) 125)],chs l2,junk,c2]) ?_ (by simp[hchs]) ?_
 ·unfold dvCells
  refine Ct.intro Tryz.func115 rfl Tryz.ntmps115 (nle rfl) fun w0=> ?_;dsimp only[argSlots,Nat.reduceAdd]
  repeat(first|(refine st ?_;intros)|(refine cq hD ?_)|(refine cq hA ?_))
  refine R.call (hct:=hA) (h:= ?_)
  rintro _ _ ⟨rfl,rfl⟩
  try dsimp only[List.cons_append,List.nil_append]
  repeat(first|(refine st ?_;intros)|(refine cq hD ?_)|(refine cq hA ?_))
  apply R.lookupT (K:=Int) (mk:=ikey) (key:=(i:Int))
  ·exact rfl
  ·repeat(first|exact Has.here|apply Has.there)
  ·exact rfl
  ·exact KeyAsk.int rfl
  ·exact h4
  ·exact rfl
  ·exact nle rfl
  repeat(first|(refine st ?_;intros)|(refine cq hD ?_)|(refine cq hA ?_))
  refine R.call (hct:=hC) (h:= ?_)
  rintro _ _ ⟨p,cap',c',rfl,hV1,rfl⟩
  try dsimp only[List.cons_append,List.nil_append]
  repeat(first|(refine st ?_;intros)|(refine cq hD ?_)|(refine cq hA ?_))
  (refine Dn.post (Hr:=[[(bd,row [.int .i64 (δ.size:Int),.int .i64 (δ.blocks:Int),.map (some bl),.map (some bn),.slice pp np cp,.int .i64 (-1),.int .i64 (less δ.fault),.bool false,.int .i64 ((δ.acts+1:Nat):Int)] 112)],[(bn,mrow ikey (es.map (Db.ent δ.size)) ck)],pc,chs l1,[(be,row (wcells ws++rest) 125)],chs l2,junk,c']) Tryz.results115 (hR:= ?_);
   exact⟨p,cap',c',rfl,hV1,rfl⟩)
 ·rintro v H' ⟨p,cap',c2,rfl,hV1,rfl⟩
  refine⟨_,⟨_,p,cap',c2,rfl,hV1,⟨bl,bn,pp,np,cp,xs,pc,es,ck,junk,rfl,hV,hes,hdk,by simp only[Dv.acted];omega,hsz,hbk,less_range hfr⟩,rfl⟩,?_⟩
  simp[Dv.acted,hchs]
structure Gr where
 bb:Nat
 br:Nat
 n:Nat
 born:Nat
def Gr.ent (g:Gr):Ent Nat:=⟨g.bb,.int .i64 (g.n:Int),g.born⟩
def Gr.obj (g:Gr):Nat×Obj:=(g.bb,row [.slice (some ⟨g.br,0,none⟩) g.n g.n] 150)
structure Ar where
 room:Nat
 used:Nat
 peak:Nat
 gs:List Gr
def arCells (α:Ar) (bm:Nat):List Value:=[.int .i64 (α.room:Int),.int .i64 (α.used:Int),.int .i64 (α.peak:Int),.map (some bm)]
def IsArena (ba:Nat) (α:Ar) (c:Chunk):Prop:=
 ∃bm ck,c=(ba,row (arCells α bm) 90)::(bm,mrow pkey (α.gs.map Gr.ent) ck)::α.gs.map Gr.obj∧α.used≤α.room∧α.room≤1000000000∧α.peak≤α.room∧α.used≤α.peak∧α.used=(α.gs.map (·.n)).sum
theorem Room_ct (ba:Nat) (α:Ar) (c:Chunk) (h:IsArena ba α c):CtQ Tryz.prog 60 [.pointer (some ⟨ba,0,none⟩)] [c] (.int .i64 (α.room:Int)):=by
 obtain⟨bm,ck,rfl,_⟩:=h
 refine CtQ.conv (H2:=[[(ba,row (arCells α bm) 90)],(bm,mrow pkey (α.gs.map Gr.ent) ck)::α.gs.map Gr.obj]) ?_ rfl
 unfold arCells
 refine Ct.intro Tryz.func60 rfl Tryz.ntmps60 (nle rfl) fun w0=> ?_;dsimp only[argSlots,Nat.reduceAdd]
 repeat(refine st ?_;intros)
 (refine Dn.post (Hr:=[[(ba,row [.int .i64 (α.room:Int),.int .i64 (α.used:Int),.int .i64 (α.peak:Int),.map (some bm)] 90)],(bm,mrow pkey (α.gs.map Gr.ent) ck)::α.gs.map Gr.obj]) Tryz.results60 (hR:= ?_);exact⟨rfl,rfl⟩)
theorem Used_ct (ba:Nat) (α:Ar) (c:Chunk) (h:IsArena ba α c):CtQ Tryz.prog 18 [.pointer (some ⟨ba,0,none⟩)] [c] (.int .i64 (α.used:Int)):=by
 obtain⟨bm,ck,rfl,_⟩:=h
 refine CtQ.conv (H2:=[[(ba,row (arCells α bm) 90)],(bm,mrow pkey (α.gs.map Gr.ent) ck)::α.gs.map Gr.obj]) ?_ rfl
 unfold arCells
 refine Ct.intro Tryz.func18 rfl Tryz.ntmps18 (nle rfl) fun w0=> ?_;dsimp only[argSlots,Nat.reduceAdd]
 repeat(refine st ?_;intros)
 (refine Dn.post (Hr:=[[(ba,row [.int .i64 (α.room:Int),.int .i64 (α.used:Int),.int .i64 (α.peak:Int),.map (some bm)] 90)],(bm,mrow pkey (α.gs.map Gr.ent) ck)::α.gs.map Gr.obj]) Tryz.results18 (hR:= ?_);exact⟨rfl,rfl⟩)
theorem Left_ct (ba:Nat) (α:Ar) (c:Chunk) (h:IsArena ba α c):CtQ Tryz.prog 65 [.pointer (some ⟨ba,0,none⟩)] [c] (.int .i64 ((α.room:Int)-(α.used:Int))):=by
 have hR:=Room_ct ba α c h
 have hU:=Used_ct ba α c h
 obtain⟨bm,ck,_,h1,h2,_⟩:=h
 refine Ct.intro Tryz.func65 rfl Tryz.ntmps65 (nle rfl) fun w0=> ?_;dsimp only[argSlots,Nat.reduceAdd]
 repeat(first|(refine st ?_;intros)|(refine cq hR ?_)|(refine cq hU ?_))
 (refine Dn.post (Hr:=[c]) Tryz.results65 (hR:= ?_);exact⟨rfl,rfl⟩)
theorem Grant_full (ba:Nat) (α:Ar) (c:Chunk) (h:IsArena ba α c) (n:Int) (hn:0≤n) (hr:(α.room:Int)-(α.used:Int)<n):CtQ Tryz.prog 78 [.pointer (some ⟨ba,0,none⟩),.int .i64 n] [c] (.tuple #[.pointer none,.int .i64 7]):=by
 obtain⟨bm,ck,rfl,h1,h2,h3,h4,h5⟩:=h
 refine CtQ.conv (H2:=[[(ba,row (arCells α bm) 90)],(bm,mrow pkey (α.gs.map Gr.ent) ck)::α.gs.map Gr.obj]) ?_ rfl
 unfold arCells
 refine Ct.intro Tryz.func78 rfl Tryz.ntmps78 (nle rfl) fun w0=> ?_;dsimp only[argSlots,Nat.reduceAdd]
 repeat(first|(refine st ?_;intros)|refine G.draw [] (h:= ?_))
 (refine Dn.post (Hr:=[[(ba,row [.int .i64 (α.room:Int),.int .i64 (α.used:Int),.int .i64 (α.peak:Int),.map (some bm)] 90)],(bm,mrow pkey (α.gs.map Gr.ent) ck)::α.gs.map Gr.obj]) Tryz.results78 (hR:= ?_);exact⟨rfl,rfl⟩)
def Ar.grant (α:Ar) (g:Gr):Ar:={room:=α.room,used:=α.used+g.n,peak:=max α.peak (α.used+g.n),gs:=α.gs++[g]}
theorem findE_none {k:Nat}:∀(es:List (Ent Nat)) (i:Nat),(∀e∈es,e.key≠k)→findE k es i=none
 |[],_,_=>rfl
 |e::es,i,h=>by
  unfold findE
  rw[if_neg (fun he=>h e List.mem_cons_self he.symm)]
  exact findE_none es (i+1) fun e he=>h e (List.mem_cons_of_mem _ he)
theorem Grant_ct (ba:Nat) (α:Ar) (c:Chunk) (h:IsArena ba α c) (n:Nat) (hn:n≤α.room-α.used):Ct Tryz.prog 78 [.pointer (some ⟨ba,0,none⟩),.int .i64 (n:Int)] [c] fun v H'=>
  ∃g:Gr,∃c',g.n=n∧v= .tuple #[.pointer (some ⟨g.bb,0,none⟩),.int .i64 0]∧IsArena ba (α.grant g) c'∧H'=[c',[(g.br,row (zrep n [.int .u64 0]) 125)]]:=by
 obtain⟨bm,ck,rfl,h1,h2,h3,h4,h5⟩:=h
 refine Ct.conv (H2:=[[(ba,row (arCells α bm) 90)],[(bm,mrow pkey (α.gs.map Gr.ent) ck)],α.gs.map Gr.obj]) (R2:=fun v H'=>∃bb br:Nat,v= .tuple #[.pointer (some ⟨bb,0,none⟩),.int .i64 0]∧
  H'=[[(ba,row (arCells (α.grant ⟨bb,br,n,ck⟩) bm) 90)],[(bm,mrow pkey (α.gs.map Gr.ent++[⟨bb,.int .i64 (n:Int),ck⟩]) (ck+1))],α.gs.map Gr.obj,[(bb,row [.slice (some ⟨br,0,none⟩) n n] 150)],[(br,row (zrep n [.int .u64 0]) 125)]]) ?_ (by simp) ?_
 ·unfold arCells
  refine Ct.intro Tryz.func78 rfl Tryz.ntmps78 (nle rfl) fun w0=> ?_;dsimp only[argSlots,Nat.reduceAdd]
  repeat(first|(refine st ?_;intros)|refine G.draw [] (h:= ?_))
  rename_i br bb
  apply R1.nodup
  ·exact rfl
  intro hnd
  have hfresh:∀e∈α.gs.map Gr.ent,e.key≠bb:=by
   intro e he
   obtain⟨g,hg,rfl⟩:=List.mem_map.1 he
   simp only[keys,List.flatten_cons,List.flatten_nil,List.append_nil,List.cons_append,List.nil_append,List.map_cons,List.nodup_cons,List.mem_cons,List.mem_map,not_or] at hnd
   intro heq
   exact hnd.1.2.2.2 ⟨Gr.obj g,⟨g,hg,rfl⟩,heq⟩
  apply R.mapUpdate (K:=Nat) (mk:=pkey) (es:=α.gs.map Gr.ent) (ck:=ck) (key:=bb) (es':=α.gs.map Gr.ent++[⟨bb,.int .i64 (n:Int),ck⟩]) (ck':=ck+1)
  ·exact rfl
  ·repeat(first|exact Has.here|apply Has.there)
  ·exact rfl
  ·exact rfl
  ·refine KeyAsk.ptr ⟨_,_,Has.here⟩ fun e he=> ?_
   obtain⟨g,hg,rfl⟩:=List.mem_map.1 he
   refine⟨[.slice (some ⟨g.br,0,none⟩) g.n g.n],150,?_⟩
   apply Has.there;apply Has.there;apply Has.there;apply Has.there
   exact Has.in_ (List.mem_map.2 ⟨g,hg,rfl⟩)
  ·unfold setE
   rw[findE_none _ 0 hfresh]
  ·repeat(first|exact Upd.here|apply Upd.there)
  ·exact rfl
  repeat(first|(refine st ?_;intros)|refine G.draw [] (h:= ?_))
  (refine Dn.post (Hr:=[[(ba,row [.int .i64 (α.room:Int),.int .i64 ((α.used:Int)+(n:Int)),.int .i64 (max (α.peak:Int) ((α.used:Int)+(n:Int))),.map (some bm)] 90)],[(bm,mrow pkey (α.gs.map Gr.ent++[⟨bb,.int .i64 (n:Int),ck⟩]) (ck+1))],α.gs.map Gr.obj,[(bb,row [.slice (some ⟨br,0,none⟩) n n] 150)],[(br,row (zrep n [.int .u64 0]) 125)]]) Tryz.results78 (hR:= ?_);refine⟨bb,br,rfl,?_⟩)
  have e1:((α.grant ⟨bb,br,n,ck⟩).used:Int)=(α.used:Int)+(n:Int):=by simp[Ar.grant]
  have e2:((α.grant ⟨bb,br,n,ck⟩).peak:Int)=max (α.peak:Int) ((α.used:Int)+(n:Int)):=by simp only[Ar.grant];omega
  rw[e1,e2]
  rfl
 ·rintro v H' ⟨bb,br,rfl,rfl⟩
  refine⟨_,⟨⟨bb,br,n,ck⟩,_,rfl,rfl,⟨bm,ck+1,rfl,?_,?_,?_,?_,?_⟩,rfl⟩,?_⟩
  ·simp only[Ar.grant];omega
  ·simp only[Ar.grant];omega
  ·simp only[Ar.grant];omega
  ·simp only[Ar.grant];omega
  ·simp only[Ar.grant,List.map_append,List.sum_append];simp[h5]
  ·simp[Ar.grant,Gr.ent,Gr.obj]
theorem findE_mid {k:Nat} {g:Ent Nat} (hk:g.key=k):∀(es:List (Ent Nat)) (r:List (Ent Nat)) (i:Nat),(∀e∈es,e.key≠k)→findE k (es++g::r) i=some (i+es.length,g.val)
 |[],r,i,_=>by simp[findE,hk]
 |e::es,r,i,h=>by
  rw[List.cons_append,findE,if_neg (fun he=>h e List.mem_cons_self he.symm),findE_mid hk es r (i+1) fun e he=>h e (List.mem_cons_of_mem _ he)]
  simp;omega
def Ar.release (α:Ar) (g:Gr) (gs:List Gr):Ar:={room:=α.room,used:=α.used-g.n,peak:=α.peak,gs:=gs}
theorem Release_cb (ba:Nat) (α:Ar) (c:Chunk) (h:IsArena ba α c) (l1 l2:List Gr) (g:Gr) (hg:α.gs=l1++g::l2):Cb Tryz.prog 81 [.pointer (some ⟨ba,0,none⟩),.pointer (some ⟨g.bb,0,none⟩)] [c] fun v H'=>
  ∃c',v= .bool true∧IsArena ba (α.release g (l1++l2)) c'∧H'=[c']:=by
 obtain⟨bm,ck,rfl,h1,h2,h3,h4,h5⟩:=h
 rw[hg] at h5
 simp only[List.map_append,List.map_cons,List.sum_append,List.sum_cons] at h5
 refine Cb.conv (H2:=[[(ba,row (arCells α bm) 90)],[(bm,mrow pkey (l1.map Gr.ent++g.ent::l2.map Gr.ent) ck)],l1.map Gr.obj,[g.obj],l2.map Gr.obj]) (R2:=fun v H'=>v= .bool true∧
  H'=[[(ba,row (arCells (α.release g (l1++l2)) bm) 90)],[(bm,mrow pkey (l1.map Gr.ent++l2.map Gr.ent) ck)],l1.map Gr.obj,l2.map Gr.obj]) ?_ (List.Perm.of_eq (by simp[hg])) ?_
 ·unfold arCells
  obtain⟨bb,br,n,born⟩:=g
  dsimp only at h5
  simp only[Gr.ent,Gr.obj]
  refine Cb.intro Tryz.func81 rfl Tryz.ntmps81 (nle rfl) fun w0=> ?_;dsimp only[argSlots,Nat.reduceAdd]
  repeat(refine st ?_;intros)
  have ask:(keys [[(ba,row [.int .i64 (α.room:Int),.int .i64 (α.used:Int),.int .i64 (α.peak:Int),.map (some bm)] 90)],[(bm,mrow pkey (l1.map Gr.ent++⟨bb,.int .i64 (n:Int),born⟩::l2.map Gr.ent) ck)],l1.map Gr.obj,[(bb,row [.slice (some ⟨br,0,none⟩) n n] 150)],l2.map Gr.obj]).Nodup→∀e∈l1.map Gr.ent,e.key≠bb:=by
   intro hnd e he heq
   obtain⟨g,hg,rfl⟩:=List.mem_map.1 he
   simp only[keys,List.flatten_cons,List.flatten_nil,List.append_nil,List.cons_append,List.nil_append,List.map_cons,List.map_append,List.nodup_cons,List.nodup_append] at hnd
   exact hnd.2.2.2.2 g.bb (List.mem_map.2 ⟨_,List.mem_map.2 ⟨g,hg,rfl⟩,rfl⟩) bb List.mem_cons_self heq
  have asks:∀w0 S,KeyAsk Tryz.prog w0 S [[(ba,row [.int .i64 (α.room:Int),.int .i64 (α.used:Int),.int .i64 (α.peak:Int),.map (some bm)] 90)],[(bm,mrow pkey (l1.map Gr.ent++⟨bb,.int .i64 (n:Int),born⟩::l2.map Gr.ent) ck)],l1.map Gr.obj,[(bb,row [.slice (some ⟨br,0,none⟩) n n] 150)],l2.map Gr.obj] 137 pkey bb (l1.map Gr.ent++⟨bb,.int .i64 (n:Int),born⟩::l2.map Gr.ent):=by
   intro w0 S
   refine KeyAsk.ptr ⟨_,_,Has.there (Has.there (Has.there Has.here))⟩ fun e he=> ?_
   rcases List.mem_append.1 he with he|he
   ·obtain⟨g,hg,rfl⟩:=List.mem_map.1 he
    exact⟨[.slice (some ⟨g.br,0,none⟩) g.n g.n],150,Has.there (Has.there (Has.in_ (List.mem_map.2 ⟨g,hg,rfl⟩)))⟩
   ·rcases List.mem_cons.1 he with rfl|he
    ·exact⟨_,_,Has.there (Has.there (Has.there Has.here))⟩
    ·obtain⟨g,hg,rfl⟩:=List.mem_map.1 he
     exact⟨[.slice (some ⟨g.br,0,none⟩) g.n g.n],150,Has.there (Has.there (Has.there (Has.there (Has.in_ (List.mem_map.2 ⟨g,hg,rfl⟩)))))⟩
  apply R1.nodup
  ·exact rfl
  intro hnd
  have hfind:=findE_mid (k:=bb) (g:=⟨bb,.int .i64 (n:Int),born⟩) rfl (l1.map Gr.ent) (l2.map Gr.ent) 0 (ask hnd)
  dsimp only at hfind
  have hdel:delE bb (l1.map Gr.ent++⟨bb,.int .i64 (n:Int),born⟩::l2.map Gr.ent)=l1.map Gr.ent++l2.map Gr.ent:=by
   unfold delE
   rw[hfind]
   simp only[Nat.zero_add,List.length_map]
   rw[List.eraseIdx_append_of_length_le (by simp)]
   simp
  apply R.lookupT (K:=Nat) (mk:=pkey) (key:=bb)
  ·exact rfl
  ·repeat(first|exact Has.here|apply Has.there)
  ·exact rfl
  ·exact asks _ _
  ·exact hfind
  ·exact rfl
  ·exact nle rfl
  repeat(refine st ?_;intros)
  apply R.delete (K:=Nat) (mk:=pkey) (key:=bb)
  ·exact rfl
  ·repeat(first|exact Has.here|apply Has.there)
  ·exact rfl
  ·exact asks _ _
  ·exact hdel
  ·repeat(first|exact Upd.here|apply Upd.there)
  ·exact rfl
  repeat(refine st ?_;intros)
  (refine Dn.post (Hr:=[[(ba,row [.int .i64 (α.room:Int),.int .i64 ((α.used:Int)-(n:Int)),.int .i64 (α.peak:Int),.map (some bm)] 90)],[(bm,mrow pkey (l1.map Gr.ent++l2.map Gr.ent) ck)],l1.map Gr.obj,l2.map Gr.obj]) Tryz.results81 (hR:= ?_);refine⟨rfl,?_⟩)
  have e1:((α.release ⟨bb,br,n,born⟩ (l1++l2)).used:Int)=(α.used:Int)-(n:Int):=by simp only[Ar.release];omega
  rw[e1]
  rfl
 ·rintro v H' ⟨rfl,rfl⟩
  refine⟨_,⟨_,rfl,⟨bm,ck,rfl,?_,?_,?_,?_,?_⟩,rfl⟩,?_⟩
  ·simp only[Ar.release];omega
  ·simp only[Ar.release];omega
  ·simp only[Ar.release];omega
  ·simp only[Ar.release];omega
  ·simp only[Ar.release,List.map_append,List.sum_append];omega
  ·simp[Ar.release]
theorem ArenaNew_ct (room:Nat) (hr:room≤1000000000):Ct Tryz.prog 36 [.int .i64 (room:Int)] [] fun v H'=>
  ∃ba c',v= .pointer (some ⟨ba,0,none⟩)∧IsArena ba ⟨room,0,0,[]⟩ c'∧H'=[c']:=by
 refine Ct.conv (H2:=[]) (R2:=fun v H'=>∃ba bm,v= .pointer (some ⟨ba,0,none⟩)∧H'=[[(ba,row [.int .i64 (room:Int),.int .i64 0,.int .i64 0,.map (some bm)] 90)],[(bm,mrow pkey [] 0)]]) ?_ rfl ?_
 ·have hmax:max (room:Int) 0=(room:Int):=by omega
  refine Ct.intro Tryz.func36 rfl Tryz.ntmps36 (nle rfl) fun w0=> ?_;dsimp only[argSlots,Nat.reduceAdd]
  repeat(refine st ?_;intros)
  rename_i bm ba
  (refine Dn.post (Hr:=[[(ba,row [.int .i64 (max (room:Int) 0),.int .i64 0,.int .i64 0,.map (some bm)] 90)],[(bm,mrow pkey [] 0)]]) Tryz.results36 (hR:= ?_);exact⟨ba,bm,rfl,by rw[hmax]⟩)
 ·rintro v H' ⟨ba,bm,rfl,rfl⟩
  exact⟨_,⟨ba,_,rfl,⟨bm,0,rfl,by dsimp only;omega,hr,by dsimp only;omega,by dsimp only;omega,rfl⟩,rfl⟩,by simp[arCells]⟩
end Go.Proofs.YtjoicjgfgkpdjaaGreat
namespace Go.Spc
abbrev Ext:=Nat×Nat
def fok (n:Nat) (l:List Ext):Prop:=(∀e∈l,1≤e.2∧e.1+e.2≤n)∧l.Pairwise fun a b=>a.1+a.2<b.1
def inF (l:List Ext) (x:Nat):Prop:=∃e∈l,e.1≤x∧x<e.1+e.2
@[simp] theorem inF_nil (x:Nat):inF [] x↔False:=by simp[inF]
@[simp] theorem inF_cons (e:Ext) (l:List Ext) (x:Nat):inF (e::l) x↔(e.1≤x∧x<e.1+e.2)∨inF l x:=by simp[inF]
@[simp] theorem inF_app (a b:List Ext) (x:Nat):inF (a++b) x↔inF a x∨inF b x:=by
 simp only[inF,List.mem_append]
 constructor
 ·rintro⟨e,h|h,h2⟩
  ·exact .inl ⟨e,h,h2⟩
  ·exact .inr ⟨e,h,h2⟩
 ·rintro(⟨e,h,h2⟩|⟨e,h,h2⟩)
  ·exact⟨e,.inl h,h2⟩
  ·exact⟨e,.inr h,h2⟩
theorem fok_app {n:Nat} {a b:List Ext}:fok n (a++b)↔fok n a∧fok n b∧∀x∈a,∀y∈b,x.1+x.2<y.1:=by
 unfold fok
 rw[List.pairwise_append]
 constructor
 ·rintro⟨h1,h2,h3,h4⟩
  exact⟨⟨fun e he=>h1 e (List.mem_append_left _ he),h2⟩,⟨fun e he=>h1 e (List.mem_append_right _ he),h3⟩,h4⟩
 ·rintro⟨⟨h1,h2⟩,⟨h3,h4⟩,h5⟩
  refine⟨fun e he=> ?_,h2,h4,h5⟩
  rcases List.mem_append.1 he with h|h
  ·exact h1 e h
  ·exact h3 e h
theorem fok_cons {n:Nat} {e:Ext} {b:List Ext}:fok n (e::b)↔(1≤e.2∧e.1+e.2≤n)∧fok n b∧∀y∈b,e.1+e.2<y.1:=by
 unfold fok
 rw[List.pairwise_cons]
 simp only[List.mem_cons,forall_eq_or_imp]
 constructor
 ·rintro⟨⟨h1,h2⟩,h3,h4⟩
  exact⟨h1,⟨h2,h4⟩,h3⟩
 ·rintro⟨h1,⟨h2,h4⟩,h3⟩
  exact⟨⟨h1,h2⟩,h3,h4⟩
theorem fok_nil (n:Nat):fok n []:=⟨(by simp),List.Pairwise.nil⟩
theorem cut_at {n:Nat} (first:Nat):∀(l:List Ext),fok n l→∃A B,l=A++B∧(∀e∈A,e.1+e.2≤first)∧∀e∈B,first<e.1+e.2
 |[],_=>⟨[],[],rfl,by simp,by simp⟩
 |e::l,h=>by
  obtain⟨h1,h2,h3⟩:=fok_cons.1 h
  by_cases he:first<e.1+e.2
  ·refine⟨[],e::l,rfl,by simp,?_⟩
   intro y hy
   rcases List.mem_cons.1 hy with rfl|hy
   ·exact he
   ·have:=h3 y hy
    have:=h2.1 y hy
    omega
  ·obtain⟨A,B,rfl,hA,hB⟩:=cut_at first l h2
   refine⟨e::A,B,rfl,?_,hB⟩
   intro y hy
   rcases List.mem_cons.1 hy with rfl|hy
   ·omega
   ·exact hA y hy
theorem behind_free {first m:Nat} {e:Ext} {B:List Ext} (h1:first<e.1+e.2) (he:1≤e.2) (hd:∀x,first≤x→x<first+m→¬inF (e::B) x) (hm:1≤m):first+m≤e.1:=by
 by_cases hh:first+m≤e.1
 ·exact hh
 ·exfalso
  by_cases h2:e.1≤first
  ·exact hd first (Nat.le_refl _) (by omega) ((inF_cons ..).2 (.inl ⟨h2,h1⟩))
  ·exact hd e.1 (by omega) (by omega) ((inF_cons ..).2 (.inl ⟨Nat.le_refl _,by omega⟩))
def total (l:List Ext):Nat:=(l.map (·.2)).sum
@[simp] theorem total_app (a b:List Ext):total (a++b)=total a+total b:=by simp[total]
@[simp] theorem total_cons (e:Ext) (b:List Ext):total (e::b)=e.2+total b:=by simp[total]
@[simp] theorem total_nil:total []=0:=rfl
theorem first_fit (m:Nat):∀(l:List Ext),(∀e∈l,e.2<m)∨∃A e B,l=A++e::B∧m≤e.2∧∀x∈A,x.2<m
 |[]=> .inl (by simp)
 |e::l=>by
  by_cases he:m≤e.2
  ·exact .inr ⟨[],e,l,rfl,he,by simp⟩
  ·rcases first_fit m l with h|⟨A,x,B,rfl,h1,h2⟩
   ·left
    intro y hy
    rcases List.mem_cons.1 hy with rfl|hy
    ·omega
    ·exact h y hy
   ·right
    refine⟨e::A,x,B,rfl,h1,fun y hy=> ?_⟩
    rcases List.mem_cons.1 hy with rfl|hy
    ·omega
    ·exact h2 y hy
def big:List Ext→Nat
 |[]=>0
 |e::l=>max e.2 (big l)
theorem big_app (a b:List Ext):big (a++b)=max (big a) (big b):=by
 induction a with
 |nil=>simp[big]
 |cons e a ih=>simp only[List.cons_append,big,ih];omega
theorem le_big:∀{l:List Ext} {e:Ext},e∈l→e.2≤big l
 |x::l,e,h=>by
  rcases List.mem_cons.1 h with rfl|h
  ·simp only[big];omega
  ·have:=le_big h;simp only[big];omega
theorem big_mem:∀{l:List Ext},0<big l→∃e∈l,e.2=big l
 |x::l,h=>by
  simp only[big] at h⊢
  by_cases hh:big l≤x.2
  ·exact⟨x,List.mem_cons_self,by omega⟩
  ·obtain⟨e,he,h2⟩:=big_mem (l:=l) (by omega)
   exact⟨e,List.mem_cons_of_mem _ he,by omega⟩
end Go.Spc
