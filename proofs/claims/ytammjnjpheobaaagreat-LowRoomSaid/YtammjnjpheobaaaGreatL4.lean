/-
  Parts of the proof, put together (4). No condition.
-/
import Derived.Test.YtammjnjpheobaaaGreatL3
set_option linter.unusedVariables false
set_option linter.unusedSimpArgs false
set_option linter.unnecessarySimpa false
set_option maxHeartbeats 4000000
open Go.IntKind renaming wrap→AH
open Go.Proofs.Tryz renaming prog→AC
open Int renaming tdiv_eq_ediv_of_nonneg→CL,natCast_add→CY
open List renaming cons_append→AA,nil_append→AB,length_append→AF,mem_cons_self→AI,mem_cons_of_mem→AJ,getElem?_eq_some_iff→AK,length_cons→AL,mem_cons→AM,mem_append→AO,append_nil→AQ,append_assoc→AR,mem_map→AT,length_nil→AU,map_append→AV,flatten_cons→AW,length_map→AX,mem_singleton→AY,map_cons→A0,take_of_length_le→A4,flatten_nil→A8,pairwise_cons→BH,length_take→BK,replicate→BW,perm_middle→B0,perm_append_comm→CA,nodup_cons→CB,length_drop→CE,take_append_of_le_length→CK,sum_append→CT,drop_append_of_le_length→CX,drop_zero→C9,set_append_right→DW,append_of_mem→D3
open List.Perm renaming append_left→BJ,append_right→CZ
open Nat renaming reduceAdd→AD,le_refl→AG,zero_le→AS,mul_le_mul_right→A5,le_trans→BA,succ_mul→BD,zero_add→BR,le_div_iff_mul_le→CI,div_le_self→CU,div_mul_le_self→DK,mul_comm→EC
namespace Go.Proofs.YtammjnjpheobaaaGreat
open Go.SL
structure Db where
 key:Nat
 p:Option Addr
 cap:Nat
 ws:List Int
 born:Nat
 ch:aAc
def Db.ent (size:Nat) (e:Db):Ent Int:=⟨(e.key:Int),.slice e.p size e.cap,e.born⟩
def Db.ok (size:Nat) (e:Db):Prop:=Vec 158 1 e.p size e.cap (aAg e.ws) e.ch
def aMx:List Db→Nat→Option (List Int)
 |[],_=>none
 |e::es,i=>if e.key=i then some e.ws else aMx es i
def aHz (d:Nat→Option (List Int)) (i:Nat) (ws:List Int):Nat→Option (List Int):=fun j=>if j=i then some ws else d j
def chs (es:List Db):aAc:=(es.map (·.ch)).flatten
theorem aWs (size i:Nat):∀(es:List Db) (j:Nat),aEx (i:Int) (es.map (Db.ent size)) j=none∧aMx es i=none∨
  ∃l1 e l2,es=l1++e::l2∧e.key=i∧aMx es i=some e.ws∧aEx (i:Int) (es.map (Db.ent size)) j=some (j+l1.length,.slice e.p size e.cap)∧∀x,(∀k,aMx (l1++x::l2) k=if x.key=i∧k=i then some x.ws else if x.key=i then aMx es k else aMx (l1++x::l2) k)
 |[],_=> .inl ⟨rfl,rfl⟩
 |e::es,j=>by
  by_cases h:e.key=i
  ·refine .inr ⟨[],e,es,rfl,h,by simp[aMx,h],?_,fun x k=> ?_⟩
   ·simp[aEx,Db.ent,h]
   ·by_cases hx:x.key=i
    ·by_cases hk:k=i
     ·simp[aMx,hx,hk]
     ·have:¬i=k:=fun e=>hk e.symm
      simp[aMx,hx,hk,h,this]
    ·simp[hx]
  ·have hne:¬((i:Int)=(e.key:Int)):=by omega
   rcases aWs size i es (j+1) with⟨h1,h2⟩|⟨l1,e',l2,h1,h2,h3,h4,h5⟩
   ·refine .inl ⟨?_,?_⟩
    ·simp only[A0,aEx]
     have hne':¬((i:Int)=(Db.ent size e).key):=hne
     rw[if_neg hne'];exact h1
    ·simp[aMx,h,h2]
   ·refine .inr ⟨e::l1,e',l2,by rw[h1];rfl,h2,by simp only[aMx,if_neg h,h3],?_,fun x k=> ?_⟩
    ·simp only[A0,aEx]
     have hne':¬((i:Int)=(Db.ent size e).key):=hne
     rw[if_neg hne']
     simp only[AL]
     rw[h4,Nat.add_assoc,Nat.add_comm 1]
    ·have:=h5 x k
     simp only[AA,aMx]
     by_cases hk:e.key=k
     ·have hki:¬k=i:=fun hh=>h (hk.trans hh)
      simp[hk,hki]
     ·simp only[if_neg hk]
      exact this
theorem set_db (size i:Nat) (p:Option Addr) (cap:Nat) (ws:List Int) (ch:aAc) (ck:Nat) (es:List Db):∃es2 ck2 old born,
  bAn (i:Int) (.slice p size cap) (es.map (Db.ent size)) ck=(es2.map (Db.ent size),ck2)∧(∀k,aMx es2 k=aHz (aMx es) i ws k)∧
  (chs es++ch).Perm (chs es2++old)∧∀e∈es2,e∈es∨e=⟨i,p,cap,ws,born,ch⟩:=by
 rcases aWs size i es 0 with⟨h1,h2⟩|⟨l1,e,l2,rfl,h2,h3,h4,h5⟩
 ·refine⟨es++[⟨i,p,cap,ws,ck,ch⟩],ck+1,[],ck,?_,?_,?_,?_⟩
  ·simp[bAn,h1,Db.ent]
  ·intro k
   have:∀(es:List Db),aMx es i=none→aMx (es++[⟨i,p,cap,ws,ck,ch⟩]) k=aHz (aMx es) i ws k:=by
    intro es
    induction es with
    |nil=>
     intro _
     by_cases hk:k=i
     ·simp[aMx,aHz,hk]
     ·have:¬i=k:=fun e=>hk e.symm
      simp[aMx,aHz,hk,this]
    |cons e es ih=>
     intro h
     simp only[aMx] at h
     split at h
     ·cases h
     ·rename_i hn
      have:=ih h
      simp only[AA,aMx,aHz] at this⊢
      split
      ·rename_i hk
       rw[if_neg (fun hh=>hn (hk.trans hh))]
      ·exact this
   exact this es h2
  ·simp[chs]
  ·intro e he
   rcases AO.1 he with h|h
   ·exact .inl h
   ·exact .inr (by simpa using h)
 ·refine⟨l1++⟨i,p,cap,ws,e.born,ch⟩::l2,ck,e.ch,e.born,?_,?_,?_,?_⟩
  ·simp only[bAn,h4,BR]
   refine Prod.ext ?_ rfl
   simp only[AV,A0]
   have hm:∀(l1:List (Ent Int)) (x:Ent Int) (l2:List (Ent Int)) (f:Ent Int→Ent Int),(l1++x::l2).modify l1.length f=l1++f x::l2:=by
    intro l1 x l2 f
    induction l1 with
    |nil=>rfl
    |cons y l1 ih=>simp[ih]
   have:=hm (l1.map (Db.ent size)) (e.ent size) (l2.map (Db.ent size)) fun e=>{e with val:= .slice p size cap}
   rw[AX] at this
   rw[this]
   simp[Db.ent,h2]
  ·intro k
   rw[h5 ⟨i,p,cap,ws,e.born,ch⟩ k]
   simp[aHz]
  ·simp only[chs,AV,A0,List.flatten_append,AW,AR]
   refine BJ _ ?_
   refine CA.trans ?_
   rw[←AR]
   exact CZ _ CA
  ·intro x hx
   rcases AO.1 hx with h|h
   ·exact .inl (List.mem_append_left _ h)
   ·rcases AM.1 h with rfl|h
    ·exact .inr rfl
    ·exact .inl (List.mem_append_right _ (AJ _ h))
structure Dv where
 size:Nat
 blocks:Nat
 disk:Nat→Option (List Int)
 fault:Int
 acts:Nat
def aDt (bd:Nat) (δ:Dv) (c:aAc):Prop:=
 ∃bl bn pp np cp xs pc es ck junk,c=(bd,row (aBf δ.size δ.blocks bl bn pp np cp δ.fault δ.acts) 115)::(bn,aEf aMh (es.map (Db.ent δ.size)) ck)::(pc++(chs es++junk))∧
  Vec 222 2 pp np cp xs pc∧(∀e∈es,e.ok δ.size)∧(∀i,aMx es i=δ.disk i)∧np≤δ.acts∧(8≤δ.size∧δ.size≤256)∧δ.blocks≤1000000∧(-1≤δ.fault∧δ.fault≤1000000000)
theorem aGh (bd:Nat) (δ:Dv) (c:aAc) (h:aDt bd δ c):CtQ AC 80 [.pointer (some ⟨bd,0,none⟩)] [c] (.int .i64 (δ.size:Int)):=by
 obtain⟨bl,bn,pp,np,cp,xs,pc,es,ck,junk,rfl,_⟩:=h
 refine CtQ.conv (H2:=[[(bd,row (aBf δ.size δ.blocks bl bn pp np cp δ.fault δ.acts) 115)],(bn,aEf aMh (es.map (Db.ent δ.size)) ck)::(pc++(chs es++junk))]) ?_ rfl
 unfold aBf
 refine Ct.intro Tryz.func80 rfl Tryz.ntmps80 (nle rfl) fun w0=> ?_;dsimp only[aAa,AD]
 repeat(refine st ?_;intros)
 (refine Dn.post (Hr:=[[(bd,row [.int .i64 (δ.size:Int),.int .i64 (δ.blocks:Int),.map (some bl),.map (some bn),.slice pp np cp,.int .i64 (-1),.int .i64 δ.fault,.bool false,.int .i64 (δ.acts:Int)] 115)],(bn,aEf aMh (es.map (Db.ent δ.size)) ck)::(pc++(chs es++junk))]) Tryz.results80 (hR:= ?_);exact⟨rfl,rfl⟩)
def Dv.acted (δ:Dv):Dv:={δ with fault:=aTs δ.fault,acts:=δ.acts+1}
def Dv.failed (δ:Dv):Dv:={δ with fault:= -1}
def Dv.wrote (δ:Dv) (i:Nat) (ws:List Int):Dv:={δ with fault:=aTs δ.fault,acts:=δ.acts+1,disk:=aHz δ.disk i ws}
theorem aQc {f:Int} (h: -1≤f∧f≤1000000000): -1≤aTs f∧aTs f≤1000000000:=by unfold aTs;split<;>omega
theorem bHu (bd:Nat) (δ:Dv) (c:aAc) (h:aDt bd δ c) (i:Nat) (hi:i<δ.blocks) (hf:δ.fault≠0) (ha:δ.acts≤1000000000000) (b off cap:Nat) (cs:List Value) (E:Nat) (fz:Nat×Nat) (ws:List Int)
  (hws:(cs.drop off).take δ.size=aAg ws) (hl:ws.length=δ.size):
  Ct AC 157 [.pointer (some ⟨bd,0,none⟩),.int .i64 (i:Int),.slice (some ⟨b,off,none⟩) δ.size cap] [c,[(b,aCa cs E fz)]] fun v H'=>
   ∃c',v= .int .i64 0∧aDt bd (δ.wrote i ws) c'∧H'=[c',[(b,aCa cs E fz)]]:=by
 obtain⟨bl,bn,pp,np,cp,xs,pc,es,ck,junk,rfl,hV,hes,hdk,hnp,hsz,hbk,hfr⟩:=h
 have hD:=aJb bd δ.size δ.blocks bl bn pp np cp δ.fault δ.acts
 have hA:=bKk bd δ.size δ.blocks bl bn pp np cp δ.fault δ.acts hf hfr ha
 have hC:=aNu b off δ.size cap cs E fz ws (by omega) (by omega) hws hl
 unfold aBf at hD hA
 refine Ct.conv (H2:=[[(bd,row (aBf δ.size δ.blocks bl bn pp np cp δ.fault δ.acts) 115)],[(bn,aEf aMh (es.map (Db.ent δ.size)) ck)],pc,chs es++junk,[(b,aCa cs E fz)]])
  (R2:=fun v H'=>v= .int .i64 0∧∃p cap' c' es2 ck2 p' cp' pc',H'=[[(bd,row (aBf δ.size δ.blocks bl bn p' (np+1) cp' (aTs δ.fault) (δ.acts+1)) 115)],[(bn,aEf aMh (es2.map (Db.ent δ.size)) ck2)],pc',chs es++junk,c',[(b,aCa cs E fz)]]∧
   Vec 158 1 p δ.size cap' (aAg ws) c'∧bAn (i:Int) (.slice p δ.size cap') (es.map (Db.ent δ.size)) ck=(es2.map (Db.ent δ.size),ck2)∧(∀k,aMx es2 k=aHz (aMx es) i ws k)∧(∃xs',Vec 222 2 p' (np+1) cp' xs' pc')∧
   (∃old born,(chs es++c').Perm (chs es2++old)∧∀e∈es2,e∈es∨e=⟨i,p,cap',ws,born,c'⟩)) ?_ (by simp) ?_
 ·unfold aBf
  refine Ct.intro Tryz.func157 rfl Tryz.ntmps157 (nle rfl) fun w0=> ?_;dsimp only[aAa,AD]
  repeat(first|(refine st ?_;intros)|(refine cq hD ?_)|(refine cq hC ?_)|(refine cq hA ?_))
  refine R.call (hct:=hA) (h:= ?_)
  rintro _ _ ⟨rfl,rfl⟩
  try dsimp only[AA,AB]
  repeat(first|(refine st ?_;intros)|(refine cq hD ?_)|(refine cq hC ?_)|(refine cq hA ?_))
  refine R.call (hct:=hC) (h:= ?_)
  rintro _ _ ⟨p,cap',c',rfl,hV1,rfl⟩
  try dsimp only[AA,AB]
  repeat(first|(refine st ?_;intros)|(refine cq hD ?_)|(refine cq hC ?_)|(refine cq hA ?_))
  obtain⟨es2,ck2,old,born,hset,hdk2,hperm,hmem⟩:=set_db δ.size i p cap' ws c' ck es
  apply R.mapUpdate (K:=Int) (mk:=aMh) (es:=es.map (Db.ent δ.size)) (ck:=ck) (key:=(i:Int)) (es':=es2.map (Db.ent δ.size)) (ck':=ck2)
  ·exact rfl
  ·repeat(first|exact Has.here|apply Has.there)
  ·exact rfl
  ·exact rfl
  ·exact aFh.int rfl
  ·exact hset
  ·repeat(first|exact Upd.here|apply Upd.there)
  ·exact rfl
  repeat(first|(refine st ?_;intros)|(refine cq hD ?_)|(refine cq hC ?_)|(refine cq hA ?_))
  rename_i p' cp' pc' hV2
  (refine Dn.post (Hr:=[[(bd,row [.int .i64 (δ.size:Int),.int .i64 (δ.blocks:Int),.map (some bl),.map (some bn),.slice p' (np+1) cp',.int .i64 (-1),.int .i64 (aTs δ.fault),.bool false,.int .i64 ((δ.acts+1:Nat):Int)] 115)],[(bn,aEf aMh (es2.map (Db.ent δ.size)) ck2)],pc',chs es++junk,c',[(b,aCa cs E fz)]]) Tryz.results157 (hR:= ?_);
   exact⟨rfl,p,cap',c',es2,ck2,p',cp',pc',rfl,hV1,hset,hdk2,⟨_,hV2⟩,old,born,hperm,hmem⟩)
 ·rintro v H' ⟨rfl,p,cap',c',es2,ck2,p',cp',pc',rfl,hV1,hset,hdk2,⟨xs',hV2⟩,old,born,hperm,hmem⟩
  refine⟨_,⟨_,rfl,⟨bl,bn,p',np+1,cp',xs',pc',es2,ck2,old++junk,rfl,hV2,?_,?_,?_,hsz,hbk,aQc hfr⟩,rfl⟩,?_⟩
  ·intro e he
   rcases hmem e he with h|rfl
   ·exact hes e h
   ·exact hV1
  ·intro k
   rw[hdk2]
   simp only[Dv.wrote,aHz,hdk]
  ·simp only[Dv.wrote];omega
  ·simp only[AW,A8,AQ,AA,AB]
   refine List.Perm.cons _ (List.Perm.cons _ ?_)
   simp only[AR]
   refine BJ _ ?_
   rw[←AR,←AR,←AR,←AR]
   refine CZ _ ?_
   refine List.Perm.trans ?_ (hperm.append_right junk)
   simp only[AR]
   exact BJ _ CA
theorem aWt (bd:Nat) (δ:Dv) (c:aAc) (h:aDt bd δ c) (i:Nat) (hi:i<δ.blocks) (hf:δ.fault=0) (b off cap:Nat) (cs:List Value) (E:Nat) (fz:Nat×Nat):
  Ct AC 157 [.pointer (some ⟨bd,0,none⟩),.int .i64 (i:Int),.slice (some ⟨b,off,none⟩) δ.size cap] [c,[(b,aCa cs E fz)]] fun v H'=>
   ∃c',v= .int .i64 6∧aDt bd δ.failed c'∧H'=[c',[(b,aCa cs E fz)]]:=by
 obtain⟨bl,bn,pp,np,cp,xs,pc,es,ck,junk,rfl,hV,hes,hdk,hnp,hsz,hbk,hfr⟩:=h
 have hD:=aJb bd δ.size δ.blocks bl bn pp np cp δ.fault δ.acts
 have hA:=aTr bd δ.size δ.blocks bl bn pp np cp δ.acts
 rw[←hf] at hA
 unfold aBf at hD hA
 refine Ct.conv (H2:=[[(bd,row (aBf δ.size δ.blocks bl bn pp np cp δ.fault δ.acts) 115)],[(bn,aEf aMh (es.map (Db.ent δ.size)) ck)],pc,chs es++junk,[(b,aCa cs E fz)]])
  (R2:=fun v H'=>v= .int .i64 6∧H'=[[(bd,row (aBf δ.size δ.blocks bl bn pp np cp (-1) δ.acts) 115)],[(bn,aEf aMh (es.map (Db.ent δ.size)) ck)],pc,chs es++junk,[(b,aCa cs E fz)]]) ?_ (by simp) ?_
 ·unfold aBf
  refine Ct.intro Tryz.func157 rfl Tryz.ntmps157 (nle rfl) fun w0=> ?_;dsimp only[aAa,AD]
  repeat(first|(refine st ?_;intros)|(refine cq hD ?_)|(refine cq hA ?_))
  refine R.call (hct:=hA) (h:= ?_)
  rintro _ _ ⟨rfl,rfl⟩
  try dsimp only[AA,AB]
  repeat(first|(refine st ?_;intros)|(refine cq hD ?_)|(refine cq hA ?_))
  (refine Dn.post (Hr:=[[(bd,row [.int .i64 (δ.size:Int),.int .i64 (δ.blocks:Int),.map (some bl),.map (some bn),.slice pp np cp,.int .i64 (-1),.int .i64 (-1),.bool false,.int .i64 (δ.acts:Int)] 115)],[(bn,aEf aMh (es.map (Db.ent δ.size)) ck)],pc,chs es++junk,[(b,aCa cs E fz)]]) Tryz.results157 (hR:= ?_);exact⟨rfl,rfl⟩)
 ·rintro v H' ⟨rfl,rfl⟩
  exact⟨_,⟨_,rfl,⟨bl,bn,pp,np,cp,xs,pc,es,ck,junk,rfl,hV,hes,hdk,hnp,hsz,hbk,(by decide:(-1:Int)≤-1∧(-1:Int)≤1000000000)⟩,rfl⟩,by simp[Dv.failed]⟩
theorem bAu (bd:Nat) (δ:Dv) (c:aAc) (h:aDt bd δ c) (i:Nat) (hi:i<δ.blocks) (hf:δ.fault=0):
  Ct AC 143 [.pointer (some ⟨bd,0,none⟩),.int .i64 (i:Int)] [c] fun v H'=>
   ∃c',v= .tuple #[.slice none 0 0,.int .i64 6]∧aDt bd δ.failed c'∧H'=[c']:=by
 obtain⟨bl,bn,pp,np,cp,xs,pc,es,ck,junk,rfl,hV,hes,hdk,hnp,hsz,hbk,hfr⟩:=h
 have hD:=aJb bd δ.size δ.blocks bl bn pp np cp δ.fault δ.acts
 have hA:=aTr bd δ.size δ.blocks bl bn pp np cp δ.acts
 rw[←hf] at hA
 unfold aBf at hD hA
 refine Ct.conv (H2:=[[(bd,row (aBf δ.size δ.blocks bl bn pp np cp δ.fault δ.acts) 115)],[(bn,aEf aMh (es.map (Db.ent δ.size)) ck)],pc,chs es++junk])
  (R2:=fun v H'=>v= .tuple #[.slice none 0 0,.int .i64 6]∧H'=[[(bd,row (aBf δ.size δ.blocks bl bn pp np cp (-1) δ.acts) 115)],[(bn,aEf aMh (es.map (Db.ent δ.size)) ck)],pc,chs es++junk]) ?_ (by simp) ?_
 ·unfold aBf
  refine Ct.intro Tryz.func143 rfl Tryz.ntmps143 (nle rfl) fun w0=> ?_;dsimp only[aAa,AD]
  repeat(first|(refine st ?_;intros)|(refine cq hD ?_)|(refine cq hA ?_))
  refine R.call (hct:=hA) (h:= ?_)
  rintro _ _ ⟨rfl,rfl⟩
  try dsimp only[AA,AB]
  repeat(first|(refine st ?_;intros)|(refine cq hD ?_)|(refine cq hA ?_))
  (refine Dn.post (Hr:=[[(bd,row [.int .i64 (δ.size:Int),.int .i64 (δ.blocks:Int),.map (some bl),.map (some bn),.slice pp np cp,.int .i64 (-1),.int .i64 (-1),.bool false,.int .i64 (δ.acts:Int)] 115)],[(bn,aEf aMh (es.map (Db.ent δ.size)) ck)],pc,chs es++junk]) Tryz.results143 (hR:= ?_);exact⟨rfl,rfl⟩)
 ·rintro v H' ⟨rfl,rfl⟩
  exact⟨_,⟨_,rfl,⟨bl,bn,pp,np,cp,xs,pc,es,ck,junk,rfl,hV,hes,hdk,hnp,hsz,hbk,(by decide:(-1:Int)≤-1∧(-1:Int)≤1000000000)⟩,rfl⟩,by simp[Dv.failed]⟩
theorem bMb (bd:Nat) (δ:Dv) (c:aAc) (h:aDt bd δ c) (i:Nat) (hi:i<δ.blocks) (hf:δ.fault≠0) (ha:δ.acts≤1000000000000) (ws:List Int) (hd:δ.disk i=some ws):
  Ct AC 143 [.pointer (some ⟨bd,0,none⟩),.int .i64 (i:Int)] [c] fun v H'=>
   ∃c' p cap' c2,v= .tuple #[.slice p δ.size cap',.int .i64 0]∧Vec 158 1 p δ.size cap' (aAg ws) c2∧aDt bd δ.acted c'∧H'=[c',c2]:=by
 obtain⟨bl,bn,pp,np,cp,xs,pc,es,ck,junk,rfl,hV,hes,hdk,hnp,hsz,hbk,hfr⟩:=h
 have hD:=aJb bd δ.size δ.blocks bl bn pp np cp δ.fault δ.acts
 have hA:=bKk bd δ.size δ.blocks bl bn pp np cp δ.fault δ.acts hf hfr ha
 unfold aBf at hD hA
 rcases aWs δ.size i es 0 with⟨h1,h2⟩|⟨l1,e,l2,he,h2,h3,h4,_⟩
 ·rw[hdk,hd] at h2;cases h2
 have hok:=hes e (by rw[he];simp)
 have hews:e.ws=ws:=by rw[hdk,hd] at h3;simpa using h3.symm
 obtain⟨hlen,hok2⟩:=hok
 rcases hok2 with⟨_,hz,_⟩|⟨be,rest,hp,hch,hcap,hmc,hcm⟩
 ·omega
 rw[hews] at hlen
 have hlen':ws.length=δ.size:=by simpa using hlen
 have hC:=aNu be 0 δ.size e.cap (aAg ws++rest) 158 (0,0) ws (by omega) (by omega) (by rw[C9,CK (by simp;omega),A4 (by simp;omega)]) hlen'
 have hchs:chs es=chs l1++([(be,row (aAg ws++rest) 158)]++chs l2):=by
  rw[he];simp[chs,hch,hews]
 rw[hp] at h4
 refine Ct.conv (H2:=[[(bd,row (aBf δ.size δ.blocks bl bn pp np cp δ.fault δ.acts) 115)],[(bn,aEf aMh (es.map (Db.ent δ.size)) ck)],pc,chs l1,[(be,row (aAg ws++rest) 158)],chs l2,junk])
  (R2:=fun v H'=>∃p cap' c2,v= .tuple #[.slice p δ.size cap',.int .i64 0]∧Vec 158 1 p δ.size cap' (aAg ws) c2∧H'=[[(bd,row (aBf δ.size δ.blocks bl bn pp np cp (aTs δ.fault) (δ.acts+1)) 115)],[(bn,aEf aMh (es.map (Db.ent δ.size)) ck)],pc,chs l1,[(be,row (aAg ws++rest) 158)],chs l2,junk,c2]) ?_ (by simp[hchs]) ?_
 ·unfold aBf
  refine Ct.intro Tryz.func143 rfl Tryz.ntmps143 (nle rfl) fun w0=> ?_;dsimp only[aAa,AD]
  repeat(first|(refine st ?_;intros)|(refine cq hD ?_)|(refine cq hA ?_))
  refine R.call (hct:=hA) (h:= ?_)
  rintro _ _ ⟨rfl,rfl⟩
  try dsimp only[AA,AB]
  repeat(first|(refine st ?_;intros)|(refine cq hD ?_)|(refine cq hA ?_))
  apply R.lookupT (K:=Int) (mk:=aMh) (key:=(i:Int))
  ·exact rfl
  ·repeat(first|exact Has.here|apply Has.there)
  ·exact rfl
  ·exact aFh.int rfl
  ·exact h4
  ·exact rfl
  ·exact nle rfl
  repeat(first|(refine st ?_;intros)|(refine cq hD ?_)|(refine cq hA ?_))
  refine R.call (hct:=hC) (h:= ?_)
  rintro _ _ ⟨p,cap',c',rfl,hV1,rfl⟩
  try dsimp only[AA,AB]
  repeat(first|(refine st ?_;intros)|(refine cq hD ?_)|(refine cq hA ?_))
  (refine Dn.post (Hr:=[[(bd,row [.int .i64 (δ.size:Int),.int .i64 (δ.blocks:Int),.map (some bl),.map (some bn),.slice pp np cp,.int .i64 (-1),.int .i64 (aTs δ.fault),.bool false,.int .i64 ((δ.acts+1:Nat):Int)] 115)],[(bn,aEf aMh (es.map (Db.ent δ.size)) ck)],pc,chs l1,[(be,row (aAg ws++rest) 158)],chs l2,junk,c']) Tryz.results143 (hR:= ?_);
   exact⟨p,cap',c',rfl,hV1,rfl⟩)
 ·rintro v H' ⟨p,cap',c2,rfl,hV1,rfl⟩
  refine⟨_,⟨_,p,cap',c2,rfl,hV1,⟨bl,bn,pp,np,cp,xs,pc,es,ck,junk,rfl,hV,hes,hdk,by simp only[Dv.acted];omega,hsz,hbk,aQc hfr⟩,rfl⟩,?_⟩
  simp[Dv.acted,hchs]
structure Gr where
 bb:Nat
 br:Nat
 n:Nat
 born:Nat
def Gr.ent (g:Gr):Ent Nat:=⟨g.bb,.int .i64 (g.n:Int),g.born⟩
def Gr.obj (g:Gr):Nat×Obj:=(g.bb,row [.slice (some ⟨g.br,0,none⟩) g.n g.n] 161)
structure Ar where
 room:Nat
 used:Nat
 peak:Nat
 gs:List Gr
def aDg (α:Ar) (bm:Nat):List Value:=[.int .i64 (α.room:Int),.int .i64 (α.used:Int),.int .i64 (α.peak:Int),.map (some bm)]
def aEg (ba:Nat) (α:Ar) (c:aAc):Prop:=
 ∃bm ck,c=(ba,row (aDg α bm) 104)::(bm,aEf aIg (α.gs.map Gr.ent) ck)::α.gs.map Gr.obj∧α.used≤α.room∧α.room≤1000000000∧α.peak≤α.room∧α.used≤α.peak∧α.used=(α.gs.map (·.n)).sum
theorem bDg (ba:Nat) (α:Ar) (c:aAc) (h:aEg ba α c):CtQ AC 60 [.pointer (some ⟨ba,0,none⟩)] [c] (.int .i64 (α.room:Int)):=by
 obtain⟨bm,ck,rfl,_⟩:=h
 refine CtQ.conv (H2:=[[(ba,row (aDg α bm) 104)],(bm,aEf aIg (α.gs.map Gr.ent) ck)::α.gs.map Gr.obj]) ?_ rfl
 unfold aDg
 refine Ct.intro Tryz.func60 rfl Tryz.ntmps60 (nle rfl) fun w0=> ?_;dsimp only[aAa,AD]
 repeat(refine st ?_;intros)
 (refine Dn.post (Hr:=[[(ba,row [.int .i64 (α.room:Int),.int .i64 (α.used:Int),.int .i64 (α.peak:Int),.map (some bm)] 104)],(bm,aEf aIg (α.gs.map Gr.ent) ck)::α.gs.map Gr.obj]) Tryz.results60 (hR:= ?_);exact⟨rfl,rfl⟩)
theorem bDh (ba:Nat) (α:Ar) (c:aAc) (h:aEg ba α c):CtQ AC 17 [.pointer (some ⟨ba,0,none⟩)] [c] (.int .i64 (α.used:Int)):=by
 obtain⟨bm,ck,rfl,_⟩:=h
 refine CtQ.conv (H2:=[[(ba,row (aDg α bm) 104)],(bm,aEf aIg (α.gs.map Gr.ent) ck)::α.gs.map Gr.obj]) ?_ rfl
 unfold aDg
 refine Ct.intro Tryz.func17 rfl Tryz.ntmps17 (nle rfl) fun w0=> ?_;dsimp only[aAa,AD]
 repeat(refine st ?_;intros)
 (refine Dn.post (Hr:=[[(ba,row [.int .i64 (α.room:Int),.int .i64 (α.used:Int),.int .i64 (α.peak:Int),.map (some bm)] 104)],(bm,aEf aIg (α.gs.map Gr.ent) ck)::α.gs.map Gr.obj]) Tryz.results17 (hR:= ?_);exact⟨rfl,rfl⟩)
theorem bMc (ba:Nat) (α:Ar) (c:aAc) (h:aEg ba α c):CtQ AC 79 [.pointer (some ⟨ba,0,none⟩)] [c] (.int .i64 ((α.room:Int)-(α.used:Int))):=by
 have hR:=bDg ba α c h
 have hU:=bDh ba α c h
 obtain⟨bm,ck,_,h1,h2,_⟩:=h
 refine Ct.intro Tryz.func79 rfl Tryz.ntmps79 (nle rfl) fun w0=> ?_;dsimp only[aAa,AD]
 repeat(first|(refine st ?_;intros)|(refine cq hR ?_)|(refine cq hU ?_))
 (refine Dn.post (Hr:=[c]) Tryz.results79 (hR:= ?_);exact⟨rfl,rfl⟩)
theorem bAv (ba:Nat) (α:Ar) (c:aAc) (h:aEg ba α c) (n:Int) (hn:0≤n) (hr:(α.room:Int)-(α.used:Int)<n):CtQ AC 99 [.pointer (some ⟨ba,0,none⟩),.int .i64 n] [c] (.tuple #[.pointer none,.int .i64 7]):=by
 obtain⟨bm,ck,rfl,h1,h2,h3,h4,h5⟩:=h
 refine CtQ.conv (H2:=[[(ba,row (aDg α bm) 104)],(bm,aEf aIg (α.gs.map Gr.ent) ck)::α.gs.map Gr.obj]) ?_ rfl
 unfold aDg
 refine Ct.intro Tryz.func99 rfl Tryz.ntmps99 (nle rfl) fun w0=> ?_;dsimp only[aAa,AD]
 repeat(first|(refine st ?_;intros)|refine G.draw [] (h:= ?_))
 (refine Dn.post (Hr:=[[(ba,row [.int .i64 (α.room:Int),.int .i64 (α.used:Int),.int .i64 (α.peak:Int),.map (some bm)] 104)],(bm,aEf aIg (α.gs.map Gr.ent) ck)::α.gs.map Gr.obj]) Tryz.results99 (hR:= ?_);exact⟨rfl,rfl⟩)
def Ar.grant (α:Ar) (g:Gr):Ar:={room:=α.room,used:=α.used+g.n,peak:=max α.peak (α.used+g.n),gs:=α.gs++[g]}
theorem aQd {k:Nat}:∀(es:List (Ent Nat)) (i:Nat),(∀e∈es,e.key≠k)→aEx k es i=none
 |[],_,_=>rfl
 |e::es,i,h=>by
  unfold aEx
  rw[if_neg (fun he=>h e AI he.symm)]
  exact aQd es (i+1) fun e he=>h e (AJ _ he)
theorem bHv (ba:Nat) (α:Ar) (c:aAc) (h:aEg ba α c) (n:Nat) (hn:n≤α.room-α.used):Ct AC 99 [.pointer (some ⟨ba,0,none⟩),.int .i64 (n:Int)] [c] fun v H'=>
  ∃g:Gr,∃c',g.n=n∧v= .tuple #[.pointer (some ⟨g.bb,0,none⟩),.int .i64 0]∧aEg ba (α.grant g) c'∧H'=[c',[(g.br,row (aEn n [.int .u64 0]) 158)]]:=by
 obtain⟨bm,ck,rfl,h1,h2,h3,h4,h5⟩:=h
 refine Ct.conv (H2:=[[(ba,row (aDg α bm) 104)],[(bm,aEf aIg (α.gs.map Gr.ent) ck)],α.gs.map Gr.obj]) (R2:=fun v H'=>∃bb br:Nat,v= .tuple #[.pointer (some ⟨bb,0,none⟩),.int .i64 0]∧
  H'=[[(ba,row (aDg (α.grant ⟨bb,br,n,ck⟩) bm) 104)],[(bm,aEf aIg (α.gs.map Gr.ent++[⟨bb,.int .i64 (n:Int),ck⟩]) (ck+1))],α.gs.map Gr.obj,[(bb,row [.slice (some ⟨br,0,none⟩) n n] 161)],[(br,row (aEn n [.int .u64 0]) 158)]]) ?_ (by simp) ?_
 ·unfold aDg
  refine Ct.intro Tryz.func99 rfl Tryz.ntmps99 (nle rfl) fun w0=> ?_;dsimp only[aAa,AD]
  repeat(first|(refine st ?_;intros)|refine G.draw [] (h:= ?_))
  rename_i br bb
  apply R1.nodup
  ·exact rfl
  intro hnd
  have hfresh:∀e∈α.gs.map Gr.ent,e.key≠bb:=by
   intro e he
   obtain⟨g,hg,rfl⟩:=AT.1 he
   simp only[aEl,AW,A8,AQ,AA,AB,A0,CB,AM,AT,not_or] at hnd
   intro heq
   exact hnd.1.2.2.2 ⟨Gr.obj g,⟨g,hg,rfl⟩,heq⟩
  apply R.mapUpdate (K:=Nat) (mk:=aIg) (es:=α.gs.map Gr.ent) (ck:=ck) (key:=bb) (es':=α.gs.map Gr.ent++[⟨bb,.int .i64 (n:Int),ck⟩]) (ck':=ck+1)
  ·exact rfl
  ·repeat(first|exact Has.here|apply Has.there)
  ·exact rfl
  ·exact rfl
  ·refine aFh.ptr ⟨_,_,Has.here⟩ fun e he=> ?_
   obtain⟨g,hg,rfl⟩:=AT.1 he
   refine⟨[.slice (some ⟨g.br,0,none⟩) g.n g.n],161,?_⟩
   apply Has.there;apply Has.there;apply Has.there;apply Has.there
   exact Has.in_ (AT.2 ⟨g,hg,rfl⟩)
  ·unfold bAn
   rw[aQd _ 0 hfresh]
  ·repeat(first|exact Upd.here|apply Upd.there)
  ·exact rfl
  repeat(first|(refine st ?_;intros)|refine G.draw [] (h:= ?_))
  (refine Dn.post (Hr:=[[(ba,row [.int .i64 (α.room:Int),.int .i64 ((α.used:Int)+(n:Int)),.int .i64 (max (α.peak:Int) ((α.used:Int)+(n:Int))),.map (some bm)] 104)],[(bm,aEf aIg (α.gs.map Gr.ent++[⟨bb,.int .i64 (n:Int),ck⟩]) (ck+1))],α.gs.map Gr.obj,[(bb,row [.slice (some ⟨br,0,none⟩) n n] 161)],[(br,row (aEn n [.int .u64 0]) 158)]]) Tryz.results99 (hR:= ?_);refine⟨bb,br,rfl,?_⟩)
  have e1:((α.grant ⟨bb,br,n,ck⟩).used:Int)=(α.used:Int)+(n:Int):=by simp[Ar.grant]
  have e2:((α.grant ⟨bb,br,n,ck⟩).peak:Int)=max (α.peak:Int) ((α.used:Int)+(n:Int)):=by simp only[Ar.grant];omega
  rw[e1,e2]
  rfl
 ·rintro v H' ⟨bb,br,rfl,rfl⟩
  refine⟨_,⟨⟨bb,br,n,ck⟩,_,rfl,rfl,⟨bm,ck+1,rfl,?_,?_,?_,?_,?_⟩,rfl⟩,?_⟩
  ·simp only[Ar.grant];omega
  ·simp only[Ar.grant];omega
  ·simp only[Ar.grant];omega
  ·simp only[Ar.grant];omega
  ·simp only[Ar.grant,AV,CT];simp[h5]
  ·simp[Ar.grant,Gr.ent,Gr.obj]
theorem aTu {k:Nat} {g:Ent Nat} (hk:g.key=k):∀(es:List (Ent Nat)) (r:List (Ent Nat)) (i:Nat),(∀e∈es,e.key≠k)→aEx k (es++g::r) i=some (i+es.length,g.val)
 |[],r,i,_=>by simp[aEx,hk]
 |e::es,r,i,h=>by
  rw[AA,aEx,if_neg (fun he=>h e AI he.symm),aTu hk es r (i+1) fun e he=>h e (AJ _ he)]
  simp;omega
def Ar.release (α:Ar) (g:Gr) (gs:List Gr):Ar:={room:=α.room,used:=α.used-g.n,peak:=α.peak,gs:=gs}
theorem bAw (ba:Nat) (α:Ar) (c:aAc) (h:aEg ba α c) (l1 l2:List Gr) (g:Gr) (hg:α.gs=l1++g::l2):Cb AC 100 [.pointer (some ⟨ba,0,none⟩),.pointer (some ⟨g.bb,0,none⟩)] [c] fun v H'=>
  ∃c',v= .bool true∧aEg ba (α.release g (l1++l2)) c'∧H'=[c']:=by
 obtain⟨bm,ck,rfl,h1,h2,h3,h4,h5⟩:=h
 rw[hg] at h5
 simp only[AV,A0,CT,List.sum_cons] at h5
 refine Cb.conv (H2:=[[(ba,row (aDg α bm) 104)],[(bm,aEf aIg (l1.map Gr.ent++g.ent::l2.map Gr.ent) ck)],l1.map Gr.obj,[g.obj],l2.map Gr.obj]) (R2:=fun v H'=>v= .bool true∧
  H'=[[(ba,row (aDg (α.release g (l1++l2)) bm) 104)],[(bm,aEf aIg (l1.map Gr.ent++l2.map Gr.ent) ck)],l1.map Gr.obj,l2.map Gr.obj]) ?_ (List.Perm.of_eq (by simp[hg])) ?_
 ·unfold aDg
  obtain⟨bb,br,n,born⟩:=g
  dsimp only at h5
  simp only[Gr.ent,Gr.obj]
  refine Cb.intro Tryz.func100 rfl Tryz.ntmps100 (nle rfl) fun w0=> ?_;dsimp only[aAa,AD]
  repeat(refine st ?_;intros)
  have ask:(aEl [[(ba,row [.int .i64 (α.room:Int),.int .i64 (α.used:Int),.int .i64 (α.peak:Int),.map (some bm)] 104)],[(bm,aEf aIg (l1.map Gr.ent++⟨bb,.int .i64 (n:Int),born⟩::l2.map Gr.ent) ck)],l1.map Gr.obj,[(bb,row [.slice (some ⟨br,0,none⟩) n n] 161)],l2.map Gr.obj]).Nodup→∀e∈l1.map Gr.ent,e.key≠bb:=by
   intro hnd e he heq
   obtain⟨g,hg,rfl⟩:=AT.1 he
   simp only[aEl,AW,A8,AQ,AA,AB,A0,AV,CB,List.nodup_append] at hnd
   exact hnd.2.2.2.2 g.bb (AT.2 ⟨_,AT.2 ⟨g,hg,rfl⟩,rfl⟩) bb AI heq
  have asks:∀w0 S,aFh AC w0 S [[(ba,row [.int .i64 (α.room:Int),.int .i64 (α.used:Int),.int .i64 (α.peak:Int),.map (some bm)] 104)],[(bm,aEf aIg (l1.map Gr.ent++⟨bb,.int .i64 (n:Int),born⟩::l2.map Gr.ent) ck)],l1.map Gr.obj,[(bb,row [.slice (some ⟨br,0,none⟩) n n] 161)],l2.map Gr.obj] 151 aIg bb (l1.map Gr.ent++⟨bb,.int .i64 (n:Int),born⟩::l2.map Gr.ent):=by
   intro w0 S
   refine aFh.ptr ⟨_,_,Has.there (Has.there (Has.there Has.here))⟩ fun e he=> ?_
   rcases AO.1 he with he|he
   ·obtain⟨g,hg,rfl⟩:=AT.1 he
    exact⟨[.slice (some ⟨g.br,0,none⟩) g.n g.n],161,Has.there (Has.there (Has.in_ (AT.2 ⟨g,hg,rfl⟩)))⟩
   ·rcases AM.1 he with rfl|he
    ·exact⟨_,_,Has.there (Has.there (Has.there Has.here))⟩
    ·obtain⟨g,hg,rfl⟩:=AT.1 he
     exact⟨[.slice (some ⟨g.br,0,none⟩) g.n g.n],161,Has.there (Has.there (Has.there (Has.there (Has.in_ (AT.2 ⟨g,hg,rfl⟩)))))⟩
  apply R1.nodup
  ·exact rfl
  intro hnd
  have hfind:=aTu (k:=bb) (g:=⟨bb,.int .i64 (n:Int),born⟩) rfl (l1.map Gr.ent) (l2.map Gr.ent) 0 (ask hnd)
  dsimp only at hfind
  have hdel:delE bb (l1.map Gr.ent++⟨bb,.int .i64 (n:Int),born⟩::l2.map Gr.ent)=l1.map Gr.ent++l2.map Gr.ent:=by
   unfold delE
   rw[hfind]
   simp only[BR,AX]
   rw[List.eraseIdx_append_of_length_le (by simp)]
   simp
  apply R.lookupT (K:=Nat) (mk:=aIg) (key:=bb)
  ·exact rfl
  ·repeat(first|exact Has.here|apply Has.there)
  ·exact rfl
  ·exact asks _ _
  ·exact hfind
  ·exact rfl
  ·exact nle rfl
  repeat(refine st ?_;intros)
  apply R.delete (K:=Nat) (mk:=aIg) (key:=bb)
  ·exact rfl
  ·repeat(first|exact Has.here|apply Has.there)
  ·exact rfl
  ·exact asks _ _
  ·exact hdel
  ·repeat(first|exact Upd.here|apply Upd.there)
  ·exact rfl
  repeat(refine st ?_;intros)
  (refine Dn.post (Hr:=[[(ba,row [.int .i64 (α.room:Int),.int .i64 ((α.used:Int)-(n:Int)),.int .i64 (α.peak:Int),.map (some bm)] 104)],[(bm,aEf aIg (l1.map Gr.ent++l2.map Gr.ent) ck)],l1.map Gr.obj,l2.map Gr.obj]) Tryz.results100 (hR:= ?_);refine⟨rfl,?_⟩)
  have e1:((α.release ⟨bb,br,n,born⟩ (l1++l2)).used:Int)=(α.used:Int)-(n:Int):=by simp only[Ar.release];omega
  rw[e1]
  rfl
 ·rintro v H' ⟨rfl,rfl⟩
  refine⟨_,⟨_,rfl,⟨bm,ck,rfl,?_,?_,?_,?_,?_⟩,rfl⟩,?_⟩
  ·simp only[Ar.release];omega
  ·simp only[Ar.release];omega
  ·simp only[Ar.release];omega
  ·simp only[Ar.release];omega
  ·simp only[Ar.release,AV,CT];omega
  ·simp[Ar.release]
theorem bMd (ba:Nat) (α:Ar) (c:aAc) (h:aEg ba α c):CtQ AC 59 [.pointer (some ⟨ba,0,none⟩)] [c] (.int .i64 (α.peak:Int)):=by
 obtain⟨bm,ck,rfl,_⟩:=h
 refine CtQ.conv (H2:=[[(ba,row (aDg α bm) 104)],(bm,aEf aIg (α.gs.map Gr.ent) ck)::α.gs.map Gr.obj]) ?_ rfl
 unfold aDg
 refine Ct.intro Tryz.func59 rfl Tryz.ntmps59 (nle rfl) fun w0=> ?_;dsimp only[aAa,AD]
 repeat(refine st ?_;intros)
 (refine Dn.post (Hr:=[[(ba,row [.int .i64 (α.room:Int),.int .i64 (α.used:Int),.int .i64 (α.peak:Int),.map (some bm)] 104)],(bm,aEf aIg (α.gs.map Gr.ent) ck)::α.gs.map Gr.obj]) Tryz.results59 (hR:= ?_);exact⟨rfl,rfl⟩)
theorem aWu (room:Nat) (hr:room≤1000000000):Ct AC 39 [.int .i64 (room:Int)] [] fun v H'=>
  ∃ba c',v= .pointer (some ⟨ba,0,none⟩)∧aEg ba ⟨room,0,0,[]⟩ c'∧H'=[c']:=by
 refine Ct.conv (H2:=[]) (R2:=fun v H'=>∃ba bm,v= .pointer (some ⟨ba,0,none⟩)∧H'=[[(ba,row [.int .i64 (room:Int),.int .i64 0,.int .i64 0,.map (some bm)] 104)],[(bm,aEf aIg [] 0)]]) ?_ rfl ?_
 ·have hmax:max (room:Int) 0=(room:Int):=by omega
  refine Ct.intro Tryz.func39 rfl Tryz.ntmps39 (nle rfl) fun w0=> ?_;dsimp only[aAa,AD]
  repeat(refine st ?_;intros)
  rename_i bm ba
  (refine Dn.post (Hr:=[[(ba,row [.int .i64 (max (room:Int) 0),.int .i64 0,.int .i64 0,.map (some bm)] 104)],[(bm,aEf aIg [] 0)]]) Tryz.results39 (hR:= ?_);exact⟨ba,bm,rfl,by rw[hmax]⟩)
 ·rintro v H' ⟨ba,bm,rfl,rfl⟩
  exact⟨_,⟨ba,_,rfl,⟨bm,0,rfl,by dsimp only;omega,hr,by dsimp only;omega,by dsimp only;omega,rfl⟩,rfl⟩,by simp[aDg]⟩
end Go.Proofs.YtammjnjpheobaaaGreat
namespace Go.Tup
structure T5 where
 c0:Int
 c1:Int
 c2:Int
 c3:Int
 c4:Int
 deriving DecidableEq
def T5.toList (t:T5):List Int:=[t.c0,t.c1,t.c2,t.c3,t.c4]
def T5.col (t:T5):Nat→Int
 |0=>t.c0
 |1=>t.c1
 |2=>t.c2
 |3=>t.c3
 |4=>t.c4
 |_=>0
def fGo:List Int→Bool→(Nat→Bool)→Bool
 |[],_,_=>true
 |k::ks,over,s=>
  if(over=true∧k≠0)∨k< -5∨5<k then false
  else if k=0 then fGo ks true s
  else if s k.natAbs=true then false
  else fGo ks over (fun j=>if j=k.natAbs then true else s j)
def aGb (o:T5):Bool:=fGo o.toList false (fun _=>false)
theorem aLl:∀(l:List Int) (over:Bool) (s:Nat→Bool),fGo l over s=true→∀k∈l,-5≤k∧k≤5
 |[],_,_,_,k,hk=>by cases hk
 |x::l,over,s,h,k,hk=>by
  unfold fGo at h
  split at h
  ·cases h
  ·rename_i hb
   have hx: -5≤x∧x≤5:=by omega
   rcases List.mem_cons.1 hk with rfl|hk
   ·exact hx
   ·split at h
    ·exact aLl l _ _ h k hk
    ·split at h
     ·cases h
     ·exact aLl l _ _ h k hk
theorem aRn {o:T5} (h:aGb o=true):∀k∈o.toList,-5≤k∧k≤5:=aLl _ _ _ h
def aLm (x y:Int):Int:=if x<y then-1 else if y<x then 1 else 0
def bAx:List Int→T5→T5→Int
 |[],_,_=>0
 |k::ks,a,b=>
  if k=0 then 0
  else
   let c:=if k<0 then aLm (b.col (k.natAbs-1)) (a.col (k.natAbs-1)) else aLm (a.col (k.natAbs-1)) (b.col (k.natAbs-1))
   if c≠0 then c else bAx ks a b
def aJo (o a b:T5):Int:=if aGb o=true then bAx o.toList a b else 0
end Go.Tup
namespace Go.Proofs.YtammjnjpheobaaaGreat
open Go.SL Go.Tup
theorem aEh (o0 o1 o2 o3 o4:Int):CtQ AC 127 [.agg #[.int .i64 o0,.int .i64 o1,.int .i64 o2,.int .i64 o3,.int .i64 o4]] [] (.bool (aGb ⟨o0,o1,o2,o3,o4⟩)):=by
 refine Ct.intro Tryz.func127 rfl Tryz.ntmps127 (nle rfl) fun w0=> ?_;dsimp only[aAa,AD]
 repeat(refine st ?_;intros)
 rename_i b1 b2
 refine G.loop (X:=Nat×Bool×(Nat→Bool)) (fun x=>x.1≤5∧aGb ⟨o0,o1,o2,o3,o4⟩=fGo ([o0,o1,o2,o3,o4].drop x.1) x.2.1 x.2.2)
  (fun x=>[(8,.int .i64 (x.1:Int)),(7,.agg #[.int .i64 o0,.int .i64 o1,.int .i64 o2,.int .i64 o3,.int .i64 o4]),(4,.bool x.2.1),(3,.pointer (some ⟨b2,0,none⟩))])
  (fun x=>[[(b2,row [.bool (x.2.2 0),.bool (x.2.2 1),.bool (x.2.2 2),.bool (x.2.2 3),.bool (x.2.2 4),.bool (x.2.2 5)] 208)]])
  (fun x=>5-x.1) (0,false,fun _=>false) ⟨by decide,rfl⟩ (body:= ?_)
 rintro⟨i,over,s⟩ ⟨hi,hf⟩
 dsimp only at hi hf⊢
 by_cases h5:i<5
 ·obtain⟨k,hk,hd⟩:∃k,([.int .i64 o0,.int .i64 o1,.int .i64 o2,.int .i64 o3,.int .i64 o4]:List Value)[i]? =some (.int .i64 k)∧
    [o0,o1,o2,o3,o4].drop i=k::[o0,o1,o2,o3,o4].drop (i+1):=by
   match i with
   |0=>exact⟨o0,rfl,rfl⟩
   |1=>exact⟨o1,rfl,rfl⟩
   |2=>exact⟨o2,rfl,rfl⟩
   |3=>exact⟨o3,rfl,rfl⟩
   |4=>exact⟨o4,rfl,rfl⟩
  rw[hd,fGo] at hf
  have hm1:∀k:Int,(max k (-k)).toNat=k.natAbs:=by intro k;omega
  have hm2:=hm1 k
  have hc: -5≤k→k≤5→([.bool (s 0),.bool (s 1),.bool (s 2),.bool (s 3),.bool (s 4),.bool (s 5)]:List Value)[k.natAbs]? =some (.bool (s k.natAbs)):=by
   intro h1 h2
   obtain h|h|h|h|h|h:k.natAbs=0∨k.natAbs=1∨k.natAbs=2∨k.natAbs=3∨k.natAbs=4∨k.natAbs=5:=by omega
   all_goals rw[h];rfl
  have hset: -5≤k→k≤5→([.bool (s 0),.bool (s 1),.bool (s 2),.bool (s 3),.bool (s 4),.bool (s 5)]:List Value).set k.natAbs (.bool true)=
    [.bool (if 0=k.natAbs then true else s 0),.bool (if 1=k.natAbs then true else s 1),.bool (if 2=k.natAbs then true else s 2),
     .bool (if 3=k.natAbs then true else s 3),.bool (if 4=k.natAbs then true else s 4),.bool (if 5=k.natAbs then true else s 5)]:=by
   intro h1 h2
   obtain h|h|h|h|h|h:k.natAbs=0∨k.natAbs=1∨k.natAbs=2∨k.natAbs=3∨k.natAbs=4∨k.natAbs=5:=by omega
   all_goals rw[h];rfl
  by_cases hb:k< -5∨5<k
  ·rw[if_pos (Or.inr hb)] at hf
   cases over
   all_goals repeat' (first|(refine st ?_;intros)|(refine sp ?_ ?_<;>intros)|fail)
   all_goals(refine Dn.post (Hr:=[]) Tryz.results127 (hR:= ?_);exact⟨congrArg Value.bool hf.symm,rfl⟩)
  ·have hc':=hc (by omega) (by omega)
   have hset':=hset (by omega) (by omega)
   have hle:k.natAbs<6:=by omega
   by_cases h0:k=0
   ·rw[if_neg (by simp[h0]),if_pos h0] at hf
    cases over
    all_goals repeat' (first|(refine st ?_;intros)|(refine sp ?_ ?_<;>intros)|fail)
    all_goals exact Dn.round (i+1,true,s) ⟨by omega,hf⟩ (by dsimp only;omega)
   ·cases over
    ·rw[if_neg (by simp;omega),if_neg h0] at hf
     by_cases hs:s k.natAbs=true
     ·rw[if_pos hs] at hf
      rw[hs] at hc'
      repeat' (first|(refine st ?_;intros)|(refine sp ?_ ?_<;>intros)|fail)
      (refine Dn.post (Hr:=[]) Tryz.results127 (hR:= ?_);exact⟨congrArg Value.bool hf.symm,rfl⟩)
     ·rw[if_neg hs] at hf
      simp only[Bool.not_eq_true] at hs
      rw[hs] at hc'
      repeat' (first|(refine st ?_;intros)|(refine sp ?_ ?_<;>intros)|fail)
      exact Dn.round (i+1,false,fun j=>if j=k.natAbs then true else s j) ⟨by omega,hf⟩ (by dsimp only;omega)
    ·rw[if_pos (by simp[h0])] at hf
     repeat' (first|(refine st ?_;intros)|(refine sp ?_ ?_<;>intros)|fail)
     (refine Dn.post (Hr:=[]) Tryz.results127 (hR:= ?_);exact⟨congrArg Value.bool hf.symm,rfl⟩)
 ·repeat' (first|(refine st ?_;intros)|(refine sp ?_ ?_<;>intros)|fail)
  obtain rfl:i=5:=by omega
  (refine Dn.post (Hr:=[]) Tryz.results127 (hR:= ?_);exact⟨congrArg Value.bool (hf.trans rfl).symm,rfl⟩)
def tv (t:T5):Value:= .agg #[.int .i64 t.c0,.int .i64 t.c1,.int .i64 t.c2,.int .i64 t.c3,.int .i64 t.c4]
theorem bHw (x:Int):CtQ AC 201 [.int .i64 x] [] (.bool false):=by
 refine Ct.intro Tryz.func201 rfl Tryz.ntmps201 (nle rfl) fun w0=> ?_;dsimp only[aAa,AD]
 repeat(refine st ?_;intros)
 (refine Dn.post (Hr:=[]) Tryz.results201 (hR:= ?_);exact⟨by simp[aJv,aCm],rfl⟩)
theorem aMi (x y:Int):CtQ AC 199 [.int .i64 x,.int .i64 y] [] (.int .i64 (aLm x y)):=by
 refine Ct.intro Tryz.func199 rfl Tryz.ntmps199 (nle rfl) fun w0=> ?_;dsimp only[aAa,AD]
 repeat' (first|(refine st ?_;intros)|(refine cq bHw ?_)|(refine sp ?_ ?_<;>intros)|fail)
 all_goals(refine Dn.post (Hr:=[]) Tryz.results199 (hR:= ?_);refine⟨?_,rfl⟩)
 all_goals simp only[aJv,aLm]
 all_goals first|rw[if_pos (by assumption)]|rw[if_neg (by assumption),if_pos (by assumption)]|rw[if_neg (by assumption),if_neg (by assumption)]
theorem aRo (a0 a1 a2 a3 a4 k:Int) (h1:1≤k) (h2:k≤5):
  ([.int .i64 a0,.int .i64 a1,.int .i64 a2,.int .i64 a3,.int .i64 a4]:List Value)[(k-1).toNat]? =some (.int .i64 (T5.col ⟨a0,a1,a2,a3,a4⟩ (k.natAbs-1))):=by
 obtain rfl|rfl|rfl|rfl|rfl:k=1∨k=2∨k=3∨k=4∨k=5:=by omega
 all_goals rfl
theorem bHx (o0 o1 o2 o3 o4:Int) (i:Nat) (h:i<5):∃k,([.int .i64 o0,.int .i64 o1,.int .i64 o2,.int .i64 o3,.int .i64 o4]:List Value)[i]? =some (.int .i64 k)∧
  [o0,o1,o2,o3,o4].drop i=k::[o0,o1,o2,o3,o4].drop (i+1)∧k∈[o0,o1,o2,o3,o4]:=by
 match i with
 |0=>exact⟨o0,rfl,rfl,by simp⟩
 |1=>exact⟨o1,rfl,rfl,by simp⟩
 |2=>exact⟨o2,rfl,rfl,by simp⟩
 |3=>exact⟨o3,rfl,rfl,by simp⟩
 |4=>exact⟨o4,rfl,rfl,by simp⟩
theorem aLn (a0 a1 a2 a3 a4 c0 c1 c2 c3 c4 o0 o1 o2 o3 o4:Int):
  CtQ AC 193 [.agg #[.int .i64 a0,.int .i64 a1,.int .i64 a2,.int .i64 a3,.int .i64 a4],.agg #[.int .i64 c0,.int .i64 c1,.int .i64 c2,.int .i64 c3,.int .i64 c4],
   .agg #[.int .i64 o0,.int .i64 o1,.int .i64 o2,.int .i64 o3,.int .i64 o4]] [] (.int .i64 (aJo ⟨o0,o1,o2,o3,o4⟩ ⟨a0,a1,a2,a3,a4⟩ ⟨c0,c1,c2,c3,c4⟩)):=by
 refine Ct.intro Tryz.func193 rfl Tryz.ntmps193 (nle rfl) fun w0=> ?_;dsimp only[aAa,AD]
 by_cases hF:aGb ⟨o0,o1,o2,o3,o4⟩=true
 ·have hfb:=aRn hF
  simp only[T5.toList] at hfb
  simp only[aJo,hF,if_true,T5.toList]
  have hF':(!aGb ⟨o0,o1,o2,o3,o4⟩)=false:=by rw[hF];rfl
  generalize hres:bAx [o0,o1,o2,o3,o4] ⟨a0,a1,a2,a3,a4⟩ ⟨c0,c1,c2,c3,c4⟩=res
  repeat(first|(refine st ?_;intros)|refine G.draw (id:=9) [(8,.quiet)] (h:= ?_)|refine G.draw (id:=13) [(8,.quiet)] (h:= ?_)|(refine cq aEh ?_)|(refine cq aMi ?_))
  rename_i b1 b2 b3
  refine G.loop (X:=Nat) (fun i=>i≤5∧res=bAx ([o0,o1,o2,o3,o4].drop i) ⟨a0,a1,a2,a3,a4⟩ ⟨c0,c1,c2,c3,c4⟩)
   (fun i=>[(15,.int .i64 (i:Int)),(14,.agg #[.int .i64 o0,.int .i64 o1,.int .i64 o2,.int .i64 o3,.int .i64 o4]),(3,.pointer (some ⟨b1,0,none⟩)),(4,.pointer (some ⟨b2,0,none⟩))])
   (fun _=>[[(b1,row [.int .i64 a0,.int .i64 a1,.int .i64 a2,.int .i64 a3,.int .i64 a4] 49)],[(b2,row [.int .i64 c0,.int .i64 c1,.int .i64 c2,.int .i64 c3,.int .i64 c4] 49)]])
   (fun i=>5-i) 0 ⟨by decide,hres.symm⟩ (body:= ?_)
  rintro i ⟨hi,hf⟩
  by_cases h5:i<5
  ·obtain⟨k,hk,hd,hm⟩:=bHx o0 o1 o2 o3 o4 i h5
   obtain⟨hk1,hk2⟩:=hfb k hm
   rw[hd,bAx] at hf
   by_cases h0:k=0
   ·rw[if_pos h0] at hf
    repeat(first|(refine st ?_;intros)|refine G.draw (id:=9) [(8,.quiet)] (h:= ?_)|refine G.draw (id:=13) [(8,.quiet)] (h:= ?_)|(refine cq aEh ?_)|(refine cq aMi ?_))
    (refine Dn.post (Hr:=[]) Tryz.results193 (hR:= ?_);exact⟨congrArg (Value.int .i64) hf.symm,rfl⟩)
   ·rw[if_neg h0] at hf
    by_cases hn:k<0
    ·have g1:=aRo a0 a1 a2 a3 a4 (-k) (by omega) (by omega)
     have g2:=aRo c0 c1 c2 c3 c4 (-k) (by omega) (by omega)
     rw[Int.natAbs_neg] at g1 g2
     simp only[hn,if_true] at hf
     by_cases hz:aLm (T5.col ⟨c0,c1,c2,c3,c4⟩ (k.natAbs-1)) (T5.col ⟨a0,a1,a2,a3,a4⟩ (k.natAbs-1))=0
     ·rw[if_neg (by simpa using hz)] at hf
      repeat(first|(refine st ?_;intros)|refine G.draw (id:=9) [(8,.quiet)] (h:= ?_)|refine G.draw (id:=13) [(8,.quiet)] (h:= ?_)|(refine cq aEh ?_)|(refine cq aMi ?_))
      exact Dn.round (i+1) ⟨by omega,hf⟩ (by omega)
     ·rw[if_pos hz] at hf
      repeat(first|(refine st ?_;intros)|refine G.draw (id:=9) [(8,.quiet)] (h:= ?_)|refine G.draw (id:=13) [(8,.quiet)] (h:= ?_)|(refine cq aEh ?_)|(refine cq aMi ?_))
      (refine Dn.post (Hr:=[]) Tryz.results193 (hR:= ?_);exact⟨congrArg (Value.int .i64) hf.symm,rfl⟩)
    ·have g1:=aRo a0 a1 a2 a3 a4 k (by omega) (by omega)
     have g2:=aRo c0 c1 c2 c3 c4 k (by omega) (by omega)
     simp only[hn,if_false] at hf
     by_cases hz:aLm (T5.col ⟨a0,a1,a2,a3,a4⟩ (k.natAbs-1)) (T5.col ⟨c0,c1,c2,c3,c4⟩ (k.natAbs-1))=0
     ·rw[if_neg (by simpa using hz)] at hf
      repeat(first|(refine st ?_;intros)|refine G.draw (id:=9) [(8,.quiet)] (h:= ?_)|refine G.draw (id:=13) [(8,.quiet)] (h:= ?_)|(refine cq aEh ?_)|(refine cq aMi ?_))
      exact Dn.round (i+1) ⟨by omega,hf⟩ (by omega)
     ·rw[if_pos hz] at hf
      repeat(first|(refine st ?_;intros)|refine G.draw (id:=9) [(8,.quiet)] (h:= ?_)|refine G.draw (id:=13) [(8,.quiet)] (h:= ?_)|(refine cq aEh ?_)|(refine cq aMi ?_))
      (refine Dn.post (Hr:=[]) Tryz.results193 (hR:= ?_);exact⟨congrArg (Value.int .i64) hf.symm,rfl⟩)
  ·repeat(first|(refine st ?_;intros)|refine G.draw (id:=9) [(8,.quiet)] (h:= ?_)|refine G.draw (id:=13) [(8,.quiet)] (h:= ?_)|(refine cq aEh ?_)|(refine cq aMi ?_))
   obtain rfl:i=5:=by omega
   (refine Dn.post (Hr:=[]) Tryz.results193 (hR:= ?_);exact⟨congrArg (Value.int .i64) hf.symm,rfl⟩)
 ·simp only[Bool.not_eq_true] at hF
  simp only[aJo,hF]
  have hF':(!aGb ⟨o0,o1,o2,o3,o4⟩)=true:=by rw[hF];rfl
  repeat(first|(refine st ?_;intros)|refine G.draw (id:=9) [(8,.quiet)] (h:= ?_)|refine G.draw (id:=13) [(8,.quiet)] (h:= ?_)|(refine cq aEh ?_)|(refine cq aMi ?_))
  (refine Dn.post (Hr:=[]) Tryz.results193 (hR:= ?_);exact⟨rfl,rfl⟩)
open Go.Spc
abbrev pv (b:Nat):Value:= .pointer (some ⟨b,0,none⟩)
abbrev wd (c:Int):Int:=AH .u64 c
def aBa (c:Int):Prop:= -9223372036854775808≤c∧c≤9223372036854775807
def okT (k:Nat) (t:T5):Prop:=(∀c∈t.toList,aBa c)∧∀i,k≤i→t.col i=0
theorem aTv {c:Int} (h:aBa c):AH .i64 (wd c)=c:=by
 obtain⟨h1,h2⟩:=h
 have h3:(9223372036854775808:Int)=2^(64-1):=by decide
 simp only[wd,AH,IntKind.bits,IntKind.signed,Bool.true_and,Bool.false_and,decide_eq_true_eq,←h3]
 simp
 split<;>omega
def tw (k:Nat) (t:T5):List Int:=(t.toList.take k).map wd
def aBo (k:Nat) (ts:List T5):List Int:=ts.flatMap (tw k)
theorem aCn {k:Nat} (t:T5) (hk:k≤5):(tw k t).length=k:=by simp[tw,T5.toList];omega
theorem aCf {k:Nat} (hk:k≤5) (ts:List T5):(aBo k ts).length=ts.length*k:=by
 induction ts with
 |nil=>simp[aBo]
 |cons t ts ih=>
  simp only[aBo,List.flatMap_cons,AF,aCn t hk,AL] at ih⊢
  rw[ih,BD];omega
@[simp] theorem aNv (k:Nat) (a b:List T5):aBo k (a++b)=aBo k a++aBo k b:=by simp[aBo]
@[simp] theorem words_nil (k:Nat):aBo k []=[]:=rfl
def bMe (d:Nat→Option (List Int)) (size k h first:Nat) (ts:List T5) (nb:Nat):Prop:=
 ∀j,j<nb→d (first+j)=some (aDd size ((first+j:Nat):Int) (k:Int) (aBo k ((ts.drop (j*h)).take h)))
structure Fl where
 first:Nat
 blocks:Nat
 width:Nat
 count:Nat
 deriving DecidableEq
def Fl.ext (f:Fl):Ext:=(f.first,f.blocks)
def flv (f:Fl):Value:= .agg #[.int .i64 (f.first:Int),.int .i64 (f.blocks:Int),.int .i64 (f.width:Int),.int .i64 (f.count:Int)]
abbrev aAf (size k:Nat):Nat:=(size-2)/k
abbrev aAb (size k c:Nat):Nat:=(c+aAf size k-1)/aAf size k
structure aAq (d:Nat→Option (List Int)) (size:Nat) (Lv:List Ext) (f:Fl) (ts:List T5):Prop where
 w1:1≤f.width
 w2:f.width≤5
 len:ts.length=f.count
 cnt:f.count≤100000000
 blk:f.blocks=aAb size f.width f.count
 fit:∀t∈ts,okT f.width t
 onto:bMe d size f.width (aAf size f.width) f.first ts f.blocks
 live:f.blocks≠0→f.ext∈Lv
theorem aAq.keep {d d':Nat→Option (List Int)} {size:Nat} {Lv:List Ext} {f:Fl} {ts:List T5} (h:aAq d size Lv f ts) (hd:∀x,inF Lv x→d' x=d x):aAq d' size Lv f ts:=by
 have ho:bMe d' size f.width (aAf size f.width) f.first ts f.blocks:=by
  intro j hj
  rw[hd]
  ·exact h.onto j hj
  ·exact⟨f.ext,h.live (by omega),by simp[Fl.ext],by simp[Fl.ext];omega⟩
 exact{h with onto:=ho}
theorem aAq.sub {d:Nat→Option (List Int)} {size:Nat} {Lv Lv':List Ext} {f:Fl} {ts:List T5} (h:aAq d size Lv f ts) (hs:∀e∈Lv,e∈Lv'):aAq d size Lv' f ts:=
 {h with live:=fun hb=>hs _ (h.live hb)}
structure aTw (σ:Sp) (live:List Ext):Prop where
 fit:∀e∈live,1≤e.2∧e.1+e.2≤σ.n
 apart:live.Pairwise fun a b=>a.1+a.2≤b.1∨b.1+b.2≤a.1
 free:∀x,x<σ.n→(inF σ.free x↔¬inF live x)
 sum:aBb σ.free+aBb live=σ.n
theorem aFp {a b:List Ext} (h:a.Perm b):aBb a=aBb b:=(h.map _).sum_nat
theorem aGc {a b:List Ext} (h:a.Perm b) (x:Nat):inF a x↔inF b x:=by
 unfold inF
 constructor
 ·rintro⟨e,he,h2⟩;exact⟨e,h.mem_iff.1 he,h2⟩
 ·rintro⟨e,he,h2⟩;exact⟨e,h.mem_iff.2 he,h2⟩
theorem aTw.perm {σ:Sp} {l l':List Ext} (h:aTw σ l) (hp:l.Perm l'):aTw σ l' where
 fit:=fun e he=>h.fit e (hp.mem_iff.2 he)
 apart:=(hp.pairwise_iff (fun {a b} hab=>hab.symm)).1 h.apart
 free:=fun x hx=>by rw[h.free x hx,aGc hp]
 sum:=by rw[←aFp hp];exact h.sum
theorem aTw.other {σ:Sp} {e:Ext} {l:List Ext} (h:aTw σ (e::l)) {x:Nat} (h1:e.1≤x) (h2:x<e.1+e.2):¬inF l x:=by
 rintro⟨y,hy,h3,h4⟩
 have:=List.rel_of_pairwise_cons h.apart hy
 omega
structure Wk where
 δ:Dv
 α:Ar
 σ:Sp
 live:List Ext
def aKm (ba:Nat) (α:Ar) (c:aAc):Prop:=∃c0,aEg ba α c0∧c.Perm c0
theorem aKm.perm {ba:Nat} {α:Ar} {c c':aAc} (h:aKm ba α c) (hp:c'.Perm c):aKm ba α c':=
 let ⟨c0,h1,h2⟩:=h;⟨c0,h1,hp.trans h2⟩
theorem aEg.ar {ba:Nat} {α:Ar} {c:aAc} (h:aEg ba α c):aKm ba α c:=⟨c,h,.refl _⟩
theorem aKm.open_ {ba:Nat} {α:Ar} {c:aAc} (h:aKm ba α c) {g:Gr} (hg:g∈α.gs):∃c1,c.Perm (c1++[g.obj]):=by
 obtain⟨c0,⟨bm,ck,rfl,_⟩,hp⟩:=h
 have hm:g.obj∈((ba,row (aDg α bm) 104)::(bm,aEf aIg (α.gs.map Gr.ent) ck)::α.gs.map Gr.obj):=by
  simp only[AM,AT]
  exact .inr (.inr ⟨g,hg,rfl⟩)
 obtain⟨l1,l2,he⟩:=D3 hm
 refine⟨l1++l2,hp.trans ?_⟩
 rw[he]
 exact B0.trans (CA (l₁:=[g.obj]))
theorem aKm.num {ba:Nat} {α:Ar} {c:aAc} (h:aKm ba α c):α.used≤α.room∧α.room≤1000000000∧α.peak≤α.room∧α.used=(α.gs.map (·.n)).sum:=by
 obtain⟨c0,⟨bm,ck,_,h1,h2,h3,_,h5⟩,_⟩:=h
 exact⟨h1,h2,h3,h5⟩
def aAh (bw bd ba bs:Nat):aAc:=[(bw,row [pv bd,pv ba,pv bs] 101)]
structure Wc (bd ba bs:Nat) (W:Wk) (cd ca cs:aAc):Prop where
 dev:aDt bd W.δ cd
 ar:aKm ba W.α ca
 sp:aEr bs W.σ cs
 nn:W.δ.blocks=W.σ.n
 live:aTw W.σ W.live
theorem aDt.num {bd:Nat} {δ:Dv} {c:aAc} (h:aDt bd δ c):(8≤δ.size∧δ.size≤256)∧δ.blocks≤1000000∧(-1≤δ.fault∧δ.fault≤1000000000):=by
 obtain⟨bl,bn,pp,np,cp,xs,pc,es,ck,junk,_,_,_,_,_,h1,h2,h3⟩:=h
 exact⟨h1,h2,h3⟩
structure Ev (W W':Wk) (k m:Nat):Prop where
 size:W'.δ.size=W.δ.size
 n:W'.σ.n=W.σ.n
 acts:W.δ.acts≤W'.δ.acts∧W'.δ.acts≤W.δ.acts+k
 fault:W.δ.fault= -1→W'.δ.fault= -1
 room:W'.α.room=W.α.room
 big:big W.σ.free≤big W'.σ.free+m
theorem Ev.refl (W:Wk):Ev W W 0 0:=⟨rfl,rfl,⟨AG _,AG _⟩,id,rfl,AG _⟩
theorem Ev.trans {W W1 W2:Wk} {k1 m1 k2 m2:Nat} (h:Ev W W1 k1 m1) (h2:Ev W1 W2 k2 m2):Ev W W2 (k1+k2) (m1+m2):=
 ⟨h2.size.trans h.size,h2.n.trans h.n,⟨BA h.acts.1 h2.acts.1,by have:=h.acts.2;have:=h2.acts.2;omega⟩,fun e=>h2.fault (h.fault e),h2.room.trans h.room,by have:=h.big;have:=h2.big;omega⟩
theorem Ev.weak {W W':Wk} {k m k' m':Nat} (h:Ev W W' k m) (hk:k≤k') (hm:m≤m'):Ev W W' k' m':=
 {h with acts:=⟨h.acts.1,BA h.acts.2 (by omega)⟩,big:=BA h.big (by omega)}
theorem aWv {c c0:aAc} (h:c.Perm c0):(([c]:Hp).flatten).Perm (([c0]:Hp).flatten):=by simpa using h
theorem aRoom (ba:Nat) (α:Ar) (c:aAc) (h:aKm ba α c):CtQ AC 60 [pv ba] [c] (.int .i64 (α.room:Int)):=by
 obtain⟨c0,h1,h2⟩:=h
 exact CtQ.convP (bDg ba α c0 h1) (aWv h2)
theorem bHy (ba:Nat) (α:Ar) (c:aAc) (h:aKm ba α c):CtQ AC 17 [pv ba] [c] (.int .i64 (α.used:Int)):=by
 obtain⟨c0,h1,h2⟩:=h
 exact CtQ.convP (bDh ba α c0 h1) (aWv h2)
theorem aPeak (ba:Nat) (α:Ar) (c:aAc) (h:aKm ba α c):CtQ AC 59 [pv ba] [c] (.int .i64 (α.peak:Int)):=by
 obtain⟨c0,h1,h2⟩:=h
 exact CtQ.convP (bMd ba α c0 h1) (aWv h2)
theorem bHz (ba:Nat) (α:Ar) (c:aAc) (h:aKm ba α c):CtQ AC 79 [pv ba] [c] (.int .i64 ((α.room:Int)-(α.used:Int))):=by
 obtain⟨c0,h1,h2⟩:=h
 exact CtQ.convP (bMc ba α c0 h1) (aWv h2)
theorem aFull (ba:Nat) (α:Ar) (c:aAc) (h:aKm ba α c) (n:Int) (hn:0≤n) (hr:(α.room:Int)-(α.used:Int)<n):CtQ AC 99 [pv ba,.int .i64 n] [c] (.tuple #[.pointer none,.int .i64 7]):=by
 obtain⟨c0,h1,h2⟩:=h
 exact CtQ.convP (bAv ba α c0 h1 n hn hr) (aWv h2)
theorem bDi (ba:Nat) (α:Ar) (c:aAc) (h:aKm ba α c) (n:Nat) (hn:n≤α.room-α.used):Ct AC 99 [pv ba,.int .i64 (n:Int)] [c] fun v H'=>
  ∃(g:Gr) (c':aAc) (α':Ar),g.n=n∧v= .tuple #[pv g.bb,.int .i64 0]∧aKm ba α' c'∧α'.gs.Perm (g::α.gs)∧α'.room=α.room∧H'=[c',[(g.br,row (aAg (BW n 0)) 158)]]:=by
 obtain⟨c0,h1,h2⟩:=h
 refine Ct.convP (bHv ba α c0 h1 n hn) (aWv h2) ?_
 rintro v H' ⟨g,c',e1,e2,e3,rfl⟩
 refine⟨_,⟨g,c',_,e1,e2,e3.ar,?_,rfl,rfl⟩,?_⟩
 ·show(α.gs++[g]).Perm _
  exact CA
 ·rw[bKh]
theorem aDh (ba:Nat) (α:Ar) (c:aAc) (h:aKm ba α c) (g:Gr) (G:List Gr) (hg:α.gs.Perm (g::G)):Cb AC 100 [pv ba,pv g.bb] [c] fun v H'=>
  ∃(c':aAc) (α':Ar),v= .bool true∧aKm ba α' c'∧α'.gs.Perm G∧α'.room=α.room∧H'=[c']:=by
 obtain⟨c0,h1,h2⟩:=h
 obtain⟨l1,l2,he⟩:=D3 (hg.mem_iff.2 AI)
 refine Cb.conv (bAw ba α c0 h1 l1 l2 g he) (aWv h2) ?_
 rintro v H' ⟨c',rfl,e3,rfl⟩
 refine⟨_,⟨c',_,rfl,e3.ar,?_,rfl,rfl⟩,.refl _⟩
 show(l1++l2).Perm G
 rw[he] at hg
 exact((B0.symm.trans hg)).cons_inv
theorem aFj (ba:Nat) (α:Ar) (c:aAc) (h:aKm ba α c) (g:Gr) (G:List Gr) (hg:α.gs.Perm (g::G)):Ct AC 100 [pv ba,pv g.bb] [c] fun v H'=>
  ∃(c':aAc) (α':Ar),v= .bool true∧aKm ba α' c'∧α'.gs.Perm G∧α'.room=α.room∧H'=[c']:=(aDh ba α c h g G hg).1
theorem aGs (bw bd ba bs:Nat):CtQ AC 24 [pv bw] [aAh bw bd ba bs] (pv bd):=by
 unfold aAh
 refine Ct.intro Tryz.func24 rfl Tryz.ntmps24 (nle rfl) fun w0=> ?_;dsimp only[aAa,AD]
 repeat(refine st ?_;intros)
 (refine Dn.post (Hr:=[[(bw,row [pv bd,pv ba,pv bs] 101)]]) Tryz.results24 (hR:= ?_);exact⟨rfl,rfl⟩)
theorem aGt (bw bd ba bs:Nat):CtQ AC 16 [pv bw] [aAh bw bd ba bs] (pv ba):=by
 unfold aAh
 refine Ct.intro Tryz.func16 rfl Tryz.ntmps16 (nle rfl) fun w0=> ?_;dsimp only[aAa,AD]
 repeat(refine st ?_;intros)
 (refine Dn.post (Hr:=[[(bw,row [pv bd,pv ba,pv bs] 101)]]) Tryz.results16 (hR:= ?_);exact⟨rfl,rfl⟩)
theorem bDj (bw bd ba bs:Nat):CtQ AC 57 [pv bw] [aAh bw bd ba bs] (pv bs):=by
 unfold aAh
 refine Ct.intro Tryz.func57 rfl Tryz.ntmps57 (nle rfl) fun w0=> ?_;dsimp only[aAa,AD]
 repeat(refine st ?_;intros)
 (refine Dn.post (Hr:=[[(bw,row [pv bd,pv ba,pv bs] 101)]]) Tryz.results57 (hR:= ?_);exact⟨rfl,rfl⟩)
theorem aHl (bw bd ba bs:Nat) (δ:Dv) (cd:aAc) (h:aDt bd δ cd) (k:Nat) (h1:1≤k) (h2:k≤5):CtQ AC 97 [pv bw,.int .i64 (k:Int)] [aAh bw bd ba bs,cd] (.int .i64 ((aAf δ.size k:Nat):Int)):=by
 have hS:=aGh bd δ cd h
 obtain⟨hs,_⟩:=h.num
 have hq:((δ.size:Int)-2).tdiv (k:Int)=((aAf δ.size k:Nat):Int):=by
  rw[show(δ.size:Int)-2=((δ.size-2:Nat):Int) by omega,CL (by omega)]
  simp[aAf]
 have hle:aAf δ.size k≤256:=BA (CU _ _) (by omega)
 have hw:AH .i64 (((δ.size:Int)-2).tdiv (k:Int))=((aAf δ.size k:Nat):Int):=by rw[hq];exact aAd (by omega)
 unfold aAh
 refine Ct.intro Tryz.func97 rfl Tryz.ntmps97 (nle rfl) fun w0=> ?_;dsimp only[aAa,AD]
 repeat(first|(refine st ?_;intros)|(refine cq hS ?_))
 (refine Dn.post (Hr:=[[(bw,row [pv bd,pv ba,pv bs] 101)],cd]) Tryz.results97 (hR:= ?_);exact⟨rfl,rfl⟩)
theorem aAj {s k:Nat} (hs:8≤s) (h1:1≤k) (h2:k≤5):1≤aAf s k:=(CI (by omega)).2 (by omega)
theorem aNw {s k:Nat}:aAf s k*k≤s-2:=DK _ _
theorem aNx (bw bd ba bs:Nat) (δ:Dv) (cd:aAc) (h:aDt bd δ cd) (k c:Nat) (h1:1≤k) (h2:k≤5) (hc:c≤100000000):CtQ AC 98 [pv bw,.int .i64 (k:Int),.int .i64 (c:Int)] [aAh bw bd ba bs,cd] (.int .i64 ((aAb δ.size k c:Nat):Int)):=by
 have hS:=aHl bw bd ba bs δ cd h k h1 h2
 obtain⟨hs,_⟩:=h.num
 have hp:=aAj hs.1 h1 h2
 have hle:aAf δ.size k≤256:=BA (CU _ _) (by omega)
 have hq:((c:Int)+((aAf δ.size k:Nat):Int)-1).tdiv ((aAf δ.size k:Nat):Int)=((aAb δ.size k c:Nat):Int):=by
  rw[show(c:Int)+((aAf δ.size k:Nat):Int)-1=((c+aAf δ.size k-1:Nat):Int) by omega,CL (by omega)]
  simp[aAb]
 have hle2:aAb δ.size k c≤1000000000:=BA (CU _ _) (by omega)
 have hw:AH .i64 (((c:Int)+((aAf δ.size k:Nat):Int)-1).tdiv ((aAf δ.size k:Nat):Int))=((aAb δ.size k c:Nat):Int):=by rw[hq];exact aAd (by omega)
 generalize aAf δ.size k=hk at*
 refine Ct.intro Tryz.func98 rfl Tryz.ntmps98 (nle rfl) fun w0=> ?_;dsimp only[aAa,AD]
 repeat(first|(refine st ?_;intros)|(refine cq hS ?_))
 (refine Dn.post (Hr:=[aAh bw bd ba bs,cd]) Tryz.results98 (hR:= ?_);exact⟨rfl,rfl⟩)
def aAu (bw first blocks k count bound bb n at_:Nat) (closed:Bool):List Value:=
 [pv bw,.int .i64 (first:Int),.int .i64 (blocks:Int),.int .i64 (k:Int),.int .i64 (count:Int),.int .i64 (bound:Int),pv bb,.int .i64 (n:Int),.int .i64 (at_:Int),.bool closed]
def bKl (bw bd ba bs:Nat) (W:Wk) (k bound:Nat) (v:Value) (H':Hp):Prop:=
 (aAb W.δ.size k bound≤big W.σ.free∧∃(bx first:Nat) (g:Gr) (cd ca cs:aAc) (W':Wk),v= .tuple #[pv bx,.int .i64 0]∧
  H'=[aAh bw bd ba bs,cd,ca,cs,[(bx,row (aAu bw first (aAb W.δ.size k bound) k 0 bound g.bb 0 0 false) 178)],[(g.br,row (aAg (BW W.δ.size 0)) 158)]]∧
  Wc bd ba bs W' cd ca cs∧Ev W W' 0 (aAb W.δ.size k bound)∧W'.δ=W.δ∧g.n=W.δ.size∧W'.α.gs.Perm (g::W.α.gs)∧
  (if aAb W.δ.size k bound=0 then W'.live=W.live∧W'.σ=W.σ else W'.live=(first,aAb W.δ.size k bound)::W.live))∨
 (big W.σ.free<aAb W.δ.size k bound∧v= .tuple #[.pointer none,.int .i64 5]∧∃(cd ca cs:aAc) (W':Wk),H'=[aAh bw bd ba bs,cd,ca,cs]∧Wc bd ba bs W' cd ca cs∧Ev W W' 0 0∧W'.δ=W.δ∧W'.σ=W.σ∧W'.live=W.live∧W'.α.gs.Perm W.α.gs)
theorem bDk {σ σ':Sp} {live:List Ext} {f m:Nat} (h:aTw σ live) (hm:1≤m) (hn:σ'.n=σ.n) (h1:∀x,f≤x→x<f+m→inF σ.free x) (h2:f+m≤σ.n)
  (h3:∀x,inF σ'.free x↔inF σ.free x∧¬(f≤x∧x<f+m)) (h4:aBb σ'.free+m=aBb σ.free):aTw σ' ((f,m)::live):=by
 refine⟨?_,?_,?_,?_⟩
 ·intro e he
  rw[hn]
  rcases AM.1 he with rfl|he
  ·exact⟨hm,h2⟩
  ·exact h.fit e he
 ·refine BH.2 ⟨fun e he=> ?_,h.apart⟩
  dsimp only
  by_cases hh:f+m≤e.1∨e.1+e.2≤f
  ·exact hh
  ·exfalso
   have hf:=h.fit e he
   have hx:inF σ.free (max f e.1):=h1 _ (by omega) (by omega)
   exact(h.free _ (by omega)).1 hx ⟨e,he,by omega,by omega⟩
 ·intro x hx
  rw[hn] at hx
  rw[h3,h.free x hx,aDk]
  dsimp only
  constructor
  ·rintro⟨a,b⟩ (c|c)
   ·exact b c
   ·exact a c
  ·intro a
   exact⟨fun c=>a (.inr c),fun c=>a (.inl c)⟩
 ·rw[hn,aJa]
  have:=h.sum
  dsimp only
  omega
theorem aIi {σ σ':Sp} {live:List Ext} {f m:Nat} (h:aTw σ ((f,m)::live)) (hn:σ'.n=σ.n)
  (h3:∀x,inF σ'.free x↔inF σ.free x∨(f≤x∧x<f+m)) (h4:aBb σ'.free=aBb σ.free+m):aTw σ' live:=by
 refine⟨fun e he=> ?_,(BH.1 h.apart).2,fun x hx=> ?_,?_⟩
 ·rw[hn];exact h.fit e (AJ _ he)
 ·rw[hn] at hx
  rw[h3,h.free x hx,aDk]
  dsimp only
  constructor
  ·rintro(a|a) hb
   ·exact a (.inr hb)
   ·exact h.other (e:=(f,m)) a.1 a.2 hb
  ·intro a
   by_cases hf:f≤x∧x<f+m
   ·exact .inr hf
   ·left
    rintro(c|c)
    ·exact hf c
    ·exact a c
 ·have:=h.sum
  rw[aJa] at this
  rw[hn]
  dsimp only at this
  omega
theorem aFu {σ:Sp} {live:List Ext} {f m:Nat} (h:aTw σ ((f,m)::live)):(1≤m∧f+m≤σ.n)∧∀x,f≤x→x<f+m→¬inF σ.free x:=by
 refine⟨h.fit _ AI,fun x h1 h2 h3=> ?_⟩
 have:=h.fit _ AI
 dsimp only at this
 exact(h.free x (by omega)).1 h3 (by rw[aDk];exact .inl ⟨h1,h2⟩)
theorem bIa (bw bd ba bs:Nat) (W:Wk) (cd ca cs:aAc) (h:Wc bd ba bs W cd ca cs) (k bound:Nat) (h1:1≤k) (h2:k≤5) (hb:bound≤100000000) (hr:W.δ.size≤W.α.room-W.α.used):
  Ct AC 73 [pv bw,.int .i64 (k:Int),.int .i64 (bound:Int)] [aAh bw bd ba bs,cd,ca,cs] (bKl bw bd ba bs W k bound):=by
 have hH:=aHl bw bd ba bs W.δ cd h.dev k h1 h2
 have hB:=aNx bw bd ba bs W.δ cd h.dev k bound h1 h2 hb
 obtain⟨hs,_⟩:=h.dev.num
 have hp:=aAj hs.1 h1 h2
 have hS:=aGh bd W.δ cd h.dev
 have hn:=h.ar.num
 have hG:=bDi ba W.α ca h.ar W.δ.size (by omega)
 unfold bKl
 have hh6:aAf W.δ.size k≤256:=BA (CU _ _) (by omega)
 have hnb:aAb W.δ.size k bound≤1000000000:=BA (CU _ _) (by omega)
 generalize hnbe:aAb W.δ.size k bound=nb at*
 generalize aAf W.δ.size k=hk at*
 unfold aAh at hH hB⊢
 refine Ct.intro Tryz.func73 rfl Tryz.ntmps73 (nle rfl) fun w0=> ?_;dsimp only[aAa,AD]
 repeat(first|(refine st ?_;intros)|refine G.draw (id:=3) [(8,.quiet)] (h:= ?_)|refine G.draw [] (h:= ?_)|(refine cq hH ?_)|(refine cq hS ?_)|(refine cq hB ?_))
 refine R.call (hct:=hG) (h:= ?_)
 rintro _ _ ⟨g,ca',α',hgn,rfl,hA',hgs,hro,rfl⟩
 try dsimp only[AA,AB]
 repeat(first|(refine st ?_;intros)|refine G.draw (id:=3) [(8,.quiet)] (h:= ?_)|refine G.draw [] (h:= ?_)|(refine cq hH ?_)|(refine cq hS ?_)|(refine cq hB ?_))
 by_cases h0:nb=0
 ·subst h0
  repeat(first|(refine st ?_;intros)|refine G.draw (id:=3) [(8,.quiet)] (h:= ?_)|refine G.draw [] (h:= ?_)|(refine cq hH ?_)|(refine cq hS ?_)|(refine cq hB ?_))
  rename_i bx
  (refine Dn.post (Hr:=[[(bw,row [pv bd,pv ba,pv bs] 101)],cd,ca',cs,[(bx,row (aAu bw 0 0 k 0 bound g.bb 0 0 false) 178)],[(g.br,row (aAg (BW W.δ.size 0)) 158)]]) Tryz.results73 (hR:= ?_);left)
  refine⟨AS _,bx,0,g,cd,ca',cs,{W with α:=α'},rfl,rfl,⟨h.dev,hA',h.sp,h.nn,h.live⟩,⟨rfl,rfl,⟨AG _,AG _⟩,id,hro,AG _⟩,rfl,hgn,hgs,?_⟩
  simp
 ·by_cases hfit:nb≤big W.σ.free
  ·have hT:=bLr bs W.σ cs h.sp nb (by omega) hfit
   repeat(first|(refine st ?_;intros)|refine G.draw (id:=3) [(8,.quiet)] (h:= ?_)|refine G.draw [] (h:= ?_)|(refine cq hH ?_)|(refine cq hS ?_)|(refine cq hB ?_))
   refine R.call (hct:=hT) (h:= ?_)
   rintro _ _ ⟨f,cs',σ',rfl,hS',e1,e2,e3,e4,e5,e6,rfl⟩
   try dsimp only[AA,AB]
   repeat(first|(refine st ?_;intros)|refine G.draw (id:=3) [(8,.quiet)] (h:= ?_)|refine G.draw [] (h:= ?_)|(refine cq hH ?_)|(refine cq hS ?_)|(refine cq hB ?_))
   rename_i bx
   (refine Dn.post (Hr:=[[(bw,row [pv bd,pv ba,pv bs] 101)],cd,ca',cs',[(bx,row (aAu bw f nb k 0 bound g.bb 0 0 false) 178)],[(g.br,row (aAg (BW W.δ.size 0)) 158)]]) Tryz.results73 (hR:= ?_);left)
   refine⟨hfit,bx,f,g,cd,ca',cs',{W with α:=α',σ:=σ',live:=(f,nb)::W.live},rfl,rfl,⟨h.dev,hA',hS',h.nn.trans e1.symm,bDk h.live (by omega) e1 e2 e3 e4 e5⟩,⟨rfl,e1,⟨AG _,AG _⟩,id,hro,e6⟩,rfl,hgn,hgs,?_⟩
   rw[if_neg h0]
  ·have hT:=bCz bs W.σ cs h.sp nb (by omega) (by omega) hnb
   have hR:=aFj ba α' ca' hA' g W.α.gs hgs
   repeat(first|(refine st ?_;intros)|refine G.draw (id:=3) [(8,.quiet)] (h:= ?_)|refine G.draw [] (h:= ?_)|(refine cq hH ?_)|(refine cq hS ?_)|(refine cq hB ?_))
   refine R.call (hct:=hT) (h:= ?_)
   rintro _ _ ⟨rfl,rfl⟩
   try dsimp only[AA,AB]
   repeat(first|(refine st ?_;intros)|refine G.draw (id:=3) [(8,.quiet)] (h:= ?_)|refine G.draw [] (h:= ?_)|(refine cq hH ?_)|(refine cq hS ?_)|(refine cq hB ?_))
   refine R.call (hct:=hR) (h:= ?_)
   rintro _ _ ⟨ca2,α2,rfl,hA2,hg2,hr2,rfl⟩
   try dsimp only[AA,AB]
   repeat(first|(refine st ?_;intros)|refine G.draw (id:=3) [(8,.quiet)] (h:= ?_)|refine G.draw [] (h:= ?_)|(refine cq hH ?_)|(refine cq hS ?_)|(refine cq hB ?_))
   (refine Dn.post (Hr:=[[(bw,row [pv bd,pv ba,pv bs] 101)],cd,ca2,cs]) Tryz.results73 (hR:= ?_);right)
   exact⟨by omega,rfl,cd,ca2,cs,{W with α:=α2},rfl,⟨h.dev,hA2,h.sp,h.nn,h.live⟩,⟨rfl,rfl,⟨AG _,AG _⟩,id,hr2.trans hro,AG _⟩,rfl,rfl,rfl,hg2⟩
def aDm (first nb:Nat) (Lv live:List Ext):Prop:=if nb=0 then live.Perm Lv else live.Perm ((first,nb)::Lv)
def aNy (bw bd ba bs bx:Nat) (W:Wk) (Gs:List Gr) (Lv:List Ext) (first nb k bound bb:Nat) (cb:aAc) (kk:Nat) (δ':Dv) (H':Hp):Prop:=
 ∃(cd ca cs:aAc) (W':Wk) (cnt n a:Nat),H'=[aAh bw bd ba bs,cd,ca,cs,[(bx,row (aAu bw first nb k cnt bound bb n a true) 178)],cb]∧
  Wc bd ba bs W' cd ca cs∧Ev W W' kk 0∧W'.δ=δ'∧W'.α.gs.Perm Gs∧W'.live.Perm Lv
theorem aTx (bw first nb k cnt bound bb n a bx:Nat):Cb AC 75 [pv bx] [[(bx,row (aAu bw first nb k cnt bound bb n a true) 178)]] (fun v' H'=>v'= .tuple #[]∧H'=[[(bx,row (aAu bw first nb k cnt bound bb n a true) 178)]]):=by
 unfold aAu
 refine Cb.intro Tryz.func75 rfl Tryz.ntmps75 (nle rfl) fun w0=> ?_;dsimp only[aAa,AD]
 repeat(first|(refine st ?_;intros)|refine G.draw [] (h:= ?_))
 (refine Dn.post (Hr:=[[(bx,row [pv bw,.int .i64 (first:Int),.int .i64 (nb:Int),.int .i64 (k:Int),.int .i64 (cnt:Int),.int .i64 (bound:Int),pv bb,.int .i64 (n:Int),.int .i64 (a:Int),.bool true] 178)]]) Tryz.results75 (hR:= ?_);exact⟨rfl,rfl⟩)
theorem bDl (bw bd ba bs:Nat) (W:Wk) (cd ca cs:aAc) (h:Wc bd ba bs W cd ca cs) (bx first nb k cnt bound n a:Nat) (g:Gr) (Gs:List Gr) (hg:W.α.gs.Perm (g::Gs)) (Lv:List Ext) (hl:aDm first nb Lv W.live) (cb:aAc):
  Cb AC 75 [pv bx] [aAh bw bd ba bs,cd,ca,cs,[(bx,row (aAu bw first nb k cnt bound g.bb n a false) 178)],cb] fun v H'=>
   v= .tuple #[]∧aNy bw bd ba bs bx W Gs Lv first nb k bound g.bb cb 0 W.δ H':=by
 have hR:=aFj ba W.α ca h.ar g Gs hg
 unfold aAh aAu
 by_cases h0:nb=0
 ·subst h0
  refine Cb.intro Tryz.func75 rfl Tryz.ntmps75 (nle rfl) fun w0=> ?_;dsimp only[aAa,AD]
  repeat(first|(refine st ?_;intros)|refine G.draw [] (h:= ?_))
  refine R.call (hct:=hR) (h:= ?_)
  rintro _ _ ⟨ca',α',rfl,hA',hgs,hro,rfl⟩
  try dsimp only[AA,AB]
  repeat(first|(refine st ?_;intros)|refine G.draw [] (h:= ?_))
  (refine Dn.postEnd (Hr:=[[(bw,row [pv bd,pv ba,pv bs] 101)],cd,ca',cs,[(bx,row [pv bw,.int .i64 (first:Int),.int .i64 ((0:Nat):Int),.int .i64 (k:Int),.int .i64 (cnt:Int),.int .i64 (bound:Int),pv g.bb,.int .i64 (n:Int),.int .i64 (a:Int),.bool true] 178)],cb]) Tryz.results75 (hR:= ?_);refine⟨rfl,?_⟩)
  refine⟨cd,ca',cs,{W with α:=α'},cnt,n,a,rfl,⟨h.dev,hA',h.sp,h.nn,h.live⟩,⟨rfl,rfl,⟨AG _,AG _⟩,id,hro,AG _⟩,rfl,hgs,?_⟩
  simpa[aDm] using hl
 ·unfold aDm at hl
  rw[if_neg h0] at hl
  have hlv:=h.live.perm hl
  obtain⟨⟨f1,f2⟩,f3⟩:=aFu hlv
  have hGv:=aNt bs W.σ cs h.sp first nb f1 f2 f3
  refine Cb.intro Tryz.func75 rfl Tryz.ntmps75 (nle rfl) fun w0=> ?_;dsimp only[aAa,AD]
  repeat(first|(refine st ?_;intros)|refine G.draw [] (h:= ?_))
  refine R.call (hct:=hR) (h:= ?_)
  rintro _ _ ⟨ca',α',rfl,hA',hgs,hro,rfl⟩
  try dsimp only[AA,AB]
  repeat(first|(refine st ?_;intros)|refine G.draw [] (h:= ?_))
  refine R.call (hct:=hGv) (h:= ?_)
  rintro _ _ ⟨cs',σ',rfl,hS',e1,e3,e4,e5,rfl⟩
  try dsimp only[AA,AB]
  repeat(first|(refine st ?_;intros)|refine G.draw [] (h:= ?_))
  (refine Dn.postEnd (Hr:=[[(bw,row [pv bd,pv ba,pv bs] 101)],cd,ca',cs',[(bx,row [pv bw,.int .i64 (first:Int),.int .i64 (nb:Int),.int .i64 (k:Int),.int .i64 (cnt:Int),.int .i64 (bound:Int),pv g.bb,.int .i64 (n:Int),.int .i64 (a:Int),.bool true] 178)],cb]) Tryz.results75 (hR:= ?_);refine⟨rfl,?_⟩)
  exact⟨cd,ca',cs',{W with α:=α',σ:=σ',live:=Lv},cnt,n,a,rfl,⟨h.dev,hA',hS',h.nn.trans e1.symm,aIi hlv e1 e3 e4⟩,⟨rfl,e1,⟨AG _,AG _⟩,id,hro,by show _≤big σ'.free+0;omega⟩,rfl,hgs,.refl _⟩
theorem bMf (bw bd ba bs:Nat) (W:Wk) (cd ca cs:aAc) (h:Wc bd ba bs W cd ca cs) (bx first nb k cnt bound n a:Nat) (g:Gr) (Gs:List Gr) (hg:W.α.gs.Perm (g::Gs)) (Lv:List Ext) (hl:aDm first nb Lv W.live) (cb:aAc):
  Ct AC 75 [pv bx] [aAh bw bd ba bs,cd,ca,cs,[(bx,row (aAu bw first nb k cnt bound g.bb n a false) 178)],cb] fun v H'=>
   v= .tuple #[]∧aNy bw bd ba bs bx W Gs Lv first nb k bound g.bb cb 0 W.δ H':=(bDl bw bd ba bs W cd ca cs h bx first nb k cnt bound n a g Gs hg Lv hl cb).1
def aTy (bw bd ba bs bx:Nat) (W:Wk) (ca cs:aAc) (first nb k cnt bound:Nat) (g:Gr) (a:Nat) (pw:List Int) (cb:aAc) (H':Hp):Prop:=
 ∃cd ca',H'=[aAh bw bd ba bs,cd,ca',cs,[(bx,row (aAu bw first nb k cnt bound g.bb 0 (a+1) false) 178)],cb]∧ca'.Perm ca∧
  aDt bd (W.δ.wrote (first+a) (aDd W.δ.size ((first+a:Nat):Int) (k:Int) pw)) cd
theorem aZa (bw bd ba bs:Nat) (W:Wk) (cd ca cs:aAc) (h:Wc bd ba bs W cd ca cs) (bx first nb k cnt bound n a:Nat) (g:Gr) (hg:g∈W.α.gs) (hgn:g.n=W.δ.size) (buf pw:List Int) (hbl:buf.length=W.δ.size) (hpw:buf.take n=pw) (hpl:pw.length=n)
  (hn:n≤W.δ.size-2) (ha:first+a<W.δ.blocks) (hk:k≤5) (hf:W.δ.fault≠0) (hac:W.δ.acts≤1000000000000):
  Ct AC 124 [pv bx] [aAh bw bd ba bs,cd,ca,cs,[(bx,row (aAu bw first nb k cnt bound g.bb n a false) 178)],[(g.br,row (aAg buf) 158)]] fun v H'=>
   v= .int .i64 0∧aTy bw bd ba bs bx W ca cs first nb k cnt bound g a pw [(g.br,row (aAg buf) 158)] H':=by
 obtain⟨⟨hs1,hs2⟩,hbk,hfr⟩:=h.dev.num
 have hS:=aGh bd W.δ cd h.dev
 obtain⟨c1,hc1⟩:=h.ar.open_ hg
 have hadd:AH .i64 ((first:Int)+(a:Int))=((first+a:Nat):Int):=by rw[←CY];exact aAd (by omega)
 have hP:=fun cap=>bKi W.δ.size ((first+a:Nat):Int) (k:Int) g.br 0 n cap (aAg buf) 158 (0,0) pw ⟨hs1,hs2⟩ (by omega) hn (by rw[C9];rw[←hpw];simp[aAg]) hpl
 have hsl:(aDd W.δ.size ((first+a:Nat):Int) (k:Int) pw).length=W.δ.size:=aIh _ _ _ _ (by omega)
 have hW:=fun bl=>bHu bd W.δ cd h.dev (first+a) ha hf hac bl 0 W.δ.size (aAg (aDd W.δ.size ((first+a:Nat):Int) (k:Int) pw)) 158 (0,0) (aDd W.δ.size ((first+a:Nat):Int) (k:Int) pw) (by rw[C9,A4 (by rw[aBt,hsl];exact AG _)]) hsl
 refine Ct.convP (H2:=[aAh bw bd ba bs,cd,c1,[g.obj],cs,[(bx,row (aAu bw first nb k cnt bound g.bb n a false) 178)],[(g.br,row (aAg buf) 158)]])
  (R2:=fun v H'=>v= .int .i64 0∧∃cd',H'=[aAh bw bd ba bs,cd',c1,[g.obj],cs,[(bx,row (aAu bw first nb k cnt bound g.bb 0 (a+1) false) 178)],[(g.br,row (aAg buf) 158)]]∧aDt bd (W.δ.wrote (first+a) (aDd W.δ.size ((first+a:Nat):Int) (k:Int) pw)) cd') ?_ ?_ ?_
 ·generalize aDd W.δ.size ((first+a:Nat):Int) (k:Int) pw=sw at*
  unfold aAh aAu Gr.obj
  rw[hgn]
  refine Ct.intro Tryz.func124 rfl Tryz.ntmps124 (nle rfl) fun w0=> ?_;dsimp only[aAa,AD]
  repeat(first|(refine st ?_;intros)|refine G.draw (id:=1) [(7,.quiet)] (h:= ?_)|refine G.draw [] (h:= ?_)|(refine cq hS ?_))
  refine R.call (hct:=hP W.δ.size) (h:= ?_)
  rintro _ _ ⟨bl,rfl,rfl⟩
  try dsimp only[AA,AB]
  repeat(first|(refine st ?_;intros)|refine G.draw (id:=1) [(7,.quiet)] (h:= ?_)|refine G.draw [] (h:= ?_)|(refine cq hS ?_))
  refine R.call (hct:=hW bl) (h:= ?_)
  rintro _ _ ⟨cd',rfl,hD',rfl⟩
  try dsimp only[AA,AB]
  repeat(first|(refine st ?_;intros)|refine G.draw (id:=1) [(7,.quiet)] (h:= ?_)|refine G.draw [] (h:= ?_)|(refine cq hS ?_))
  (refine Dn.post (Hr:=[[(bw,row [pv bd,pv ba,pv bs] 101)],cd',c1,[(g.bb,row [.slice (some ⟨g.br,0,none⟩) W.δ.size W.δ.size] 161)],cs,[(bx,row [pv bw,.int .i64 (first:Int),.int .i64 (nb:Int),.int .i64 (k:Int),.int .i64 (cnt:Int),.int .i64 (bound:Int),pv g.bb,.int .i64 0,.int .i64 ((a:Int)+1),.bool false] 178)],[(g.br,row (aAg buf) 158)]]) Tryz.results124 (hR:= ?_);
   exact⟨rfl,cd',rfl,hD'⟩)
 ·simp only[AW,A8,AQ,AR]
  refine BJ _ (BJ _ ?_)
  rw[←AR c1]
  exact CZ _ hc1
 ·rintro v H' ⟨rfl,cd',rfl,hD'⟩
  refine⟨_,⟨rfl,cd',c1++[g.obj],rfl,hc1.symm,hD'⟩,?_⟩
  simp
theorem aNz (bw bd ba bs:Nat) (W:Wk) (cd ca cs:aAc) (h:Wc bd ba bs W cd ca cs) (bx first nb k cnt bound n a:Nat) (g:Gr) (Gs:List Gr) (hg:W.α.gs.Perm (g::Gs)) (Lv:List Ext) (hl:aDm first nb Lv W.live) (hgn:g.n=W.δ.size) (buf pw:List Int) (hbl:buf.length=W.δ.size) (hpw:buf.take n=pw) (hpl:pw.length=n)
  (hn:n≤W.δ.size-2) (ha:first+a<W.δ.blocks) (hk:k≤5) (hf:W.δ.fault=0):
  Ct AC 124 [pv bx] [aAh bw bd ba bs,cd,ca,cs,[(bx,row (aAu bw first nb k cnt bound g.bb n a false) 178)],[(g.br,row (aAg buf) 158)]] fun v H'=>
   v= .int .i64 6∧aNy bw bd ba bs bx W Gs Lv first nb k bound g.bb [(g.br,row (aAg buf) 158)] 0 W.δ.failed H':=by
 obtain⟨⟨hs1,hs2⟩,hbk,hfr⟩:=h.dev.num
 have hS:=aGh bd W.δ cd h.dev
 obtain⟨c1,hc1⟩:=h.ar.open_ (hg.mem_iff.2 AI)
 have hadd:AH .i64 ((first:Int)+(a:Int))=((first+a:Nat):Int):=by rw[←CY];exact aAd (by omega)
 have hP:=fun cap=>bKi W.δ.size ((first+a:Nat):Int) (k:Int) g.br 0 n cap (aAg buf) 158 (0,0) pw ⟨hs1,hs2⟩ (by omega) hn (by rw[C9];rw[←hpw];simp[aAg]) hpl
 have hW:=fun bl=>aWt bd W.δ cd h.dev (first+a) ha hf bl 0 W.δ.size (aAg (aDd W.δ.size ((first+a:Nat):Int) (k:Int) pw)) 158 (0,0)
 have hD:=fun cd' (hd:aDt bd W.δ.failed cd')=>bMf bw bd ba bs {W with δ:=W.δ.failed} cd' (c1++[g.obj]) cs ⟨hd,h.ar.perm hc1.symm,h.sp,h.nn,h.live⟩ bx first nb k cnt bound n a g Gs hg Lv hl [(g.br,row (aAg buf) 158)]
 refine Ct.convP (H2:=[aAh bw bd ba bs,cd,c1,[g.obj],cs,[(bx,row (aAu bw first nb k cnt bound g.bb n a false) 178)],[(g.br,row (aAg buf) 158)]])
  (R2:=fun v H'=>v= .int .i64 6∧aNy bw bd ba bs bx W Gs Lv first nb k bound g.bb [(g.br,row (aAg buf) 158)] 0 W.δ.failed H') ?_ ?_ ?_
 ·generalize aDd W.δ.size ((first+a:Nat):Int) (k:Int) pw=sw at*
  have hobj:([g.obj]:aAc)=[(g.bb,row [.slice (some ⟨g.br,0,none⟩) W.δ.size W.δ.size] 161)]:=by unfold Gr.obj;rw[hgn]
  rw[hobj] at hD⊢
  unfold aAh aAu at hD⊢
  refine Ct.intro Tryz.func124 rfl Tryz.ntmps124 (nle rfl) fun w0=> ?_;dsimp only[aAa,AD]
  repeat(first|(refine st ?_;intros)|refine G.draw (id:=1) [(7,.quiet)] (h:= ?_)|refine G.draw [] (h:= ?_)|(refine cq hS ?_))
  refine R.call (hct:=hP W.δ.size) (h:= ?_)
  rintro _ _ ⟨bl,rfl,rfl⟩
  try dsimp only[AA,AB]
  repeat(first|(refine st ?_;intros)|refine G.draw (id:=1) [(7,.quiet)] (h:= ?_)|refine G.draw [] (h:= ?_)|(refine cq hS ?_))
  refine R.call (hct:=hW bl) (h:= ?_)
  rintro _ _ ⟨cd',rfl,hD',rfl⟩
  try dsimp only[AA,AB]
  repeat(first|(refine st ?_;intros)|refine G.draw (id:=1) [(7,.quiet)] (h:= ?_)|refine G.draw [] (h:= ?_)|(refine cq hS ?_))
  apply R1.join (c1:=c1) (c2:=[(g.bb,row [.slice (some ⟨g.br,0,none⟩) W.δ.size W.δ.size] 161)])
  ·(repeat(first|exact aAn.here|apply aAn.there))
  ·(repeat(first|exact aAn.here|apply aAn.there))
  refine R.call (hct:=hD cd' hD') (h:= ?_)
  rintro _ _ ⟨rfl,cd2,ca2,cs2,W',cnt',n',a',rfl,hgone⟩
  try dsimp only[AA,AB]
  unfold aAh aAu
  repeat(first|(refine st ?_;intros)|refine G.draw (id:=1) [(7,.quiet)] (h:= ?_)|refine G.draw [] (h:= ?_)|(refine cq hS ?_))
  (refine Dn.post (Hr:=[[(bw,row [pv bd,pv ba,pv bs] 101)],cd2,ca2,cs2,[(bx,row [pv bw,.int .i64 (first:Int),.int .i64 (nb:Int),.int .i64 (k:Int),.int .i64 (cnt':Int),.int .i64 (bound:Int),pv g.bb,.int .i64 (n':Int),.int .i64 (a':Int),.bool true] 178)],[(g.br,row (aAg buf) 158)]]) Tryz.results124 (hR:= ?_);refine⟨rfl,cd2,ca2,cs2,W',cnt',n',a',rfl,hgone.1,?_,hgone.2.2⟩)
  have he:=hgone.2.1
  exact⟨he.size,he.n,he.acts,fun e=>by omega,he.room,he.big⟩
 ·simp only[AW,A8,AQ,AR]
  refine BJ _ (BJ _ ?_)
  rw[←AR c1]
  exact CZ _ hc1
 ·rintro v H' ⟨rfl,h2⟩
  exact⟨_,⟨rfl,h2⟩,.refl _⟩
structure aWe (d:Nat→Option (List Int)) (size k nb bound first:Nat) (ps:List T5) (buf:List Int):Prop where
 w1:1≤k
 w2:k≤5
 hb:bound≤100000000
 nbe:nb=aAb size k bound
 cnt:ps.length≤bound
 blen:buf.length=size
 bufw:buf.take ((ps.length%aAf size k)*k)=aBo k (ps.drop ((ps.length/aAf size k)*aAf size k))
 onto:bMe d size k (aAf size k) first ps (ps.length/aAf size k)
 fit:∀t∈ps,okT k t
theorem aRp {h p:Nat} (hh:1≤h):(p%h+1=h→(p+1)/h=p/h+1∧(p+1)%h=0)∧(p%h+1≠h→(p+1)/h=p/h∧(p+1)%h=p%h+1):=by
 have h1:=Nat.div_add_mod p h
 have h2:=Nat.mod_lt p (show 0<h by omega)
 constructor
 ·intro e
  have e2:p+1=h*(p/h+1):=by rw[Nat.mul_succ];omega
  constructor
  ·rw[e2,Nat.mul_div_cancel_left _ (by omega)]
  ·rw[e2,Nat.mul_mod_right]
 ·intro e
  have e2:p+1=p%h+1+h*(p/h):=by omega
  constructor
  ·rw[e2,Nat.add_mul_div_left _ _ (by omega),Nat.div_eq_of_lt (by omega),BR]
  ·rw[e2,Nat.add_mul_mod_self_left,Nat.mod_eq_of_lt (by omega)]
def aOa (buf:List Int) (n:Nat) (ws:List Int):List Int:=buf.take n++(ws++buf.drop (n+ws.length))
theorem aFv {buf ws:List Int} {n:Nat} (h:n+ws.length≤buf.length):(aOa buf n ws).length=buf.length:=by simp[aOa];omega
theorem aZb (buf:List Int) (n:Nat):aOa buf n []=buf:=by simp[aOa]
theorem aTz {buf ws:List Int} {n i:Nat} {w:Int} (hw:ws[i]? =some w) (h:n+ws.length≤buf.length):(aOa buf n (ws.take i)).set (n+i) w=aOa buf n (ws.take (i+1)):=by
 have hi:i<ws.length:=(AK.1 hw).1
 have hwi:ws[i]=w:=(AK.1 hw).2
 have e1:(ws.take i).length=i:=by simp;omega
 have e2:(ws.take (i+1)).length=i+1:=by simp;omega
 unfold aOa
 rw[e1,e2]
 have e3:(buf.take n).length=n:=by simp;omega
 rw[DW _ _ (by omega),e3,show n+i-n=i by omega,DW _ _ (by omega),e1,Nat.sub_self]
 have e4:buf.drop (n+i)=buf[n+i]'(by omega)::buf.drop (n+i+1):=List.drop_eq_getElem_cons (by omega)
 rw[e4,List.set_cons_zero,List.take_add_one,hw,Nat.add_assoc]
 simp
theorem aOb {buf ws:List Int} {n:Nat} (h:n+ws.length≤buf.length):(aOa buf n ws).take (n+ws.length)=buf.take n++ws:=by
 unfold aOa
 rw[←AR,CK (by simp;omega),A4 (by simp;omega)]
theorem aUa {d:Nat→Option (List Int)} {size k h first:Nat} {ps:List T5} {t:T5} {nb:Nat} (ho:bMe d size k h first ps nb) (hn:nb*h≤ps.length):bMe d size k h first (ps++[t]) nb:=by
 intro j hj
 rw[ho j hj]
 have:(j+1)*h≤nb*h:=A5 _ hj
 rw[BD] at this
 rw[CX (by omega),CK (by rw[CE];omega)]
theorem aWe.room {d:Nat→Option (List Int)} {size k nb bound first:Nat} {ps:List T5} {buf:List Int} (h:aWe d size k nb bound first ps buf) (hs:8≤size):(ps.length%aAf size k)*k+k≤size-2:=by
 have hp:=aAj hs h.w1 h.w2
 have h1:=Nat.mod_lt ps.length (show 0<aAf size k by omega)
 have h2:=aNw (s:=size) (k:=k)
 have h3:(ps.length%aAf size k+1)*k≤aAf size k*k:=A5 _ h1
 rw[BD] at h3
 omega
theorem aWe.at_lt {d:Nat→Option (List Int)} {size k nb bound first:Nat} {ps:List T5} {buf:List Int} (h:aWe d size k nb bound first ps buf) (hs:8≤size) (hl:ps.length<bound):ps.length/aAf size k<nb:=by
 have hp:=aAj hs h.w1 h.w2
 rw[h.nbe]
 have e:=Nat.div_add_mod ps.length (aAf size k)
 have h1:aAf size k*(ps.length/aAf size k)≤bound-1:=by omega
 have:ps.length/aAf size k+1≤(bound+aAf size k-1)/aAf size k:=by
  rw[CI (by omega),BD,EC]
  omega
 exact this
theorem aWe.put {d:Nat→Option (List Int)} {size k nb bound first:Nat} {ps:List T5} {buf:List Int} (h:aWe d size k nb bound first ps buf) (hs:8≤size) (hl:ps.length<bound) {t:T5} (ht:okT k t) (hne:ps.length%aAf size k+1≠aAf size k):
  aWe d size k nb bound first (ps++[t]) (aOa buf ((ps.length%aAf size k)*k) (tw k t)):=by
 have hp:=aAj hs h.w1 h.w2
 have hr:=h.room hs
 obtain⟨e1,e2⟩:=(aRp (p:=ps.length) hp).2 hne
 have htl:=aCn t h.w2
 have hfit:(ps.length%aAf size k)*k+(tw k t).length≤buf.length:=by rw[h.blen,htl];omega
 have em:=DK ps.length (aAf size k)
 refine⟨h.w1,h.w2,h.hb,h.nbe,by simp;omega,by rw[aFv hfit,h.blen],?_,?_,?_⟩
 ·simp only[AF,AL,AU,BR,e1,e2]
  have:=aOb hfit
  rw[htl,←BD] at this
  rw[this,h.bufw,CX em,aNv]
  simp[aBo]
 ·simp only[AF,AL,AU,BR,e1]
  exact aUa h.onto em
 ·intro x hx
  rcases AO.1 hx with hx|hx
  ·exact h.fit x hx
  ·simp only[AY] at hx;subst hx;exact ht
theorem aWe.flushed {d:Nat→Option (List Int)} {size k nb bound first:Nat} {ps:List T5} {buf:List Int} (h:aWe d size k nb bound first ps buf) (hs:8≤size) (hl:ps.length<bound) {t:T5} (ht:okT k t) (he:ps.length%aAf size k+1=aAf size k):
  aWe (aHz d (first+ps.length/aAf size k) (aDd size ((first+ps.length/aAf size k:Nat):Int) (k:Int) ((aOa buf ((ps.length%aAf size k)*k) (tw k t)).take ((ps.length%aAf size k)*k+k)))) size k nb bound first (ps++[t])
   (aOa buf ((ps.length%aAf size k)*k) (tw k t)):=by
 have hp:=aAj hs h.w1 h.w2
 have hr:=h.room hs
 obtain⟨e1,e2⟩:=(aRp (p:=ps.length) hp).1 he
 have htl:=aCn t h.w2
 have hfit:(ps.length%aAf size k)*k+(tw k t).length≤buf.length:=by rw[h.blen,htl];omega
 have em:=DK ps.length (aAf size k)
 have edm:=Nat.div_add_mod ps.length (aAf size k)
 refine⟨h.w1,h.w2,h.hb,h.nbe,by simp;omega,by rw[aFv hfit,h.blen],?_,?_,?_⟩
 ·simp only[AF,AL,AU,BR,e1,e2,Nat.zero_mul,List.take_zero]
  rw[List.drop_of_length_le]
  ·rfl
  ·simp only[AF,AL,AU,BD]
   rw[EC] at edm
   omega
 ·simp only[AF,AL,AU,BR,e1]
  intro j hj
  by_cases hj2:j=ps.length/aAf size k
  ·subst hj2
   have:=aOb hfit
   rw[htl] at this
   simp only[aHz,if_true]
   rw[this,h.bufw,CX em,A4,aNv]
   ·simp[aBo]
   ·simp only[AF,AL,AU,CE]
    rw[EC] at edm
    omega
  ·have:¬(first+j=first+ps.length/aAf size k):=by omega
   simp only[aHz,this,if_false]
   exact aUa h.onto em j (by omega)
 ·intro x hx
  rcases AO.1 hx with hx|hx
  ·exact h.fit x hx
  ·simp only[AY] at hx;subst hx;exact ht
end Go.Proofs.YtammjnjpheobaaaGreat
namespace Go.Tup
theorem bDm (x y:Int):aLm y x= -aLm x y:=by
 unfold aLm
 by_cases h1:x<y
 ·rw[if_pos h1,if_neg (by omega),if_pos h1];rfl
 ·by_cases h2:y<x
  ·simp only[if_pos h2,if_neg h1]
  ·simp only[if_neg h2,if_neg h1,Int.neg_zero]
theorem aUb:∀(l:List Int) (a b:T5),bAx l a b= -bAx l b a
 |[],_,_=>rfl
 |k::l,a,b=>by
  have ih:=aUb l a b
  simp only[bAx]
  by_cases h0:k=0
  ·simp[h0]
  ·simp only[h0,if_false]
   by_cases hn:k<0
   ·simp only[hn,if_true]
    rw[bDm (a.col (k.natAbs-1))]
    split<;>split<;>omega
   ·simp only[hn,if_false]
    rw[bDm (b.col (k.natAbs-1))]
    split<;>split<;>omega
theorem aDu (o a b:T5):aJo o a b= -aJo o b a:=by
 unfold aJo
 split
 ·exact aUb _ a b
 ·rfl
theorem aLo {x y:Int}:aLm x y=0↔x=y:=by
 unfold aLm
 split
 ·omega
 ·split<;>omega
theorem aQe {x y:Int}:0<aLm x y↔y<x:=by
 unfold aLm
 split
 ·omega
 ·split<;>omega
theorem aQf:∀(l:List Int) (a b c:T5),bAx l a b≤0→bAx l b c≤0→bAx l a c≤0
 |[],_,_,_,_,_=>by simp[bAx]
 |k::l,a,b,c,h1,h2=>by
  simp only[bAx] at h1 h2⊢
  by_cases h0:k=0
  ·simp[h0]
  ·simp only[h0,if_false] at h1 h2⊢
   have ih:=aQf l a b c
   by_cases hn:k<0
   ·simp only[hn,if_true] at h1 h2⊢
    generalize a.col (k.natAbs-1)=x at*
    generalize b.col (k.natAbs-1)=y at*
    generalize c.col (k.natAbs-1)=z at*
    have e1:= @aLo y x
    have e2:= @aLo z y
    have e3:= @aLo z x
    have p1:= @aQe y x
    have p2:= @aQe z y
    have p3:= @aQe z x
    by_cases q1:aLm y x=0<;>by_cases q2:aLm z y=0<;>by_cases q3:aLm z x=0<;>simp only[q1,q2,q3,ne_eq,not_true_eq_false,not_false_eq_true,if_true,if_false] at h1 h2⊢<;>first|exact ih h1 h2|omega
   ·simp only[hn,if_false] at h1 h2⊢
    generalize a.col (k.natAbs-1)=x at*
    generalize b.col (k.natAbs-1)=y at*
    generalize c.col (k.natAbs-1)=z at*
    have e1:= @aLo x y
    have e2:= @aLo y z
    have e3:= @aLo x z
    have p1:= @aQe x y
    have p2:= @aQe y z
    have p3:= @aQe x z
    by_cases q1:aLm x y=0<;>by_cases q2:aLm y z=0<;>by_cases q3:aLm x z=0<;>simp only[q1,q2,q3,ne_eq,not_true_eq_false,not_false_eq_true,if_true,if_false] at h1 h2⊢<;>first|exact ih h1 h2|omega
theorem aJc (o a b c:T5) (h1:aJo o a b≤0) (h2:aJo o b c≤0):aJo o a c≤0:=by
 unfold aJo at h1 h2⊢
 split
 ·rename_i hf
  rw[if_pos hf] at h1 h2
  exact aQf _ a b c h1 h2
 ·omega
end Go.Tup
namespace Go.Tup
open Go.SL
def aAl (t:T5):List Value:=[.int .i64 t.c0,.int .i64 t.c1,.int .i64 t.c2,.int .i64 t.c3,.int .i64 t.c4]
def flat:List T5→List Value
 |[]=>[]
 |t::ts=>aAl t++flat ts
theorem aOc:∀ts,(flat ts).length=ts.length*5
 |[]=>rfl
 |t::ts=>by simp[flat,aOc ts,aAl];omega
theorem flat_append:∀(ts us:List T5),flat (ts++us)=flat ts++flat us
 |[],us=>rfl
 |t::ts,us=>by simp[flat,flat_append ts us]
theorem aUc:∀(ts:List T5) (i:Nat),(flat ts).drop (i*5)=flat (ts.drop i)
 |ts,0=>by simp
 |[],i+1=>by simp[flat]
 |t::ts,i+1=>by
  have:=aUc ts i
  rw[flat,List.drop_append,List.drop_eq_nil_of_le (by simp[aAl];omega),List.nil_append,List.drop_succ_cons,←this]
  congr 1
  simp[aAl];omega
def RV (p:Option Addr) (n:Nat) (ts:List T5) (c:aAc):Prop:=
 ts.length=n∧((n=0∧c=[])∨∃b off cs T fz,p=some ⟨b,off,none⟩∧c=[(b,aCa cs T fz)]∧(cs.drop off).take (n*5)=flat ts)
theorem RV.pos {p:Option Addr} {n:Nat} {ts:List T5} {c:aAc} (h:RV p n ts c) (hn:0<n):∃b off cs T fz,p=some ⟨b,off,none⟩∧c=[(b,aCa cs T fz)]∧
  ∀i,i<n→(cs.drop (off+i*5)).take 5=aAl (ts.getD i ⟨0,0,0,0,0⟩):=by
 obtain⟨hl,⟨h0,_⟩|⟨b,off,cs,T,fz,rfl,rfl,h⟩⟩:=h
 ·omega
 ·refine⟨b,off,cs,T,fz,rfl,rfl,fun i hi=> ?_⟩
  have h2:=congrArg (fun l=>(l.drop (i*5)).take 5) h
  simp only[aUc] at h2
  rw[List.drop_take,List.drop_drop,List.take_take] at h2
  rw[show min 5 (n*5-i*5)=5 by omega] at h2
  rw[h2]
  have hi':i<ts.length:=by omega
  rw[List.drop_eq_getElem_cons hi',flat,List.take_left' (by simp[aAl])]
  congr 1
  simp[List.getD_eq_getElem?_getD,hi']
theorem RV.vec {E:Nat} {p:Option Addr} {n cap:Nat} {ts:List T5} {c:aAc} (h:Vec E 5 p n cap (flat ts) c):RV p n ts c:=by
 have hl:ts.length=n:=by have:=h.1;rw[aOc] at this;omega
 rcases h.2 with⟨_,h0,_,hc⟩|⟨b,rest,hp,hc,_,_,_⟩
 ·exact⟨hl,.inl ⟨h0,hc⟩⟩
 ·refine⟨hl,.inr ⟨b,0,flat ts++rest,E,(0,0),hp,hc,?_⟩⟩
  rw[List.drop_zero,←h.1,List.take_left]
def at5 (ts:List T5) (i:Nat):T5:=ts.getD i ⟨0,0,0,0,0⟩
end Go.Tup
namespace Go.Proofs.YtammjnjpheobaaaGreat
open Go.SL Go.Spc Go.Tup
theorem aWw (x:Int):CtQ AC 123 [.int .i64 x] [] (.bool (dec (x≠0))):=by
 refine Ct.intro Tryz.func123 rfl Tryz.ntmps123 (nle rfl) fun w0=> ?_;dsimp only[aAa,AD]
 repeat(refine st ?_;intros)
 (refine Dn.post (Hr:=[]) Tryz.results123 (hR:= ?_);exact⟨rfl,rfl⟩)
theorem bDn (b off n cap:Nat) (cs:List Value) (E:Nat) (fz:Nat×Nat) (hm:n≤1000) (hz:∀i,i<n→cs[off+i]? =some (.int .i64 0)):
  CtQ AC 155 [.slice (some ⟨b,off,none⟩) n cap,.func (.func 123) #[] #[]] [[(b,aCa cs E fz)]] (.int .i64 (-1)):=by
 refine Ct.intro Tryz.func155 rfl Tryz.ntmps155 (nle rfl) fun w0=> ?_;dsimp only[aAa,AD]
 repeat(first|(refine st ?_;intros)|(refine cq aWw ?_))
 refine G.loop (X:=Nat) (fun i=>i≤n) (fun i=>[(8,.int .i64 (i:Int)),(7,.int .i64 (n:Int)),(0,.slice (some ⟨b,off,none⟩) n cap),(1,.func (.func 123) #[] #[])]) (fun _=>[[(b,aCa cs E fz)]]) (fun i=>n-i) 0 (by omega) (body:= ?_)
 intro i hi
 by_cases h9:i<n
 ·have hg:=hz i h9
  repeat(first|(refine st ?_;intros)|(refine cq aWw ?_))
  exact Dn.round (i+1) (by omega) (by omega)
 ·repeat(first|(refine st ?_;intros)|(refine cq aWw ?_))
  (refine Dn.post (Hr:=[[(b,aCa cs E fz)]]) Tryz.results155 (hR:= ?_);exact⟨rfl,rfl⟩)
theorem aMj (b off n cap:Nat) (cs:List Value) (E:Nat) (fz:Nat×Nat) (hm:n≤1000) (hz:∀i,i<n→cs[off+i]? =some (.int .i64 0)):
  CtQ AC 122 [.slice (some ⟨b,off,none⟩) n cap,.func (.func 123) #[] #[]] [[(b,aCa cs E fz)]] (.bool false):=by
 have hI:=bDn b off n cap cs E fz hm hz
 refine Ct.intro Tryz.func122 rfl Tryz.ntmps122 (nle rfl) fun w0=> ?_;dsimp only[aAa,AD]
 repeat(first|(refine st ?_;intros)|(refine cq hI ?_))
 (refine Dn.post (Hr:=[[(b,aCa cs E fz)]]) Tryz.results122 (hR:= ?_);exact⟨by rw[aCm (by decide)];rfl,rfl⟩)
theorem aLp (t:T5) (i:Nat) (h:i<5):(aAl t)[i]? =some (.int .i64 (t.col i)):=by
 match i,h with
 |0,_=>rfl
 |1,_=>rfl
 |2,_=>rfl
 |3,_=>rfl
 |4,_=>rfl
theorem aZc (t:T5) (k i:Nat) (h:i<k) (hk:k≤5):(tw k t)[i]? =some (wd (t.col i)):=by
 unfold tw
 rw[List.getElem?_map,List.getElem?_take,if_pos h]
 have h5:i<5:=by omega
 match i,h5 with
 |0,_=>rfl
 |1,_=>rfl
 |2,_=>rfl
 |3,_=>rfl
 |4,_=>rfl
def PutOk (bw bd ba bs bx:Nat) (W:Wk) (ca cs:aAc) (first nb k bound:Nat) (g:Gr) (ps:List T5) (buf:List Int) (t:T5) (H':Hp):Prop:=
 ∃(cd ca':aAc) (δ':Dv) (buf':List Int),H'=[aAh bw bd ba bs,cd,ca',cs,[(bx,row (aAu bw first nb k (ps.length+1) bound g.bb (((ps.length+1)%aAf W.δ.size k)*k) ((ps.length+1)/aAf W.δ.size k) false) 178)],[(g.br,row (aAg buf') 158)]]∧
  ca'.Perm ca∧aDt bd δ' cd∧δ'.size=W.δ.size∧δ'.blocks=W.δ.blocks∧(W.δ.fault= -1→δ'.fault= -1)∧δ'.acts=W.δ.acts+((ps.length+1)/aAf W.δ.size k-ps.length/aAf W.δ.size k)∧
  (∀x,¬(first≤x∧x<first+nb)→δ'.disk x=W.δ.disk x)∧aWe δ'.disk W.δ.size k nb bound first (ps++[t]) buf'
theorem bIb (bw bd ba bs:Nat) (W:Wk) (cd ca cs:aAc) (h:Wc bd ba bs W cd ca cs) (bx first nb k bound:Nat) (g:Gr) (Gs:List Gr) (hg:W.α.gs.Perm (g::Gs)) (hgn:g.n=W.δ.size) (Lv:List Ext) (hl:aDm first nb Lv W.live) (ps:List T5) (buf:List Int)
  (ho:aWe W.δ.disk W.δ.size k nb bound first ps buf) (hlt:ps.length<bound) (t:T5) (ht:okT k t) (hac:W.δ.acts≤1000000000000):
  Ct AC 74 [pv bx,tv t] [aAh bw bd ba bs,cd,ca,cs,[(bx,row (aAu bw first nb k ps.length bound g.bb ((ps.length%aAf W.δ.size k)*k) (ps.length/aAf W.δ.size k) false) 178)],[(g.br,row (aAg buf) 158)]] fun v H'=>
   (v= .int .i64 0∧PutOk bw bd ba bs bx W ca cs first nb k bound g ps buf t H')∨
   (v= .int .i64 6∧W.δ.fault=0∧∃cb,aNy bw bd ba bs bx W Gs Lv first nb k bound g.bb cb 0 W.δ.failed H'):=by
 obtain⟨⟨hs1,hs2⟩,hbk,hfr⟩:=h.dev.num
 obtain⟨c1,hc1⟩:=h.ar.open_ (hg.mem_iff.2 AI)
 have hH:=aHl bw bd ba bs W.δ cd h.dev k ho.w1 ho.w2
 have hroom:=ho.room hs1
 have hk1:=ho.w1
 have hk5:=ho.w2
 have hp:=aAj hs1 hk1 hk5
 have hbl:=ho.blen
 have hbb:=ho.hb
 have hatlt:=ho.at_lt hs1 hlt
 have hh256:aAf W.δ.size k≤256:=BA (CU _ _) (by omega)
 generalize hn0:(ps.length%aAf W.δ.size k)*k=n0 at*
 have htl:=aCn t hk5
 have hCI:=fun b3=>aMj b3 k (5-k) (5-k) (aAl t) 49 (0,0) (by omega) (fun i hi=>by rw[aLp t _ (by omega),ht.2 _ (by omega)])
 have hCI5:=fun b3=>aMj b3 0 0 0 (aAl t) 49 (0,0) (by omega) (fun i hi=>by omega)
 have hdiv:AH .i64 (((n0+k:Nat):Int).tdiv (k:Int))=((ps.length%aAf W.δ.size k+1:Nat):Int):=by
  have e1:((n0+k:Nat):Int).tdiv (k:Int)=(((n0+k)/k:Nat):Int):=by
   rw[CL (by omega)];simp
  have e2:(n0+k)/k=ps.length%aAf W.δ.size k+1:=by
   rw[←hn0,←BD,Nat.mul_div_cancel _ (by omega)]
  rw[e1,e2]
  have hml:=Nat.mod_lt ps.length (show 0<aAf W.δ.size k by omega)
  have hw:∀r:Nat,r<1000→AH .i64 ((r:Nat):Int)=(r:Int):=fun r hr=>aAd (by omega)
  exact hw _ (by omega)
 have hobj:([g.obj]:aAc)=[(g.bb,row [.slice (some ⟨g.br,0,none⟩) W.δ.size W.δ.size] 161)]:=by unfold Gr.obj;rw[hgn]
 have hc2:(c1++[(g.bb,row [.slice (some ⟨g.br,0,none⟩) W.δ.size W.δ.size] 161)]).Perm ca:=by rw[←hobj];exact hc1.symm
 have h':Wc bd ba bs W cd (c1++[(g.bb,row [.slice (some ⟨g.br,0,none⟩) W.δ.size W.δ.size] 161)]) cs:=⟨h.dev,h.ar.perm hc2,h.sp,h.nn,h.live⟩
 have hnb0:nb≠0:=Nat.ne_of_gt (Nat.lt_of_le_of_lt (AS _) hatlt)
 have hin:first+nb≤W.δ.blocks:=by
  unfold aDm at hl
  rw[if_neg hnb0] at hl
  rw[h.nn]
  exact(aFu (h.live.perm hl)).1.2
 obtain⟨B,hB⟩:∃B:Nat→List Int,∀i,B i=aOa buf n0 ((tw k t).take i):=⟨_,fun _=>rfl⟩
 have hB0:B 0=buf:=by rw[hB,List.take_zero,aZb]
 have hBk:B k=aOa buf n0 (tw k t):=by rw[hB,A4 (by omega)]
 have hBl:∀i,(B i).length=W.δ.size:=fun i=>by rw[hB,aFv (by rw[BK,htl,hbl];omega),hbl]
 have hcnt:AH .i64 ((ps.length:Int)+1)=((ps.length+1:Nat):Int):=by rw[aAd (by omega)];rfl
 have hFo:=fun hf=>aZa bw bd ba bs W cd _ cs h' bx first nb k (ps.length+1) bound (n0+k) (ps.length/aAf W.δ.size k) g (hg.mem_iff.2 AI) hgn (B k) ((B k).take (n0+k)) (hBl k) rfl (by rw[BK,hBl];omega) (by omega) (by omega) hk5 hf hac
 have hFf:=fun hf=>aNz bw bd ba bs W cd _ cs h' bx first nb k (ps.length+1) bound (n0+k) (ps.length/aAf W.δ.size k) g Gs hg Lv hl hgn (B k) ((B k).take (n0+k)) (hBl k) rfl (by rw[BK,hBl];omega) (by omega) (by omega) hk5 hf
 refine Ct.convP (H2:=[aAh bw bd ba bs,cd,c1,[(g.bb,row [.slice (some ⟨g.br,0,none⟩) W.δ.size W.δ.size] 161)],cs,[(bx,row (aAu bw first nb k ps.length bound g.bb n0 (ps.length/aAf W.δ.size k) false) 178)],[(g.br,row (aAg (B 0)) 158)]])
  (R2:=fun v H'=>(v= .int .i64 0∧ps.length%aAf W.δ.size k+1≠aAf W.δ.size k∧H'=[aAh bw bd ba bs,cd,c1,[(g.bb,row [.slice (some ⟨g.br,0,none⟩) W.δ.size W.δ.size] 161)],cs,[(bx,row (aAu bw first nb k (ps.length+1) bound g.bb (n0+k) (ps.length/aAf W.δ.size k) false) 178)],[(g.br,row (aAg (B k)) 158)]])∨
   (v= .int .i64 0∧ps.length%aAf W.δ.size k+1=aAf W.δ.size k∧W.δ.fault≠0∧aTy bw bd ba bs bx W (c1++[(g.bb,row [.slice (some ⟨g.br,0,none⟩) W.δ.size W.δ.size] 161)]) cs first nb k (ps.length+1) bound g (ps.length/aAf W.δ.size k) ((B k).take (n0+k)) [(g.br,row (aAg (B k)) 158)] H')∨
   (v= .int .i64 6∧W.δ.fault=0∧∃cb,aNy bw bd ba bs bx W Gs Lv first nb k bound g.bb cb 0 W.δ.failed H')) ?_ ?_ ?_
 ·have htc:tv t= .agg (aAl t).toArray:=rfl
  rw[htc]
  have hget:=aLp t
  have h5:k=5∨k<5:=by omega
  have htw:=aZc t k
  unfold aAu aAh at*
  generalize hcl:aAl t=tc at*
  rcases h5 with h5|h5
  all_goals
   refine Ct.intro Tryz.func74 rfl Tryz.ntmps74 (nle rfl) fun w0=> ?_;dsimp only[aAa,AD]
   repeat(first|(refine st ?_;intros)|refine G.draw [] (h:= ?_)|refine G.draw (id:=12) [(19,.quiet)] (h:= ?_)|(refine cq hCI ?_)|(refine cq hCI5 ?_)|(refine cq hH ?_))
   rename_i b3
   refine G.loop (X:=Nat) (fun i=>i≤k) (fun i=>[(43,.int .i64 (i:Int)),(42,.int .i64 (k:Int)),(41,.slice (some ⟨b3,0,none⟩) k 5),(0,pv bx)])
    (fun i=>[[(b3,row tc 49)],[(bw,row [pv bd,pv ba,pv bs] 101)],cd,c1,[(g.bb,row [.slice (some ⟨g.br,0,none⟩) W.δ.size W.δ.size] 161)],cs,[(bx,row [pv bw,.int .i64 (first:Int),.int .i64 (nb:Int),.int .i64 (k:Int),.int .i64 (ps.length:Int),.int .i64 (bound:Int),pv g.bb,.int .i64 ((n0+i:Nat):Int),.int .i64 ((ps.length/aAf W.δ.size k:Nat):Int),.bool false] 178)],[(g.br,row (aAg (B i)) 158)]])
    (fun i=>k-i) 0 (by omega) (body:= ?_)
   intro i hi
   by_cases hik:i<k
   ·have hgi:=hget i (by omega)
    have hset:(aAg (B i)).set (n0+i) (.int .u64 (wd (t.col i)))=aAg (B (i+1)):=by
     rw[aGr,hB,hB,aTz (htw i hik hk5) (by rw[htl,hbl];omega)]
    have hlen:(aAg (B i)).length=W.δ.size:=by rw[aBt,hBl]
    have hni:AH .i64 (((n0+i:Nat):Int)+1)=((n0+(i+1):Nat):Int):=by rw[aAd (by omega)];rfl
    repeat(first|(refine st ?_;intros)|refine G.draw [] (h:= ?_)|refine G.draw (id:=12) [(19,.quiet)] (h:= ?_)|(refine cq hCI ?_)|(refine cq hCI5 ?_)|(refine cq hH ?_))
    exact Dn.round (i+1) (by omega) (by omega)
   ·have hki:k=i:=by omega
    subst hki
    by_cases he:ps.length%aAf W.δ.size k+1=aAf W.δ.size k
    ·repeat(first|(refine st ?_;intros)|refine G.draw [] (h:= ?_)|refine G.draw (id:=12) [(19,.quiet)] (h:= ?_)|(refine cq hCI ?_)|(refine cq hCI5 ?_)|(refine cq hH ?_))
     apply R1.join (c1:=c1) (c2:=[(g.bb,row [.slice (some ⟨g.br,0,none⟩) W.δ.size W.δ.size] 161)])
     ·(repeat(first|exact aAn.here|apply aAn.there))
     ·(repeat(first|exact aAn.here|apply aAn.there))
     by_cases hf:W.δ.fault=0
     ·have hFf:=hFf hf
      refine R.call (hct:=hFf) (h:= ?_)
      rintro _ _ ⟨rfl,cd2,ca2,cs2,W',cnt',n',a',rfl,hgone⟩
      try dsimp only[AA,AB]
      unfold aAh aAu
      repeat(first|(refine st ?_;intros)|refine G.draw [] (h:= ?_)|refine G.draw (id:=12) [(19,.quiet)] (h:= ?_)|(refine cq hCI ?_)|(refine cq hCI5 ?_)|(refine cq hH ?_))
      (refine Dn.post (Hr:=[[(bw,row [pv bd,pv ba,pv bs] 101)],cd2,ca2,cs2,[(bx,row [pv bw,.int .i64 (first:Int),.int .i64 (nb:Int),.int .i64 (k:Int),.int .i64 (cnt':Int),.int .i64 (bound:Int),pv g.bb,.int .i64 (n':Int),.int .i64 (a':Int),.bool true] 178)],[(g.br,row (aAg (B k)) 158)]]) Tryz.results74 (hR:= ?_);
       exact .inr (.inr ⟨rfl,hf,_,cd2,ca2,cs2,W',cnt',n',a',rfl,hgone⟩))
     ·have hFo:=hFo hf
      refine R.call (hct:=hFo) (h:= ?_)
      rintro _ _ ⟨rfl,cd2,ca2,rfl,hgone⟩
      try dsimp only[AA,AB]
      unfold aAh aAu
      repeat(first|(refine st ?_;intros)|refine G.draw [] (h:= ?_)|refine G.draw (id:=12) [(19,.quiet)] (h:= ?_)|(refine cq hCI ?_)|(refine cq hCI5 ?_)|(refine cq hH ?_))
      (refine Dn.post (Hr:=[[(bw,row [pv bd,pv ba,pv bs] 101)],cd2,ca2,cs,[(bx,row [pv bw,.int .i64 (first:Int),.int .i64 (nb:Int),.int .i64 (k:Int),.int .i64 ((ps.length+1:Nat):Int),.int .i64 (bound:Int),pv g.bb,.int .i64 ((0:Nat):Int),.int .i64 ((ps.length/aAf W.δ.size k+1:Nat):Int),.bool false] 178)],[(g.br,row (aAg (B k)) 158)]]) Tryz.results74 (hR:= ?_);
       exact .inr (.inl ⟨rfl,he,hf,cd2,ca2,rfl,hgone⟩))
    ·repeat(first|(refine st ?_;intros)|refine G.draw [] (h:= ?_)|refine G.draw (id:=12) [(19,.quiet)] (h:= ?_)|(refine cq hCI ?_)|(refine cq hCI5 ?_)|(refine cq hH ?_))
     (refine Dn.post (Hr:=[[(bw,row [pv bd,pv ba,pv bs] 101)],cd,c1,[(g.bb,row [.slice (some ⟨g.br,0,none⟩) W.δ.size W.δ.size] 161)],cs,[(bx,row [pv bw,.int .i64 (first:Int),.int .i64 (nb:Int),.int .i64 (k:Int),.int .i64 ((ps.length+1:Nat):Int),.int .i64 (bound:Int),pv g.bb,.int .i64 ((n0+k:Nat):Int),.int .i64 ((ps.length/aAf W.δ.size k:Nat):Int),.bool false] 178)],[(g.br,row (aAg (B k)) 158)]]) Tryz.results74 (hR:= ?_);
      exact .inl ⟨rfl,he,rfl⟩)
 ·rw[hB0,←hobj]
  simp only[AW,A8,AQ,AR]
  refine BJ _ (BJ _ ?_)
  rw[←AR c1]
  exact CZ _ hc1
 ·have hless:W.δ.fault= -1→aTs W.δ.fault= -1:=fun e=>by unfold aTs;rw[e];rfl
  rintro v H' (⟨rfl,hne,rfl⟩|⟨rfl,he,hf,cd2,ca2,rfl,hp2,hd2⟩|⟨rfl,hf,hgo⟩)
  ·obtain⟨e1,e2⟩:=(aRp (p:=ps.length) hp).2 hne
   have e3:(ps.length%aAf W.δ.size k+1)*k=n0+k:=by rw[BD,hn0]
   refine⟨_,.inl ⟨rfl,cd,c1++[(g.bb,row [.slice (some ⟨g.br,0,none⟩) W.δ.size W.δ.size] 161)],W.δ,B k,rfl,hc2,h.dev,rfl,rfl,id,by rw[e1];omega,fun _ _=>rfl,?_⟩,?_⟩
   ·rw[hBk,←hn0]
    exact ho.put hs1 hlt ht hne
   ·rw[e1,e2,e3];simp
  ·obtain⟨e1,e2⟩:=(aRp (p:=ps.length) hp).1 he
   refine⟨_,.inl ⟨rfl,cd2,ca2,_,B k,rfl,hp2.trans hc2,hd2,rfl,rfl,hless,by rw[e1,Nat.add_sub_cancel_left];rfl,fun x hx=> ?_,?_⟩,?_⟩
   ·simp only[Dv.wrote,aHz]
    rw[if_neg]
    rintro rfl
    exact hx ⟨Nat.le_add_right _ _,Nat.add_lt_add_left hatlt _⟩
   ·have:=ho.flushed hs1 hlt ht he
    rw[hn0,←hBk] at this
    exact this
   ·rw[e1,e2,Nat.zero_mul]
  ·exact⟨_,.inr ⟨rfl,hf,hgo⟩,.refl _⟩
end Go.Proofs.YtammjnjpheobaaaGreat
