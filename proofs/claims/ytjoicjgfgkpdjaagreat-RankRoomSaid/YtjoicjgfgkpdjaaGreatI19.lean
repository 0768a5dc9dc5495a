/-
  Parts of the proof, put together: Row, RowTup, RowIn, Big, Srt, Scan, Maker, Each. No condition.
-/
import Derived.Below
import Derived.Carry
import Derived.Deep.Slices
import Derived.OpenShut
import Derived.ProofKit
import Derived.Test.YtjoicjgfgkpdjaaGreatRows
import Derived.Test.YtjoicjgfgkpdjaaGreatI18
set_option linter.unusedVariables false
set_option linter.unusedSimpArgs false
set_option linter.unnecessarySimpa false
set_option maxHeartbeats 4000000
namespace Go.Proofs.YtjoicjgfgkpdjaaGreat
open Go.ChangeShapes Go.WideShapes Go.ChangeAt Go.RowKit Go.SL
theorem own:ownKnob Tryz.prog.godebug=none:=by kernel_rfl
theorem laidOut:laidOutB Tryz.prog=true:=by kernel_rfl
theorem below_of_st {W W':World} {H:Hp} (h:St W [] W' H):Below W.heap.size W W':=
 ⟨h.os,h.tape,h.output,h.size,fun k hk=>h.frame k hk (by simp)⟩
theorem trodAll_below {H:Type} {enc:TypeId×Value→H} {P:Program} {W W':World} (hl:laidOutB P=true) (hb:Below W.heap.size W W') {sp:Nat→Bool}:
  ∀(ts:List TypeId) (vs:List Value) (ds:List (DataW H)) (ps:List MemPlace),(∀t∈ts,P.readableRec t=true∧t<P.types.size)→
   DataW.TrodAll enc P W 0 (fun _=>true) true ts vs ds ps→(∀p∈ps,p.block<W.heap.size)→(∀p∈ps,sp p.block=true)→DataW.TrodAll enc P W' 0 sp true ts vs ds ps
 |[],vs,ds,ps,_,h,_,_=>by
  cases vs<;>cases ds<;>simp[DataW.TrodAll] at h⊢
  exact h
 |t::ts,vs,ds,ps,hr,h,hlt,hsp=>by
  obtain⟨v,vs',d,ds',p,q,rfl,rfl,rfl,h0,r0⟩:=trodAll_cons h
  have h1:=WideElems.Trod_stays hl (hr t List.mem_cons_self).1 (hr t List.mem_cons_self).2 h0 (fun x hx=>hb.same (hlt x (List.mem_append_left _ hx))) (fun x hx=>hsp x (List.mem_append_left _ hx))
  exact trodAll_cons_mk h1 (trodAll_below hl hb ts vs' ds' q (fun t ht=>hr t (List.mem_cons_of_mem _ ht)) r0 (fun x hx=>hlt x (List.mem_append_right _ hx)) (fun x hx=>hsp x (List.mem_append_right _ hx)))
theorem post_same {H:Type} {enc:TypeId×Value→H} {P:Program} {f:Func} {s:ChangeSpec} {apart fresh handsOn again:Bool} {W W':World} {args:Array Value} {v:Value} {ds gs:List (DataW H)} {before pa pv:List MemPlace}
  (hW:DataW.Whole enc P f.params.toList s.vars apart W args.toList ds gs before)
  (hres:∀(b:Nat) (sp:Nat→Bool) (hd:Bool),DataW.TrodAll enc P W' b sp hd f.resultTypes.toList (v.resultList f.resultTypes.size) (s.fn H (ds++gs)).results [])
  (hargs:∀sp:Nat→Bool,(∀p∈before,sp p.block=true)→DataW.TrodAll enc P W' 0 sp true f.params.toList args.toList (s.fn H (ds++gs)).args pa)
  (hvars:∀sp:Nat→Bool,(∀p∈before,sp p.block=true)→DataW.TrodVars enc P W' sp s.vars (s.fn H (ds++gs)).vars pv)
  (hps:before=pa++pv) (hk:W.keptBut W' (·∈before)) (hfz:∀a:Addr,a.block<W.heap.size→W'.frozen? a=W.frozen? a)
  (hok:∀(j:Nat) (t:TypeId) (r:Value),f.resultTypes[j]? =some t→(v.resultList f.resultTypes.size)[j]? =some r→Value.okWide P W' .any 0 t r):
  s.post enc P f apart fresh handsOn again W args v W':=by
 have hold:∀p∈before,(fun b=>decide (b<W.heap.size)) p.block=true:=fun p hp=>by simpa using hW.lt p hp
 have hltb:∀p∈before,p.block<W.heap.size:=fun p hp=>hW.lt p hp
 refine⟨ds,gs,before,[],pa,pv,hW,hres _ _ _,hargs _ hold,hvars _ hold,World.keptBut_mono (fun p hp=>⟨hp,?_⟩) hk,fun _=> ?_⟩
 ·rw[hps,List.mem_append] at hp
  exact Or.inr hp
 ·obtain⟨_,_,_,_,_,hz,hn⟩:=hW
  refine⟨hok,_,_,([]++pa)++pv,⟨[]++pa,pv,trodAll_append (hargs _ (fun _ _=>rfl)) (hres _ _ _),hvars _ (fun _ _=>rfl),rfl,?_,?_⟩,?_⟩
  ·intro b off hp
   have hp':MemPlace.cell b off∈before:=by rw[hps];simpa using hp
   rw[hfz _ (hltb _ hp')]
   exact hz b off hp'
  ·intro ha
   have:=hn ha
   rw[hps] at this
   simpa using this
  ·intro p hp _
   rw[hps]
   simpa using hp
theorem lawPost {H:Type} {enc:TypeId×Value→H} {P:Program} {f:Func} {s:ChangeSpec} {b:TypeId} {W W':World} {args:Array Value} {ds gs:List (DataW H)} {before:List MemPlace}
  (hW:DataW.Whole enc P f.params.toList s.vars false W args.toList ds gs before) (hv:s.vars=[]) (hres:f.resultTypes= #[b]) (hb:P.underlying b=some .bool) (hl:laidOutB P=true)
  (hr:∀t∈f.params.toList,P.readableRec t=true∧t<P.types.size) (hfn:s.fn H (ds++gs)={results:=[.lit (.bool true)],args:=ds}) (hbel:Below W.heap.size W W'):
  s.post enc P f false true false false W args (.bool true) W':=by
 have hW':=hW
 have hlt:∀p∈before,p.block<W.heap.size:=fun p hp=>hW'.lt p hp
 obtain⟨p,q,hA,hV,rfl,hfz,hnd⟩:=hW
 rw[hv] at hV
 have hq:q=[]:=by cases gs<;>simp[DataW.TrodVars] at hV;exact hV
 subst hq
 have hgs:gs=[]:=by cases gs<;>simp[DataW.TrodVars] at hV⊢
 subst hgs
 simp only[List.append_nil] at hW' hlt hfn
 refine post_same (pa:=p) (pv:=[]) hW' ?_ ?_ ?_ (by simp) ?_ ?_ ?_
 ·intro base sp hd
  simp only[List.append_nil,hfn,hres]
  exact trodAll_mk1 (shut_bool hb true)
 ·intro sp hsp
  simp only[List.append_nil,hfn]
  exact trodAll_below hl hbel _ _ _ _ hr hA hlt hsp
 ·intro sp _
  simp only[List.append_nil,hfn,hv]
  rfl
 ·exact hbel.frame _
 ·exact fun a ha=>hbel.frozen ha
 ·exact ok_one hres rfl (okWide_bool_mk hb true)
theorem st_nil (W:World):St W (keys []) W []:=
 ⟨by simp[keys],by simp,by simp[keys],fun _ _ _=>rfl,Nat.le_refl _,rfl,rfl,rfl⟩
theorem law_calls {P:Program} {f:FuncId} {args:List Value} (h:CtQ P f args [] (.bool true)) (W:World):
  Calls P f args.toArray W fun e W'=>e= .returned (.bool true)∧Below W.heap.size W W':=by
 unfold CtQ Ct at h
 refine(h W (st_nil W)).mono fun e W' ⟨v,H',h1,⟨h2,h3⟩,h4⟩=> ?_
 subst h2
 exact⟨h1,below_of_st h4⟩
theorem cellInt {P:Program} {W:World} {base:Nat} {e:TypeId} {k:IntKind} {v:Value} (he:P.underlying e=some (.int k)) (h:Cell.okWide P W .any base e v):∃n,v= .int k n∧k.has n=true:=by
 simp only[Cell.okWide,he] at h
 cases v<;>simp_all [Cell.ok]
end Go.Proofs.YtjoicjgfgkpdjaaGreat
namespace Go.Proofs.YtjoicjgfgkpdjaaGreat
open Go.ChangeShapes Go.WideShapes Go.ChangeAt Go.RowKit Go.SL Go.Tup
theorem below_of_st1 {W W':World} {c:Chunk} (hc:∀q∈c,W.heap[q.1]? =some q.2) (h:St W (keys [c]) W' [c]):Below W.heap.size W W':=
 ⟨h.os,h.tape,h.output,h.size,fun k hk=>by
  by_cases hm:k∈keys [c]
  ·simp only[keys,List.flatten_cons,List.flatten_nil,List.append_nil,List.mem_map] at hm
   obtain⟨q,hq,rfl⟩:=hm
   rw[hc q hq]
   exact h.sat q (by simpa using hq)
  ·exact h.frame k hk hm⟩
theorem law_calls1 {P:Program} {f:FuncId} {args:List Value} {c:Chunk} {W:World} (hc:∀q∈c,W.heap[q.1]? =some q.2) (hnd:(c.map (·.1)).Nodup) (h:CtQ P f args [c] (.bool true)):
  Calls P f args.toArray W fun e W'=>e= .returned (.bool true)∧Below W.heap.size W W':=by
 unfold CtQ Ct at h
 have hst:St W (keys [c]) W [c]:=by
  refine⟨by simpa[keys] using hnd,by simpa using hc,fun k hk=> .inl hk,fun _ _ _=>rfl,Nat.le_refl _,rfl,rfl,rfl⟩
 refine(h W hst).mono fun e W' ⟨v,H',h1,⟨h2,h3⟩,h4⟩=> ?_
 subst h2 h3
 exact⟨h1,below_of_st1 hc h4⟩
end Go.Proofs.YtjoicjgfgkpdjaaGreat
namespace Go.Proofs.YtjoicjgfgkpdjaaGreat
open Go.ChangeShapes Go.WideShapes Go.ChangeAt Go.RowKit Go.SL Go.Tup Go.Spc
def InT (ts:List T5):Prop:=∀t∈ts,∀c∈t.toList,inI64 c
theorem lit_i64 {x:Int} (h:(Lit.int .i64 x).wf=true):inI64 x:=by
 simp[Lit.wf,IntKind.min,IntKind.max,IntKind.bits,IntKind.signed] at h
 unfold inI64;omega
theorem openNat8 {P:Program} {W:World} {base:Nat} {e:TypeId} {v:Value} (he:P.underlying e=some (.int .u8)) (h:Value.okWide P W .any base e v):∃x:Nat,x<256∧v= .int .u8 (x:Int):=by
 have h':Cell.okWide P W .any base e v:=by simpa only[Value.okWide,he] using h
 obtain⟨x,hx,hr⟩:=cellInt he h'
 simp[IntKind.has,IntKind.min,IntKind.max,IntKind.bits,IntKind.signed] at hr
 exact⟨x.toNat,by omega,by rw[hx,Int.toNat_of_nonneg (by omega)]⟩
theorem flat_ofR (cs:List Value):∀(len off:Nat),(∀i,i<len→∃t:T5,(∀c∈t.toList,inI64 c)∧∀j,j<5→cs[off+i*5+j]? =(tcells t)[j]?)→∃ts:List T5,ts.length=len∧InT ts∧(cs.drop off).take (len*5)=flat ts
 |0,off,_=>⟨[],rfl,fun t ht=>by simp at ht,by simp[flat]⟩
 |len+1,off,h=>by
  obtain⟨t,htr,ht⟩:=h 0 (by omega)
  obtain⟨ts,hl,hin,he⟩:=flat_ofR cs len (off+5) (fun i hi=>by
   obtain⟨t,htr,ht⟩:=h (i+1) (by omega)
   exact⟨t,htr,fun j hj=>by rw[←ht j hj];congr 1;omega⟩)
  refine⟨t::ts,by simp[hl],fun u hu=>by
   rcases List.mem_cons.1 hu with rfl|hu
   ·exact htr
   ·exact hin u hu,?_⟩
  have hd:cs.drop off=tcells t++cs.drop (off+5):=by
   apply List.ext_getElem?
   intro j
   rw[List.getElem?_drop]
   by_cases hj:j<5
   ·rw[List.getElem?_append_left (by simpa[tcells] using hj),←ht j hj];simp
   ·rw[List.getElem?_append_right (by simp[tcells];omega),List.getElem?_drop]
    congr 1
    simp[tcells];omega
  rw[hd,flat,←he,List.take_append]
  rw[List.take_of_length_le (by simp[tcells];omega)]
  congr 2
  simp[tcells];omega
theorem open_tuplesR {H:Type} {enc:TypeId×Value→H} {P:Program} {w:World} {base:Nat} {t E e:TypeId} {v:Value} {d:DataW H} {ps:List MemPlace} (ht:P.underlying t=some (.slice E)) (hE:P.underlying E=some (.array 5 e))
  (he:P.underlying e=some (.int .i64)) (hcE:P.cellsOf E=5) (hce:P.cellsOf e=1) (h:DataW.Trod enc P w 0 (fun _=>true) true t v d ps) (hok:Value.okWide P w .any base t v):
  ∃p n cap ts c,v= .slice p n cap∧RV p n ts c∧InT ts∧n≤maxLen∧(∀q∈c,w.heap[q.1]? =some q.2)∧(c.map (·.1)).Nodup:=by
 obtain⟨a,len,cap,rfl⟩:=okWide_slice ht hok
 obtain⟨fuel,h⟩:=h
 rcases Deep.open_slice ht h with⟨h0,_⟩|⟨a',len',cap',m,n,D,Pl,h0,hb,hl,hm,hmm,_,hx⟩
 ·simp[Value.cells] at h0
  obtain⟨rfl,rfl,rfl⟩:=h0
  exact⟨none,0,0,[],[],rfl,⟨rfl,.inl ⟨rfl,rfl⟩⟩,fun t ht=>by simp at ht,by decide,by simp,by simp⟩
 ·simp[Value.cells] at h0
  obtain⟨rfl,rfl,rfl⟩:=h0
  by_cases hz:len=0
  ·subst hz
   exact⟨some a',0,cap,[],[],rfl,⟨rfl,.inl ⟨rfl,rfl⟩⟩,fun t ht=>by simp at ht,by decide,by simp,by simp⟩
  ·simp only[if_true] at hmm
   subst hmm
   have each:∀i,i<len→∃t:T5,(∀c∈t.toList,inI64 c)∧∀j,j<5→w.cell? ((a'.add (i*5)).add j)=(tcells t)[j]? :=by
    intro i hi
    obtain⟨cs',h1,h2⟩:=hx i (by omega)
    rw[hcE] at h1
    obtain⟨xs,k,_,_,hlen,hxl,hxe⟩:=DataW.trod_array hE h2
    rw[hcE] at hlen
    have hcell:∀j,j<5→w.cell? ((a'.add (i*5)).add j)=cs'[j]? :=by
     intro j hj
     simp only[World.cells?,Nat.zero_le,if_true] at h1
     exact mapM_some_get h1 j j (by simp[hj])
    have hint:∀j,j<5→∃x,inI64 x∧cs'[j]? =some (.int .i64 x):=by
     intro j hj
     have hj':=hxe j hj
     rw[hce,Nat.mul_one] at hj'
     rw[List.getElem?_eq_getElem (by omega)] at hj'
     obtain⟨x,hx1,_,hx3⟩:=DataW.trod_int he hj'
     refine⟨x,lit_i64 hx3,?_⟩
     have:=congrArg (·[0]?) hx1
     simpa[List.getElem?_take,List.getElem?_drop] using this
    obtain⟨x0,r0,h0⟩:=hint 0 (by omega)
    obtain⟨x1,r1,h1⟩:=hint 1 (by omega)
    obtain⟨x2,r2,h2⟩:=hint 2 (by omega)
    obtain⟨x3,r3,h3⟩:=hint 3 (by omega)
    obtain⟨x4,r4,h4⟩:=hint 4 (by omega)
    refine⟨⟨x0,x1,x2,x3,x4⟩,fun c hc=>by
     simp only[T5.toList,List.mem_cons,List.not_mem_nil,or_false] at hc
     rcases hc with rfl|rfl|rfl|rfl|rfl<;>assumption,fun j hj=> ?_⟩
    rw[hcell j hj]
    match j,hj with
    |0,_=>exact h0
    |1,_=>exact h1
    |2,_=>exact h2
    |3,_=>exact h3
    |4,_=>exact h4
   obtain⟨b,off,spot⟩:=a'
   obtain⟨t0,_,ht0⟩:=each 0 (by omega)
   have hc0:=ht0 0 (by omega)
   have hs:spot=none:=by
    cases spot with
    |none=>rfl
    |some s=>
     exfalso
     simp only[Addr.add,World.cell?,tcells,List.getElem?_cons_zero] at hc0
     revert hc0
     split<;>simp
   subst hs
   have hadd:∀i j,((⟨b,off,none⟩:Addr).add i).add j=⟨b,off+i+j,none⟩:=fun i j=>by rw[Addr.add_mk,Addr.add_mk]
   cases hbk:w.heap[b]? with
   |none=>rw[hadd] at hc0;simp[World.cell?,hbk,tcells] at hc0
   |some ob=>
    cases ob with
    |cells arr T fz=>
     obtain⟨ts,hts,hin,hflat⟩:=flat_ofR arr.toList len off (fun i hi=>by
      obtain⟨t,htr,ht⟩:=each i hi
      refine⟨t,htr,fun j hj=> ?_⟩
      rw[←ht j hj,hadd,cell_of_row w b _ arr T fz hbk]
      simp)
     refine⟨_,len,_,ts,[(b,rowf arr.toList T fz)],rfl,⟨hts,.inr ⟨b,off,arr.toList,T,fz,rfl,rfl,hflat⟩⟩,hin,by omega,?_,by simp⟩
     intro q hq
     simp only[List.mem_singleton] at hq
     subst hq
     simpa[rowf] using hbk
    |_=>rw[hadd] at hc0;simp[World.cell?,hbk,tcells] at hc0
end Go.Proofs.YtjoicjgfgkpdjaaGreat
namespace Go.Proofs.YtjoicjgfgkpdjaaGreat
open Go.SL Go.Spc Go.Tup
theorem points_le:∀(pts:List Nat) (live:List Ext),(∀x∈pts,inF live x)→pts.Pairwise (fun x y=>∃z,x<z∧z<y∧¬inF live z)→pts.length≤live.length
 |[],_,_,_=>Nat.zero_le _
 |x::pts,live,h,hp=>by
  obtain⟨e,he,h1,h2⟩:=h x List.mem_cons_self
  obtain⟨l1,l2,rfl⟩:=List.append_of_mem he
  have hsub:∀z,¬inF (l1++e::l2) z→¬inF (l1++l2) z:=by
   rintro z hz ⟨y,hy,h3⟩
   exact hz ⟨y,by simp at hy⊢;rcases hy with h|h;exact .inl h;exact .inr (.inr h),h3⟩
  obtain⟨hx,hr⟩:=List.pairwise_cons.1 hp
  have:=points_le pts (l1++l2) (fun y hy=> ?_) (hr.imp fun ⟨z,a,b,c⟩=>⟨z,a,b,hsub z c⟩)
  ·simp only[List.length_append,List.length_cons] at this⊢;omega
  ·obtain⟨e2,he2,h3,h4⟩:=h y (List.mem_cons_of_mem _ hy)
   obtain⟨z,hz1,hz2,hz3⟩:=hx y hy
   simp only[List.mem_append,List.mem_cons] at he2
   rcases he2 with he2|rfl|he2
   ·exact⟨e2,List.mem_append_left _ he2,h3,h4⟩
   ·exact absurd ⟨e2,he,by omega,by omega⟩ hz3
   ·exact⟨e2,List.mem_append_right _ he2,h3,h4⟩
theorem total_big:∀(l:List Ext),total l≤l.length*big l
 |[]=>Nat.zero_le _
 |e::l=>by
  have h1:=total_big l
  have h2:e.2≤big (e::l):=le_big List.mem_cons_self
  have h3:big l≤big (e::l):=by rw[show e::l=[e]++l from rfl,big_app];omega
  have h4:=Nat.mul_le_mul_left l.length h3
  simp only[total,List.map_cons,List.sum_cons,List.length_cons,Nat.succ_mul] at h1⊢
  omega
theorem free_len {σ:Sp} {live:List Ext} (h:Live σ live) (hf:fok σ.n σ.free):σ.free.length≤live.length+1:=by
 cases hfr:σ.free.reverse with
 |nil=>
      have:σ.free=[]:=by simpa using hfr
      rw[this];simp
 |cons e r=>
  have he:σ.free=r.reverse++[e]:=by rw[←List.reverse_reverse σ.free,hfr];simp
  have hf2:=hf
  rw[he,fok_app] at hf2
  obtain⟨h1,h2,h3⟩:=hf2
  have:=points_le (r.reverse.map fun a=>a.1+a.2) live ?_ ?_
  ·rw[he];simp at this⊢;omega
  ·intro x hx
   obtain⟨a,ha,rfl⟩:=List.mem_map.1 hx
   have h4:=h3 a ha e List.mem_cons_self
   have h5:=h2.1 e List.mem_cons_self
   have h6:a.1+a.2<σ.n:=by omega
   cases hc:Classical.propDecidable (inF live (a.1+a.2)) with
   |isTrue h=>exact h
   |isFalse hn=>
    exfalso
    obtain⟨b,hb,h7,h8⟩:=(h.free _ h6).2 hn
    rw[he] at hb
    rcases List.mem_append.1 hb with hb|hb
    ·have hpw:=h1.2
     have hsym:a=b∨a.1+a.2<b.1∨b.1+b.2<a.1:=by
      by_cases hab:a=b
      ·exact .inl hab
      ·right
       obtain⟨i,hi,rfl⟩:=List.getElem_of_mem ha
       obtain⟨j,hj,rfl⟩:=List.getElem_of_mem hb
       rcases Nat.lt_trichotomy i j with hij|hij|hij
       ·exact .inl (List.pairwise_iff_getElem.1 hpw i j hi hj hij)
       ·subst hij;exact absurd rfl hab
       ·exact .inr (List.pairwise_iff_getElem.1 hpw j i hj hi hij)
     rcases hsym with rfl|h9|h9<;>omega
    ·simp only[List.mem_singleton] at hb;subst hb;omega
  ·rw[List.pairwise_map]
   refine(h1.2.and (List.pairwise_of_forall_mem_list (fun a ha b hb=>(⟨ha,hb⟩:a∈r.reverse∧b∈r.reverse)))).imp ?_
   rintro a b ⟨hab,ha,hb⟩
   have hb1:=h1.1 b hb
   have hbm:b∈σ.free:=by rw[he];exact List.mem_append_left _ hb
   exact⟨b.1,hab,by omega,(h.free b.1 (by have:=hf.1 b hbm;omega)).1 ⟨b,hbm,Nat.le_refl _,by omega⟩⟩
theorem big_room {σ:Sp} {live:List Ext} (h:Live σ live) (hf:fok σ.n σ.free) {m:Nat} (hm:m*(live.length+1)+total live≤σ.n):m≤big σ.free:=by
 have h1:=total_big σ.free
 have h2:=free_len h hf
 have h3:=h.sum
 by_cases hlt:m≤big σ.free
 ·exact hlt
 ·exfalso
  have h4:σ.free.length*big σ.free≤(live.length+1)*big σ.free:=Nat.mul_le_mul_right _ h2
  have h5:(live.length+1)*(big σ.free+1)≤(live.length+1)*m:=Nat.mul_le_mul_left _ (by omega)
  rw[Nat.mul_succ] at h5
  rw[Nat.mul_comm m] at hm
  omega
end Go.Proofs.YtjoicjgfgkpdjaaGreat
namespace Go.Srt
set_option linter.unusedSectionVars false
variable {α:Type} {lt:α→α→Bool}
def insO (lt:α→α→Bool) (once:Bool) (x:α):List α→List α
 |[]=>[x]
 |y::l=>if lt y x then y::insO lt once x l else if once&& !lt x y then x::l else x::y::l
def srt (lt:α→α→Bool) (once:Bool):List α→List α
 |[]=>[]
 |x::l=>insO lt once x (srt lt once l)
theorem mem_insO {once:Bool} {x z:α}:∀{l:List α},z∈insO lt once x l→z=x∨z∈l
 |[],h=>by simpa[insO] using h
 |y::l,h=>by
  unfold insO at h
  split at h
  ·rcases List.mem_cons.1 h with rfl|h
   ·exact .inr List.mem_cons_self
   ·exact(mem_insO h).imp id (List.mem_cons_of_mem _)
  ·split at h
   ·rcases List.mem_cons.1 h with rfl|h
    ·exact .inl rfl
    ·exact .inr (List.mem_cons_of_mem _ h)
   ·rcases List.mem_cons.1 h with rfl|h
    ·exact .inl rfl
    ·exact .inr h
theorem lt_of_eqv (h:Swo lt) {a b c:α} (h1:lt b a=false) (h2:lt b c=true):lt a c=true:=by
 cases h3:lt a c with
 |true=>rfl
 |false=>have:=h.ntrans b a c h1 h3;rw[this] at h2;cases h2
theorem sd_insO (h:Swo lt) {once:Bool} {x:α}:∀{l:List α},Sd lt once l→Sd lt once (insO lt once x l)
 |[],_=>by simp[insO,Sd]
 |y::l,hs=>by
  obtain⟨h1,h2⟩:=List.pairwise_cons.1 hs
  have hs2:Sd lt once l:=h2
  unfold insO
  split
  ·rename_i hyx
   refine List.pairwise_cons.2 ⟨fun z hz=> ?_,sd_insO h hs2⟩
   rcases mem_insO hz with rfl|hz
   ·cases once with
    |true=>exact hyx
    |false=>exact h.asym _ _ hyx
   ·exact h1 z hz
  ·rename_i hyx
   have hyx:lt y x=false:=by simpa using hyx
   split
   ·rename_i ho
    simp only[Bool.and_eq_true,Bool.not_eq_true'] at ho
    refine List.pairwise_cons.2 ⟨fun z hz=> ?_,hs2⟩
    have:=h1 z hz
    rw[ho.1] at this⊢
    simp only[if_true] at this⊢
    exact lt_of_eqv h hyx this
   ·rename_i ho
    refine List.pairwise_cons.2 ⟨fun z hz=> ?_,hs⟩
    cases once with
    |false=>
     rcases List.mem_cons.1 hz with rfl|hz
     ·exact hyx
     ·exact h.ntrans _ _ _ (h1 z hz) hyx
    |true=>
     have hxy:lt x y=true:=by simpa using ho
     rcases List.mem_cons.1 hz with rfl|hz
     ·exact hxy
     ·have:=h1 z hz
      simp only[if_true] at this⊢
      exact lt_of_eqv h (h.asym _ _ hxy) this
theorem sp_insO (h:Swo lt) {once:Bool} {x:α}:∀(l:List α),Sp lt once (x::l) (insO lt once x l)
 |[]=>Sp.refl _ _
 |y::l=>by
  unfold insO
  split
  ·rename_i hyx
   have e1:Sp lt once ([x]++[y]++l) ([y]++[x]++l):=Sp.app (Sp.swap h (by simpa using hyx)) (Sp.refl _ _)
   exact Sp.trans e1 (Sp.app (a:=[y]) (b:=[y]) (Sp.refl _ _) (sp_insO h l))
  ·rename_i hyx
   have hyx:lt y x=false:=by simpa using hyx
   split
   ·rename_i ho
    simp only[Bool.and_eq_true,Bool.not_eq_true'] at ho
    obtain⟨rfl,hxy⟩:=ho
    intro c
    have he:eqv lt x y=true:=eqv_iff.2 ⟨hxy,hyx⟩
    simp only[List.filter_cons]
    cases hc:eqv lt c x with
    |true=>simp[keepC]
    |false=>
     cases hc2:eqv lt c y with
     |true=>have:=eqv_trans h hc2 (eqv_symm he);rw[this] at hc;cases hc
     |false=>simp
   ·exact Sp.refl _ _
theorem sd_srt (h:Swo lt) (once:Bool):∀(l:List α),Sd lt once (srt lt once l)
 |[]=>List.Pairwise.nil
 |_::l=>sd_insO h (sd_srt h once l)
theorem sp_srt (h:Swo lt) (once:Bool):∀(l:List α),Sp lt once l (srt lt once l)
 |[]=>Sp.refl _ _
 |x::l=>Sp.trans (Sp.app (a:=[x]) (b:=[x]) (Sp.refl _ _) (sp_srt h once l)) (sp_insO h _)
theorem srt_is (h:Swo lt) {once:Bool} {l a:List α} (h1:Sd lt once a) (h2:Sp lt once l a):a=srt lt once l:=
 unique1 h h1 (sd_srt h once l) (h2.symm.trans (sp_srt h once l))
theorem perm_insO {x:α}:∀(l:List α),(insO lt false x l).Perm (x::l)
 |[]=> .refl _
 |y::l=>by
  unfold insO
  split
  ·exact((perm_insO l).cons y).trans (.swap _ _ _)
  ·simp
theorem perm_srt:∀(l:List α),(srt lt false l).Perm l
 |[]=> .refl _
 |x::l=>(perm_insO _).trans ((perm_srt l).cons x)
theorem srt_sub {once:Bool}:∀{l:List α} {z:α},z∈srt lt once l→z∈l
 |[],_,h=>h
 |x::l,z,h=>by
  rcases mem_insO h with rfl|h
  ·exact List.mem_cons_self
  ·exact List.mem_cons_of_mem _ (srt_sub h)
end Go.Srt
namespace Go.Proofs.YtjoicjgfgkpdjaaGreat
open Go.SL Go.Spc Go.Tup
structure Seer (K:Type) where
 own:K→List Gr
 C:K→Chunk
 J:Wk→K→Nat→Prop
 B:Wk→K→Int→Prop
 κ:Nat
structure Seer.Ok {K:Type} (Z:Seer K):Prop where
 stay:∀W W' r i,Z.J W r i→W'.δ.size=W.δ.size→W'.δ.disk=W.δ.disk→W'.σ=W.σ→W'.live=W.live→(W.δ.fault= -1→W'.δ.fault= -1)→Z.J W' r i
 flt:∀W W' r i,Z.J W r i→W.δ.fault=0→W'.δ=W.δ.failed→W'.σ=W.σ→W'.live=W.live→Z.B W' r 6
 stayB:∀W α r e,Z.B W r e→Z.B {W with α:=α} r e
def SeeCt (bw bd ba bs:Nat) {K:Type} (Z:Seer K) (size room:Nat) (f:Fl) (ts:List T5) (fid:Nat) (fs us:List Value):Prop:=
 ∀(base:List Gr) (W:Wk) (cd ca cs:Chunk) (r:K) (i:Nat) (t:T5),Wc bd ba bs W cd ca cs→W.α.gs.Perm (Z.own r++base)→W.α.room=room→W.δ.size=size→Z.J W r i→ts[i]? =some t→W.δ.acts≤100000000000→
  Ct Tryz.prog fid (fs++[tv t]++us) [wrow bw bd ba bs,cd,ca,cs,Z.C r] fun v H'=>
   ∃cd' ca' cs' W' r' e,v= .int .i64 e∧H'=[wrow bw bd ba bs,cd',ca',cs',Z.C r']∧Wc bd ba bs W' cd' ca' cs'∧Ev W W' Z.κ 0∧W'.α.gs.Perm (Z.own r'++base)∧(e=0→Z.J W' r' (i+1))∧(e≠0→Z.B W' r' e)
structure OverX (K:Type) where
 i:Nat
 cd:Chunk
 ca:Chunk
 cs:Chunk
 cx:Chunk
 cb:Chunk
 W:Wk
 r:K
theorem Over_ct (bw bd ba bs:Nat) {K:Type} (Z:Seer K) (hZ:Z.Ok) (f:Fl) (ts:List T5) (Lv:List Ext) (fid:Nat) (hcal:Callable Tryz.prog fid) (fs us:List Value) (size room:Nat) (hsee:SeeCt bw bd ba bs Z size room f ts fid fs us) (W:Wk) (cd ca cs:Chunk) (h:Wc bd ba bs W cd ca cs) (r:K) (base:List Gr) (hg:W.α.gs.Perm (Z.own r++base)) (hrm:W.α.room=room) (hsz:W.δ.size=size) (hJ:Z.J W r 0)
  (hfo:∀W r i,Z.J W r i→FileOk W.δ.disk size Lv f ts∧∀e∈Lv,e∈W.live) (hr:W.δ.size≤W.α.room-W.α.used) (hac:W.δ.acts+nblocks size f.width f.count+f.count*Z.κ≤100000000000) (hcn:f.count≤1000000):
  Ct Tryz.prog 102 [pv bw,flv f,.func (.func fid) fs.toArray us.toArray] [wrow bw bd ba bs,cd,ca,cs,Z.C r] fun v H'=>
   ∃cd' ca' cs' W' r' e,v= .int .i64 e∧H'=[wrow bw bd ba bs,cd',ca',cs',Z.C r']∧Wc bd ba bs W' cd' ca' cs'∧Ev W W' (nblocks size f.width f.count+f.count*Z.κ) 0∧W'.α.gs.Perm (Z.own r'++base)∧(e=0→Z.J W' r' f.count)∧(e≠0→Z.B W' r' e):=by
 obtain⟨⟨hs1,hs2⟩,hbk,hfr⟩:=h.dev.num
 obtain⟨hfo0,hsub0⟩:=hfo W r 0 hJ
 have hk1:=hfo0.w1
 have hk5:=hfo0.w2
 have htl:=hfo0.len
 have hp:=holds_pos hs1 hk1 hk5
 have hRd:=Read_u bw bd ba bs W cd ca cs h f ts Lv (by rw[hsz];exact hfo0) hr
 have hflv:flv f= .agg #[.int .i64 (f.first:Int),.int .i64 (f.blocks:Int),.int .i64 (f.width:Int),.int .i64 (f.count:Int)]:=rfl
 rw[hflv] at hRd⊢
 refine Ct.introD Tryz.func102 rfl Tryz.ntmps102 (nle rfl) fun w0=> ?_;dsimp only[argSlots,Nat.reduceAdd]
 repeat(refine st ?_;intros)
 refine R.call (hct:=hRd) (h:= ?_)
 rintro _ _ ⟨bx,g,ca1,α1,cx,cb,rfl,rfl,hW1,hE1,hg1,hgn,hr1⟩
 try dsimp only[List.cons_append,List.nil_append]
 repeat(refine st ?_;intros)
 rename_i b4
 have hJ1:Z.J {W with α:=α1} r 0:=hZ.stay _ _ _ _ hJ rfl rfl rfl rfl id
 refine G.loop (X:=OverX K) (fun x=>x.i≤f.count∧Wc bd ba bs x.W x.cd x.ca x.cs∧Ev W x.W (nblocks size f.width x.i+x.i*Z.κ) 0∧x.W.α.gs.Perm (g::(Z.own x.r++base))∧Z.J x.W x.r x.i∧IsRd bw bx x.W f ts g x.i x.cx x.cb)
  (fun _=>[(7,pv bx),(2,.func (.func fid) fs.toArray us.toArray)]) (fun x=>[wrow bw bd ba bs,x.cd,x.ca,x.cs,Z.C x.r,x.cx,x.cb]) (fun x=>f.count-x.i) ⟨0,cd,ca1,cs,cx,cb,{W with α:=α1},r⟩
  ⟨Nat.zero_le _,hW1,hE1.weak (Nat.zero_le _) (Nat.le_refl _),hg1.trans (hg.cons _),hJ1,hr1⟩ (body:= ?_)
 rintro⟨i,cd2,ca2,cs2,cx2,cb2,W2,r2⟩ ⟨hi,hW2,hE2,hg2,hJ2,hrd2⟩
 dsimp only at hi hW2 hE2 hg2 hJ2 hrd2⊢
 have hsz2:W2.δ.size=size:=hE2.size.trans hsz
 have hrm2:W2.α.room=room:=hE2.room.trans hrm
 have hac2:=hE2.acts.2
 obtain⟨hfo2,hsub2⟩:=hfo W2 r2 i hJ2
 have hmi:nblocks size f.width i≤nblocks size f.width f.count:=nblocks_mono hi
 have hki:i*Z.κ≤f.count*Z.κ:=Nat.mul_le_mul_right _ hi
 have hz:tv T5.zero= .agg #[.int .i64 T5.zero.c0,.int .i64 T5.zero.c1,.int .i64 T5.zero.c2,.int .i64 T5.zero.c3,.int .i64 T5.zero.c4]:=rfl
 by_cases hlt:i<f.count
 ·have htg:ts[i]? =some ts[i]:=List.getElem?_eq_getElem (by omega)
  have hNx:=Next_u bw bd ba bs W2 cd2 ca2 cs2 hW2 bx f ts Lv (by rw[hsz2];exact hfo2) hsub2 g _ hg2 i cx2 cb2 hrd2 _ htg (by omega)
  have htv:tv ts[i]= .agg #[.int .i64 (ts[i]).c0,.int .i64 (ts[i]).c1,.int .i64 (ts[i]).c2,.int .i64 (ts[i]).c3,.int .i64 (ts[i]).c4]:=rfl
  rw[htv,hz,hsz2] at hNx
  have hS0:=fun W cd ca cs=>hsee (g::base) W cd ca cs r2 i ts[i]
  generalize ht:ts[i]=t at*
  have htv2:tv t= .agg #[.int .i64 t.c0,.int .i64 t.c1,.int .i64 t.c2,.int .i64 t.c3,.int .i64 t.c4]:=rfl
  have hm1:nblocks size f.width (i+1)≤nblocks size f.width f.count:=nblocks_mono hlt
  have hm2:nblocks size f.width i≤nblocks size f.width (i+1):=nblocks_mono (by omega)
  have hk1':(i+1)*Z.κ=i*Z.κ+Z.κ:=Nat.succ_mul _ _
  have hk2':(i+1)*Z.κ≤f.count*Z.κ:=Nat.mul_le_mul_right _ hlt
  repeat(refine st ?_;intros)
  refine R.call (hct:=hNx) (h:= ?_)
  rintro _ _ ⟨cd3,ca3,W3,cx3,cb3,rfl,hW3,hE3,hd3,hσ3,hl3,⟨rfl,hα3,hr3⟩|⟨rfl,hf3,hδ3,hg3,hx3⟩⟩
  try dsimp only[List.cons_append,List.nil_append]
  ·have hJ3:Z.J W3 r2 i:=hZ.stay _ _ _ _ hJ2 hE3.size hd3 hσ3 hl3 hE3.fault
   have hac3:=hE3.acts.2
   have hgp:W3.α.gs.Perm (Z.own r2++(g::base)):=by rw[hα3];exact hg2.trans List.perm_middle.symm
   have hS:=hS0 W3 cd3 ca3 cs2 hW3 hgp (by rw[hα3];exact hrm2) (hE3.size.trans hsz2) hJ3 htg (by omega)
   rw[htv2] at hS
   repeat(refine st ?_;intros)
   apply R.callV
   ·exact rfl
   ·exact hcal
   ·exact rfl
   ·exact hS
   ·exact(by repeat(first|exact Split.nil|(apply Split.cons;·(repeat(first|exact Take.here|apply Take.there|exact Take.nil)))))
   ·exact rfl
   ·exact nle rfl
   rintro _ _ ⟨cd4,ca4,cs4,W4,r4,e,rfl,rfl,hW4,hE4,hg4,hJ4,hB4⟩
   dsimp only[List.cons_append,List.nil_append]
   have hr4:IsRd bw bx W4 f ts g (i+1) cx3 cb3:=hr3.move hE4.size
   have hE24:=(hE2.trans hE3).trans hE4
   have hg5:W4.α.gs.Perm (g::(Z.own r4++base)):=hg4.trans List.perm_middle
   by_cases he:e=0
   ·subst he
    repeat(refine st ?_;intros)
    refine Dn.round ⟨i+1,cd4,ca4,cs4,cx3,cb3,W4,r4⟩ ⟨hlt,hW4,hE24.weak (by dsimp only;omega) (Nat.le_refl _),hg5,hJ4 rfl,hr4⟩ (by dsimp only;omega)
   ·repeat(refine st ?_;intros)
    have hRc:=RClose_uB bw bd ba bs W4 cd4 ca4 cs4 hW4 bx f ts g _ hg5 (i+1) cx3 cb3 hr4
    refine Go.SL.Lv.call (hc:=hRc.2) (h:= ?_)
    rintro _ _ ⟨ca5,α5,cx5,rfl,rfl,hW5,hE5,hg6,hx5⟩
    try dsimp only[List.cons_append,List.nil_append]
    (refine Go.SL.Lv.nil (Hr:=[wrow bw bd ba bs,cd4,ca5,cs4,Z.C r4]) Tryz.results102 (hR:= ?_);exact⟨cd4,ca5,cs4,_,r4,e,rfl,rfl,hW5,(hE24.trans hE5).weak (by omega) (Nat.le_refl _),hg6,fun h0=>absurd h0 he,fun _=>hZ.stayB _ _ _ _ (hB4 he)⟩)
  ·have hB3:Z.B W3 r2 6:=hZ.flt W2 W3 r2 i hJ2 hf3 hδ3 hσ3 hl3
   repeat(refine st ?_;intros)
   have hRc:=RClosed_uB bx cx3 hx3
   refine Go.SL.Lv.call (hc:=hRc.2) (h:= ?_)
   rintro _ _ ⟨rfl,rfl⟩
   try dsimp only[List.cons_append,List.nil_append]
   (refine Go.SL.Lv.nil (Hr:=[wrow bw bd ba bs,cd3,ca3,cs2,Z.C r2]) Tryz.results102 (hR:= ?_);exact⟨cd3,ca3,cs2,W3,r2,6,rfl,rfl,hW3,(hE2.trans hE3).weak (by omega) (Nat.le_refl _),hg3,fun h0=>by omega,fun _=>hB3⟩)
 ·obtain rfl:i=f.count:=by omega
  have hNe:=NextEnd_u bw bx W2 f ts g cx2 cb2 hrd2
  rw[hz] at hNe
  repeat(refine st ?_;intros)
  refine R.call (hct:=hNe) (h:= ?_)
  rintro _ _ ⟨rfl,rfl⟩
  try dsimp only[List.cons_append,List.nil_append]
  repeat(refine st ?_;intros)
  have hRc:=RClose_uB bw bd ba bs W2 cd2 ca2 cs2 hW2 bx f ts g _ hg2 f.count cx2 cb2 hrd2
  refine Go.SL.Lv.call (hc:=hRc.2) (h:= ?_)
  rintro _ _ ⟨ca5,α5,cx5,rfl,rfl,hW5,hE5,hg6,hx5⟩
  try dsimp only[List.cons_append,List.nil_append]
  (refine Go.SL.Lv.nil (Hr:=[wrow bw bd ba bs,cd2,ca5,cs2,Z.C r2]) Tryz.results102 (hR:= ?_);exact⟨cd2,ca5,cs2,_,r2,0,rfl,rfl,hW5,(hE2.trans hE5).weak (by omega) (Nat.le_refl _),hg6,fun _=>hZ.stay _ _ _ _ hJ2 rfl rfl rfl rfl id,fun h0=>absurd rfl h0⟩)
def putV (bx:Nat):Value:= .func (.func 46) #[pv bx] #[]
def Putter (bx kk:Nat) (Pst:List T5→Chunk→Prop) (Br:Chunk→Prop) (bnd:Nat):Prop:=
 ∀ps X t,Pst ps X→okT kk t→ps.length<bnd→Ct Tryz.prog 46 [pv bx,tv t] [X] fun v H'=>
  ∃X',H'=[X']∧((v= .int .i64 0∧Pst (ps++[t]) X')∨(v= .int .i64 6∧Br X'))
structure Maker (K:Type) where
 C:K→Hp
 outs:K→T5→List T5
 next:K→T5→K
 err:K→T5→Option Nat
def MakeU {K:Type} (M:Maker K) (kk:Nat) (ok:K→T5→Prop) (mk:Nat) (fs us:List Value):Prop:=
 ∀bx Pst Br bnd,Putter bx kk Pst Br bnd→∀ps X k t,Pst ps X→ok k t→ps.length+(M.outs k t).length≤bnd→
  Ct Tryz.prog mk (fs++[tv t,putV bx]++us) (X::M.C k) fun v H'=>∃X' k',H'=X'::M.C k'∧
   ((v= .int .i64 0∧M.err k t=none∧k'=M.next k t∧Pst (ps++M.outs k t) X')∨(v= .int .i64 6∧Br X')∨
    (∃n:Nat,M.err k t=some n∧n≠0∧v= .int .i64 (n:Int)∧∃ps',Pst ps' X'))
namespace Maker
variable {K:Type} (M:Maker K)
def st:K→List T5→K
 |k,[]=>k
 |k,t::ts=>st (M.next k t) ts
def all:K→List T5→List T5
 |_,[]=>[]
 |k,t::ts=>M.outs k t++all (M.next k t) ts
def bad:K→List T5→Option Nat
 |_,[]=>none
 |k,t::ts=>match M.err k t with
  |some n=>some n
  |none=>bad (M.next k t) ts
def oks (ok:K→T5→Prop):K→List T5→Prop
 |_,[]=>True
 |k,t::ts=>ok k t∧(M.err k t=none→oks ok (M.next k t) ts)
variable {M}
theorem st_app:∀(a b:List T5) (k:K),M.st k (a++b)=M.st (M.st k a) b
 |[],_,_=>rfl
 |t::a,b,k=>st_app a b (M.next k t)
theorem all_app:∀(a b:List T5) (k:K),M.all k (a++b)=M.all k a++M.all (M.st k a) b
 |[],_,_=>rfl
 |t::a,b,k=>by simp only[List.cons_append,all,st,all_app a b,List.append_assoc]
theorem bad_app:∀(a b:List T5) (k:K),M.bad k (a++b)=(match M.bad k a with|some n=>some n|none=>M.bad (M.st k a) b)
 |[],_,_=>rfl
 |t::a,b,k=>by
  simp only[List.cons_append,bad,st]
  cases M.err k t with
  |some n=>rfl
  |none=>exact bad_app a b _
theorem oks_at {ok:K→T5→Prop}:∀{ts:List T5} {k:K} {i:Nat} {t:T5},M.oks ok k ts→M.bad k (ts.take i)=none→ts[i]? =some t→ok (M.st k (ts.take i)) t
 |[],_,_,_,_,_,h=>by simp at h
 |t::ts,k,0,u,h,_,h2=>by simp only[List.getElem?_cons_zero,Option.some.injEq] at h2;subst h2;exact h.1
 |t::ts,k,i+1,u,h,hb,h2=>by
  simp only[List.take_succ_cons,bad] at hb
  cases he:M.err k t with
  |some n=>rw[he] at hb;cases hb
  |none=>
   rw[he] at hb
   exact oks_at (ts:=ts) (h.2 he) hb (by simpa using h2)
theorem take_succ {ts:List T5} {i:Nat} {t:T5} (h:ts[i]? =some t):ts.take (i+1)=ts.take i++[t]:=by rw[List.take_add_one,h];rfl
theorem all_le {ts:List T5} {k:K} (i:Nat):(M.all k (ts.take i)).length≤(M.all k ts).length:=by
 have:=congrArg List.length (all_app (M:=M) (ts.take i) (ts.drop i) k)
 rw[List.take_append_drop,List.length_append] at this
 omega
theorem bad_take {ts:List T5} {k:K} {i n:Nat} (h:M.bad k (ts.take i)=some n):M.bad k ts=some n:=by
 have:=bad_app (M:=M) (ts.take i) (ts.drop i) k
 rw[List.take_append_drop,h] at this
 exact this
theorem oks_app {ok:K→T5→Prop}:∀{a b:List T5} {k:K},M.oks ok k (a++b)→M.oks ok k a∧(M.bad k a=none→M.oks ok (M.st k a) b)
 |[],_,_,h=>⟨trivial,fun _=>h⟩
 |t::a,b,k,h=>by
  refine⟨⟨h.1,fun he=>(oks_app (h.2 he)).1⟩,fun hb=> ?_⟩
  simp only[bad] at hb
  cases he:M.err k t with
  |some n=>rw[he] at hb;cases hb
  |none=>rw[he] at hb;exact(oks_app (h.2 he)).2 hb
theorem all_len {n:Nat} (h:∀k t,(M.outs k t).length≤n):∀(ts:List T5) (k:K),(M.all k ts).length≤ts.length*n
 |[],_=>Nat.zero_le _
 |t::ts,k=>by
  have h1:=h k t
  have h2:=all_len h ts (M.next k t)
  simp only[all,List.length_append,List.length_cons,Nat.succ_mul]
  omega
end Maker
theorem flatTwo (X:Chunk) (H:Hp):(X::H).flatten.Perm ([X,H.flatten].flatten):=by simp
def eachC (bm bx2:Nat) (mk:Nat) (fs us:List Value) (bx:Nat):Hp:=[[(bm,row [.func (.func mk) fs.toArray us.toArray] 108)],[(bx2,row [pv bx] 91)]]
theorem Each1ct {K:Type} (M:Maker K) (kk:Nat) (ok:K→T5→Prop) (mk:Nat) (hcal:Callable Tryz.prog mk) (fs us:List Value) (hM:MakeU M kk ok mk fs us) (bm bx2 bx:Nat) (Pst:List T5→Chunk→Prop) (Br:Chunk→Prop) (bnd:Nat) (hP:Putter bx kk Pst Br bnd)
  (ps:List T5) (X:Chunk) (k:K) (t:T5) (hX:Pst ps X) (hk:ok k t) (hb:ps.length+(M.outs k t).length≤bnd):
  Ct Tryz.prog 122 [tv t,pv bm,pv bx2] [[(bm,row [.func (.func mk) fs.toArray us.toArray] 108)],[(bx2,row [pv bx] 91)],X,(M.C k).flatten] fun v H'=>
   ∃X' k',H'=[[(bm,row [.func (.func mk) fs.toArray us.toArray] 108)],[(bx2,row [pv bx] 91)],X',(M.C k').flatten]∧
   ((v= .int .i64 0∧M.err k t=none∧k'=M.next k t∧Pst (ps++M.outs k t) X')∨(v= .int .i64 6∧Br X')∨
    (∃n:Nat,M.err k t=some n∧n≠0∧v= .int .i64 (n:Int)∧∃ps',Pst ps' X')):=by
 have hC:Ct Tryz.prog mk (fs++[tv t,putV bx]++us) [X,(M.C k).flatten] fun v H'=>∃X' k',H'=[X',(M.C k').flatten]∧
   ((v= .int .i64 0∧M.err k t=none∧k'=M.next k t∧Pst (ps++M.outs k t) X')∨(v= .int .i64 6∧Br X')∨
    (∃n:Nat,M.err k t=some n∧n≠0∧v= .int .i64 (n:Int)∧∃ps',Pst ps' X')):=by
  refine Ct.convP (hM bx Pst Br bnd hP ps X k t hX hk hb) (flatTwo _ _).symm ?_
  rintro v H' ⟨X',k',rfl,h⟩
  exact⟨_,⟨X',k',rfl,h⟩,flatTwo _ _⟩
 have htv:tv t= .agg #[.int .i64 t.c0,.int .i64 t.c1,.int .i64 t.c2,.int .i64 t.c3,.int .i64 t.c4]:=rfl
 rw[htv] at hC⊢
 unfold putV at hC
 refine Ct.intro Tryz.func122 rfl Tryz.ntmps122 (nle rfl) fun w0=> ?_;dsimp only[argSlots,Nat.reduceAdd]
 repeat(refine st ?_;intros)
 apply R.callV
 ·exact rfl
 ·exact hcal
 ·exact rfl
 ·exact hC
 ·exact(by repeat(first|exact Split.nil|(apply Split.cons;·(repeat(first|exact Take.here|apply Take.there|exact Take.nil)))))
 ·exact rfl
 ·exact nle rfl
 rintro _ _ ⟨X',k',rfl,h⟩
 dsimp only[List.cons_append,List.nil_append]
 obtain⟨e,rfl⟩:∃e:Int,_=Value.int .i64 e:=by
  rcases h with⟨e,_⟩|⟨e,_⟩|⟨n,_,_,e,_⟩
  ·exact⟨_,e⟩
  ·exact⟨_,e⟩
  ·exact⟨_,e⟩
 repeat(refine st ?_;intros)
 (refine Dn.post (Hr:=[[(bm,row [.func (.func mk) fs.toArray us.toArray] 108)],[(bx2,row [pv bx] 91)],X',(M.C k').flatten]) Tryz.results122 (hR:= ?_);exact⟨X',k',rfl,h⟩)
structure EachR (K:Type) where
 k:K
 ps:List T5
 cx:Chunk
 cb:Chunk
 op:Bool
def FileIn (W:Wk) (x:Fl×List T5):Prop:=∃Lv,FileOk W.δ.disk W.δ.size Lv x.1 x.2∧∀e∈Lv,e∈W.live
theorem LvOf.mem {first nb:Nat} {Lv live:List Ext} (h:LvOf first nb Lv live) {e:Ext} (he:e∈Lv):e∈live:=by
 unfold LvOf at h
 split at h
 ·exact h.mem_iff.2 he
 ·exact h.mem_iff.2 (List.mem_cons_of_mem _ he)
def eachZ {K:Type} (M:Maker K) (W0:Wk) (k0:K) (ps0 ts:List T5) (bw bx first width bound size κ:Nat) (g:Gr) (Lv:List Ext) (cc:Hp):Seer (EachR K) where
 own r:=if r.op then[g] else[]
 C r:=(r.cx::r.cb::(cc++[(M.C r.k).flatten])).flatten
 J W r i:=r.op=true∧IsWr bw bx W first (nblocks size width bound) width bound g r.ps r.cx r.cb∧LvOf first (nblocks size width bound) Lv W.live∧Keep Lv W0 W∧(W0.δ.fault= -1→W.δ.fault= -1)∧
  r.k=M.st k0 (ts.take i)∧r.ps=ps0++M.all k0 (ts.take i)∧M.bad k0 (ts.take i)=none
 B W r e:=Keep Lv W0 W∧((r.op=true∧LvOf first (nblocks size width bound) Lv W.live∧∃ps,IsWr bw bx W first (nblocks size width bound) width bound g ps r.cx r.cb)∨(r.op=false∧ClosedWr bx r.cx∧W.live.Perm Lv))∧
  ((e=6∧W0.δ.fault≠-1)∨∃n:Nat,M.bad k0 ts=some n∧n≠0∧e=(n:Int))
 κ:=κ
theorem eachZ_ok {K:Type} (M:Maker K) (W0:Wk) (k0:K) (ps0 ts:List T5) (bw bx first width bound size κ:Nat) (g:Gr) (Lv:List Ext) (cc:Hp):(eachZ M W0 k0 ps0 ts bw bx first width bound size κ g Lv cc).Ok where
 stay:=by
  rintro W W' r i ⟨h0,h1,h2,h3,h4,h5⟩ hs hd _ hl hf
  exact⟨h0,h1.move hs (fun x _ _=>by rw[hd]),by rw[hl];exact h2,fun x hx=>by rw[hd];exact h3 x hx,fun e=>hf (h4 e),h5⟩
 flt:=by
  rintro W W' r i ⟨h0,h1,h2,h3,h4,h5⟩ hf hd _ hl
  have e1:W'.δ.disk=W.δ.disk:=by rw[hd];rfl
  exact⟨fun x hx=>by rw[e1];exact h3 x hx,.inl ⟨h0,by rw[hl];exact h2,r.ps,h1.move (by rw[hd];rfl) (fun x _ _=>by rw[e1])⟩,.inl ⟨rfl,fun e=>by have:=h4 e;omega⟩⟩
 stayB:=by
  rintro W α r e ⟨h1,h2,h3⟩
  refine⟨h1,?_,h3⟩
  rcases h2 with⟨a,b,ps,c⟩|⟨a,b,c⟩
  ·exact .inl ⟨a,b,ps,c.move rfl (fun _ _ _=>rfl)⟩
  ·exact .inr ⟨a,b,c⟩
theorem perm_each (A B D:Hp) (m:Chunk):(A++[(D++(B++[m])).flatten]).flatten.Perm ((B++[(A++D).flatten,m]).flatten):=by
 classical
 refine List.perm_iff_count.2 fun z=> ?_
 simp only[List.flatten_append,List.flatten_cons,List.flatten_nil,List.append_nil,List.count_append]
 omega
theorem putter (bw bd ba bs bx first width bound:Nat) (g:Gr) (base:List Gr) (Lv:List Ext) (W:Wk) (n0 nn:Nat) (hs:1≤holds W.δ.size width) (hn:n0+nn≤bound) (hac:W.δ.acts+nn≤1000000000000):
  Putter bx width (fun ps X=>∃cd ca cs cx cb W1,X=[wrow bw bd ba bs,cd,ca,cs,cx,cb].flatten∧Wc bd ba bs W1 cd ca cs∧W1.α.gs.Perm (g::base)∧IsWr bw bx W1 first (nblocks W.δ.size width bound) width bound g ps cx cb∧LvOf first (nblocks W.δ.size width bound) Lv W1.live∧
    Keep Lv W W1∧n0≤ps.length∧ps.length≤n0+nn∧Ev W W1 (ps.length-n0) 0)
   (fun X=>∃cd ca cs cx cb W1,X=[wrow bw bd ba bs,cd,ca,cs,cx,cb].flatten∧Wc bd ba bs W1 cd ca cs∧W1.α.gs.Perm base∧W1.live.Perm Lv∧ClosedWr bx cx∧Keep Lv W W1∧Ev W W1 nn 0∧W.δ.fault≠-1) (n0+nn):=by
 rintro ps X t ⟨cd,ca,cs,cx,cb,W1,rfl,hW,hg,hw,hl,hK,h1,h2,hE⟩ ht hlt
 have hacts:=hE.acts.2
 have hP:=Put_u bw bd ba bs W1 cd ca cs hW bx first _ width bound g ps cx cb hw base hg Lv hl (by omega) t ht (by omega)
 refine Ct.convP hP (by simp) ?_
 rintro v H' ⟨cd',ca',cs',W',cx',cb',rfl,hW',hE',hK',hc⟩
 have hE1:Ev W1 W' 1 0:=hE'.weak (by
  have h2:(ps.length+1)/holds W1.δ.size width≤ps.length/holds W1.δ.size width+1:=by
   rw[hE.size]
   calc (ps.length+1)/holds W.δ.size width≤(ps.length+holds W.δ.size width)/holds W.δ.size width:=Nat.div_le_div_right (by omega)
    _=ps.length/holds W.δ.size width+1:=Nat.add_div_right _ (by omega)
  omega) (Nat.le_refl _)
 refine⟨[[wrow bw bd ba bs,cd',ca',cs',cx',cb'].flatten],⟨_,rfl,?_⟩,by simp⟩
 rcases hc with⟨rfl,e1,e2,e3,e4⟩|⟨rfl,e1,e2,e3,e4,e5⟩
 ·exact .inl ⟨rfl,cd',ca',cs',cx',cb',W',rfl,hW',by rw[e1];exact hg,e4,by rw[e3];exact hl,hK.trans hK',by simp;omega,by simp;omega,(hE.trans hE1).weak (by simp;omega) (Nat.le_refl _)⟩
 ·refine .inr ⟨rfl,cd',ca',cs',cx',cb',W',rfl,hW',e3,e4,e5,hK.trans hK',(hE.trans hE1).weak (by omega) (Nat.le_refl _),fun hf=> ?_⟩
  have:=hE.fault hf
  omega
theorem eachZ_see {K:Type} (M:Maker K) (W0:Wk) (k0:K) (ps0 ts:List T5) (bw bd ba bs bx bm bx2 first width bound size room κ:Nat) (g:Gr) (Lv:List Ext) (f:Fl) (mk:Nat) (hcal:Callable Tryz.prog mk) (fs us:List Value) (ok:K→T5→Prop) (hM:MakeU M width ok mk fs us)
  (hκ:∀k t,ok k t→(M.outs k t).length≤κ) (hok:M.oks ok k0 ts) (hbd:ps0.length+(M.all k0 ts).length≤bound) (hh:1≤holds size width) (hκb:κ≤1000000000):
  SeeCt bw bd ba bs (eachZ M W0 k0 ps0 ts bw bx first width bound size κ g Lv (eachC bm bx2 mk fs us bx)) size room f ts 122 [] [pv bm,pv bx2]:=by
 rintro base W cd ca cs r i t hW hg hrm hsz ⟨hop,hwr,hl,hK,hflt,hk,hps,hbad⟩ ht hac
 have hokt:ok r.k t:=by rw[hk];exact Maker.oks_at hok hbad ht
 have hlen:r.ps.length+(M.outs r.k t).length≤bound:=by
  have h1:=Maker.all_le (M:=M) (ts:=ts) (k:=k0) (i+1)
  rw[Maker.take_succ ht,Maker.all_app,List.length_append,←hk] at h1
  simp only[Maker.all,List.append_nil] at h1
  rw[hps,List.length_append]
  omega
 have hκt:=hκ r.k t hokt
 simp only[eachZ,hop,if_true,List.singleton_append] at hg
 have hP:=putter bw bd ba bs bx first width bound g base Lv W r.ps.length (M.outs r.k t).length (by rw[hsz];exact hh) hlen (by omega)
 rw[hsz] at hP
 have hC:=Each1ct M width ok mk hcal fs us hM bm bx2 bx _ _ _ hP r.ps ([wrow bw bd ba bs,cd,ca,cs,r.cx,r.cb].flatten) r.k t
  ⟨cd,ca,cs,r.cx,r.cb,W,rfl,hW,hg,hwr,hl,Keep.refl _ _,Nat.le_refl _,by omega,by simpa using Ev.refl W⟩ hokt (Nat.le_refl _)
 refine Ct.convP hC ?_ ?_
 ·exact perm_each [wrow bw bd ba bs,cd,ca,cs] (eachC bm bx2 mk fs us bx) [r.cx,r.cb] _
 rintro v H' ⟨X',k',rfl,hc⟩
 rcases hc with⟨rfl,herr,rfl,cd',ca',cs',cx',cb',W',rfl,hW',hg',hw',hl',hK',h1,h2,hE'⟩|⟨rfl,cd',ca',cs',cx',cb',W',rfl,hW',hg',hl',hx',hK',hE',hf'⟩|⟨n,herr,hn,rfl,ps',cd',ca',cs',cx',cb',W',rfl,hW',hg',hw',hl',hK',h1,h2,hE'⟩
 ·refine⟨_,⟨cd',ca',cs',W',⟨_,r.ps++M.outs r.k t,cx',cb',true⟩,0,rfl,rfl,hW',hE'.weak (by simp[eachZ];omega) (Nat.le_refl _),hg',fun _=>⟨rfl,hw',hl',hK.trans hK',fun e=>hE'.fault (hflt e),?_,?_,?_⟩,fun h=>absurd rfl h⟩,(perm_each [wrow bw bd ba bs,cd',ca',cs'] (eachC bm bx2 mk fs us bx) [cx',cb'] _).symm⟩
  ·rw[Maker.take_succ ht,Maker.st_app,←hk];rfl
  ·rw[Maker.take_succ ht,Maker.all_app,←hk,←List.append_assoc,←hps];simp[Maker.all]
  ·rw[Maker.take_succ ht,Maker.bad_app,hbad,←hk];simp[Maker.bad,herr]
 ·refine⟨_,⟨cd',ca',cs',W',⟨k',[],cx',cb',false⟩,6,rfl,rfl,hW',hE'.weak hκt (Nat.le_refl _),hg',fun h=>by omega,fun _=>⟨hK.trans hK',.inr ⟨rfl,hx',hl'⟩,.inl ⟨rfl,fun e=>hf' (hflt e)⟩⟩⟩,(perm_each [wrow bw bd ba bs,cd',ca',cs'] (eachC bm bx2 mk fs us bx) [cx',cb'] _).symm⟩
 ·refine⟨_,⟨cd',ca',cs',W',⟨k',ps',cx',cb',true⟩,n,rfl,rfl,hW',hE'.weak (by simp[eachZ];omega) (Nat.le_refl _),hg',fun h=>by omega,fun _=>⟨hK.trans hK',.inl ⟨rfl,hl',ps',hw'⟩,.inr ⟨n,?_,hn,rfl⟩⟩⟩,(perm_each [wrow bw bd ba bs,cd',ca',cs'] (eachC bm bx2 mk fs us bx) [cx',cb'] _).symm⟩
  apply Maker.bad_take (i:=i+1)
  rw[Maker.take_succ ht,Maker.bad_app,hbad,←hk];simp[Maker.bad,herr]
theorem EachOver_ct (bw bd ba bs:Nat) {K:Type} (M:Maker K) (k0:K) (ps0:List T5) (W:Wk) (cd ca cs:Chunk) (h:Wc bd ba bs W cd ca cs) (bx bm bx2 first width bound κ:Nat) (g:Gr) (base:List Gr) (Lv:List Ext) (cx cb:Chunk) (hg:W.α.gs.Perm (g::base))
  (hw:IsWr bw bx W first (nblocks W.δ.size width bound) width bound g ps0 cx cb) (hl:LvOf first (nblocks W.δ.size width bound) Lv W.live) (f:Fl) (ts:List T5) (LvF:List Ext) (hfo:FileOk W.δ.disk W.δ.size LvF f ts) (hsub:∀e∈LvF,e∈Lv)
  (mk:Nat) (hcal:Callable Tryz.prog mk) (fs us:List Value) (ok:K→T5→Prop) (hM:MakeU M width ok mk fs us) (hκ:∀k t,ok k t→(M.outs k t).length≤κ) (hκb:κ≤10000) (hok:M.oks ok k0 ts) (hbd:ps0.length+(M.all k0 ts).length≤bound) (hwd:1≤width) (hwd2:width≤5)
  (hr:W.δ.size≤W.α.room-W.α.used) (hac:W.δ.acts≤10000000000) (hcn:f.count≤1000000):
  Ct Tryz.prog 102 [pv bw,flv f,.func (.func 122) #[] #[pv bm,pv bx2]] [wrow bw bd ba bs,cd,ca,cs,cx,cb,[(bm,row [.func (.func mk) fs.toArray us.toArray] 108)],[(bx2,row [pv bx] 91)],(M.C k0).flatten] fun v H'=>
   ∃cd' ca' cs' W' k' cx' cb' e,v= .int .i64 e∧H'=[wrow bw bd ba bs,cd',ca',cs',cx',cb',[(bm,row [.func (.func mk) fs.toArray us.toArray] 108)],[(bx2,row [pv bx] 91)],(M.C k').flatten]∧
    Wc bd ba bs W' cd' ca' cs'∧Ev W W' (f.blocks+f.count*κ) 0∧Keep Lv W W'∧
    ((e=0∧W'.α.gs.Perm (g::base)∧LvOf first (nblocks W.δ.size width bound) Lv W'.live∧IsWr bw bx W' first (nblocks W.δ.size width bound) width bound g (ps0++M.all k0 ts) cx' cb'∧k'=M.st k0 ts∧M.bad k0 ts=none)∨
     (e≠0∧((W'.α.gs.Perm (g::base)∧LvOf first (nblocks W.δ.size width bound) Lv W'.live∧∃ps,IsWr bw bx W' first (nblocks W.δ.size width bound) width bound g ps cx' cb')∨(W'.α.gs.Perm base∧W'.live.Perm Lv∧ClosedWr bx cx'))∧
      ((e=6∧W.δ.fault≠-1)∨∃n:Nat,M.bad k0 ts=some n∧e=(n:Int)))):=by
 obtain⟨⟨hs1,hs2⟩,_⟩:=h.dev.num
 have hh:=holds_pos hs1 hwd hwd2
 have hnb:=nblocks_le (n:=f.count) (holds_pos hs1 hfo.w1 hfo.w2)
 have hmk:f.count*κ≤1000000*10000:=Nat.mul_le_mul hcn hκb
 have hO:=Over_ct bw bd ba bs (eachZ M W k0 ps0 ts bw bx first width bound W.δ.size κ g Lv (eachC bm bx2 mk fs us bx)) (eachZ_ok M W k0 ps0 ts bw bx first width bound W.δ.size κ g Lv _) f ts LvF 122 inferInstance [] [pv bm,pv bx2] W.δ.size W.α.room
  (eachZ_see M W k0 ps0 ts bw bd ba bs bx bm bx2 first width bound W.δ.size W.α.room κ g Lv f mk hcal fs us ok hM hκ hok hbd hh (by omega)) W cd ca cs h ⟨k0,ps0,cx,cb,true⟩ base hg rfl rfl
  ⟨rfl,hw,hl,Keep.refl _ _,id,by simp[Maker.st],by simp[Maker.all],by simp[Maker.bad]⟩ (fun W' r i hJ=>⟨hfo.keep (fun x ⟨e,he,h2⟩=>hJ.2.2.2.1 x ⟨e,hsub e he,h2⟩),fun e he=>hJ.2.2.1.mem (hsub e he)⟩) hr (by show _+_+_*κ≤_;omega) hcn
 refine Ct.convP hO (by simp[eachZ,eachC]) ?_
 rintro v H' ⟨cd',ca',cs',W',r',e,rfl,rfl,hW',hE',hg',hJ,hB⟩
 refine⟨[wrow bw bd ba bs,cd',ca',cs',r'.cx,r'.cb,[(bm,row [.func (.func mk) fs.toArray us.toArray] 108)],[(bx2,row [pv bx] 91)],(M.C r'.k).flatten],⟨cd',ca',cs',W',r'.k,r'.cx,r'.cb,e,rfl,rfl,hW',?_,?_⟩,by simp[eachZ,eachC]⟩
 ·rw[hfo.blk];exact hE'
 by_cases he:e=0
 ·obtain⟨h0,h1,h2,h3,_,h5,h6,h7⟩:=hJ he
  have htk:ts.take f.count=ts:=by rw[←hfo.len,List.take_length]
  rw[htk] at h5 h6 h7
  simp only[eachZ,h0,if_true,List.singleton_append] at hg'
  exact⟨h3,.inl ⟨he,hg',h2,by rw[←h6];exact h1,h5,h7⟩⟩
 ·obtain⟨h1,h2,h3⟩:=hB he
  refine⟨h1,.inr ⟨he,?_,?_⟩⟩
  ·rcases h2 with⟨a,b,c⟩|⟨a,b,c⟩
   ·simp only[eachZ,a,if_true,List.singleton_append] at hg'
    exact .inl ⟨hg',b,c⟩
   ·simp only[eachZ,a,List.nil_append] at hg'
    exact .inr ⟨by simpa using hg',c,b⟩
  ·rcases h3 with h3|⟨n,a,_,b⟩
   ·exact .inl h3
   ·exact .inr ⟨n,a,b⟩
end Go.Proofs.YtjoicjgfgkpdjaaGreat
