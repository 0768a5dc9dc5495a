/-
  Parts of the proof, put together: HeapPop, MergePlain, Readers, CloseAll, MergeSt, MergeSt2. No condition.
-/
import Derived.Test.YtjoicjgfgkpdjaaGreatI15
set_option linter.unusedVariables false
set_option linter.unusedSimpArgs false
set_option linter.unnecessarySimpa false
set_option maxHeartbeats 4000000
namespace Go.Proofs.YtjoicjgfgkpdjaaGreat
open Go.SL Go.Spc Go.Tup Go.Srt
theorem HPop_ct (bh vb cap:Nat) (o:T5) (l:List Hd) (x:Hd) (rest:List Value) (hl:l.length≤1000000) (hcap:l.length+1≤cap):
  Ct Tryz.prog 185 [pv bh] (HeadsH bh vb cap o (l++[x]) rest) fun v H'=>v= .iface 212 (.agg x.cells.toArray)∧H'=HeadsH bh vb cap o l (x.cells++rest):=by
 obtain⟨a1,a2,a3,a4⟩:=hfacts (l:=l++[x]) (rest:=rest) (i:=l.length) (by simp)
 have hax:at_ (l++[x]) l.length=x:=by simp[at_,List.getD_eq_getElem?_getD]
 rw[hax] at a1 a2 a3 a4
 have hap:hcells l++(x.cells++rest)=hcells (l++[x])++rest:=by rw[hcells_app];simp[hcells]
 have hln:(l++[x]).length=l.length+1:=by simp
 have e1:IntKind.wrap .i64 (((l.length+1:Nat):Int)-1)=(l.length:Int):=by rw[wrap_i64 (by omega)];omega
 unfold HeadsH
 rw[hap,hln]
 generalize hcells (l++[x])++rest=cells at*
 generalize l.length=n at*
 unfold Hd.cells at*
 refine Ct.intro Tryz.func185 rfl Tryz.ntmps185 (nle rfl) fun w0=> ?_;dsimp only[argSlots,Nat.reduceAdd]
 repeat(first|(refine st ?_;intros)|refine G.draw [] (h:= ?_))
 apply R.mkIfaceS
 ·exact rfl
 ·exact Tryz.underlying212
 ·exact rfl
 ·exact nle rfl
 repeat(first|(refine st ?_;intros)|refine G.draw [] (h:= ?_))
 (refine Dn.post (Hr:=[[(bh,row [.slice (some ⟨vb,0,none⟩) n cap,.int .i64 o.c0,.int .i64 o.c1,.int .i64 o.c2,.int .i64 o.c3,.int .i64 o.c4] 210)],[(vb,row cells 212)]]) Tryz.results185 (hR:= ?_);exact⟨rfl,rfl⟩)
theorem PopH_ct (bh vb cap:Nat) (o:T5) (l:List Hd) (rest:List Value) (hl:l.length≤1000000) (hcap:l.length≤cap) (hne:0<l.length) (hh:HeapFrom (ltH o) l l.length 0):
  Ct Tryz.prog 148 [headV bh] (HeadsH bh vb cap o l rest) fun v H'=>∃l' x,v= .iface 212 (.agg x.cells.toArray)∧x=at_ l 0∧H'=HeadsH bh vb cap o l' (x.cells++rest)∧(x::l').Perm l∧l'.length+1=l.length∧HeapFrom (ltH o) l' l'.length 0:=by
 have hN:=HLen_ct bh vb cap o l rest
 have e1:IntKind.wrap .i64 ((l.length:Int)-1)=((l.length-1:Nat):Int):=by rw[wrap_i64 (by omega)];omega
 have hS:=HSwap_ct bh vb cap o l rest 0 (l.length-1) hne (by omega) hl
 have hsl:(sw l 0 (l.length-1)).length=l.length:=sw_length _ _ _
 have hat:=fun q=>sw_at l 0 (l.length-1) q hne (by omega)
 have hh1:HeapFrom (ltH o) (sw l 0 (l.length-1)) (l.length-1) 1:=by
  intro c h1 h2 h3
  rw[hat,hat,if_neg (by omega),if_neg (by omega),if_neg (by omega),if_neg (by omega)]
  exact hh c h1 (by omega) (Nat.zero_le _)
 have hD:=down_ct bh vb cap o (sw l 0 (l.length-1)) rest 0 (l.length-1) (by omega) (by omega) hh1 (by omega)
 have hpm:(sw l 0 (l.length-1)).Perm l:=sw_perm hne (by omega)
 have hlast:=hat (l.length-1)
 rw[if_pos rfl] at hlast
 refine Ct.intro Tryz.func148 rfl Tryz.ntmps148 (nle rfl) fun w0=> ?_;dsimp only[argSlots,Nat.reduceAdd]
 repeat(first|(refine st ?_;intros)|(refine cq hN ?_))
 refine R.invoke (hct:=hS) (h:= ?_)
 rintro _ _ ⟨rfl,rfl⟩
 try dsimp only[List.cons_append,List.nil_append]
 repeat(first|(refine st ?_;intros)|(refine cq hN ?_))
 refine R.call (hct:=hD) (h:= ?_)
 rintro _ _ ⟨b,us,rfl,rfl,hp,hh2,hout⟩
 try dsimp only[List.cons_append,List.nil_append]
 have hul:us.length=l.length:=hp.length_eq.trans hsl
 have hx:=(hout (l.length-1) (Nat.le_refl _)).trans hlast
 obtain⟨vs,y,rfl⟩:∃vs y,us=vs++[y]:=by
  rcases List.eq_nil_or_concat us with rfl|⟨qs,z,rfl⟩
  ·simp at hul;omega
  ·exact⟨qs,z,by simp⟩
 rw[List.length_append,List.length_singleton] at hul
 have hy:at_ (vs++[y]) (l.length-1)=y:=by
  rw[show l.length-1=vs.length by omega];simp[at_,List.getD_eq_getElem?_getD]
 rw[hy] at hx
 subst hx
 have hP:=HPop_ct bh vb cap o vs (at_ l 0) rest (by omega) (by omega)
 repeat(first|(refine st ?_;intros)|(refine cq hN ?_))
 refine R.invoke (hct:=hP) (h:= ?_)
 rintro _ _ ⟨rfl,rfl⟩
 try dsimp only[List.cons_append,List.nil_append]
 repeat(first|(refine st ?_;intros)|(refine cq hN ?_))
 (refine Dn.post (Hr:=HeadsH bh vb cap o vs ((at_ l 0).cells++rest)) Tryz.results148 (hR:= ?_);refine⟨vs,at_ l 0,rfl,rfl,rfl,?_,hul,?_⟩)
 ·exact(List.perm_append_comm (l₁:=[at_ l 0]) (l₂:=vs)).trans (hp.trans hpm)
 ·intro c h1 h2 h3
  have:=hh2 c h1 (by omega) h3
  rw[at_app,at_app,if_pos h2,if_pos (by omega)] at this
  exact this
theorem sd_head {o:T5} {u a:T5} {s:List T5} (h:Sd (ltO o) false (u::s)) (ha:a∈u::s):ltO o a u=false:=by
 rcases List.mem_cons.1 ha with rfl|ha
 ·exact(ltO_swo o).irr _
 ·unfold Sd at h
  have:=List.rel_of_pairwise_cons h ha
  simpa using this
theorem Em.merge {o:T5} {once:Bool} {l ps:List T5} {A B:List (List T5)} {t:T5} {r:List T5} (h:Em o once l ps (A++(t::r)::B).flatten)
  (hA:∀s∈A,Sd (ltO o) false s∧∀u s',s=u::s'→ltO o t u=true) (hB:∀s∈B,Sd (ltO o) false s∧∀u s',s=u::s'→ltO o u t=false) (hr:Sd (ltO o) false (t::r)):
  Em o once l (emit o once ps t) (A++r::B).flatten:=by
 have hsw:=ltO_swo o
 have hAa:∀a∈A.flatten,ltO o t a=true:=by
  intro a ha
  obtain⟨s,hs,has⟩:=List.mem_flatten.1 ha
  cases s with
  |nil=>simp at has
  |cons u s'=>
   obtain⟨h1,h2⟩:=hA _ hs
   cases hc:ltO o t a with
   |true=>rfl
   |false=>
    have:=hsw.ntrans _ _ _ hc (sd_head h1 has)
    rw[h2 u s' rfl] at this;cases this
 have hBb:∀b∈B.flatten,ltO o b t=false:=by
  intro b hb
  obtain⟨s,hs,hbs⟩:=List.mem_flatten.1 hb
  cases s with
  |nil=>simp at hbs
  |cons u s'=>
   obtain⟨h1,h2⟩:=hB _ hs
   exact hsw.ntrans _ _ _ (sd_head h1 hbs) (h2 u s' rfl)
 have e1:(A++(t::r)::B).flatten=(A.flatten++[t])++(r++B.flatten):=by simp
 have e2:(A++r::B).flatten=A.flatten++(r++B.flatten):=by simp
 rw[e1] at h
 rw[e2]
 have h2:Em o once l ps (t::(A.flatten++(r++B.flatten))):=by
  refine h.turn ?_ ?_
  ·have:=Go.Srt.Sp.app (once:=once) (Go.Srt.Sp.swap hsw (once:=once) (v:=A.flatten) (x:=[t]) (fun b hb a ha=>by simp only[List.mem_singleton] at hb;subst hb;exact hAa a ha)) (Go.Srt.Sp.refl (lt:=ltO o) once (r++B.flatten))
   simpa using this
  ·intro y hy
   simp only[List.mem_cons,List.mem_append] at hy⊢
   rcases hy with hy|hy|hy|hy
   ·exact .inl (.inr (by simp[hy]))
   ·exact .inl (.inl hy)
   ·exact .inr (.inl hy)
   ·exact .inr (.inr hy)
 refine h2.step fun y hy=> ?_
 rcases List.mem_append.1 hy with hy|hy
 ·exact hsw.asym _ _ (hAa y hy)
 ·rcases List.mem_append.1 hy with hy|hy
  ·exact sd_head hr (List.mem_cons_of_mem _ hy)
  ·exact hBb y hy
structure Rdr where
 bx:Nat
 f:Fl
 ts:List T5
 g:Gr
 pos:Nat
 opn:Bool
 cx:Chunk
 cb:Chunk
def RdSt (bw:Nat) (W:Wk) (r:Rdr):Prop:=if r.opn then IsRd bw r.bx W r.f r.ts r.g r.pos r.cx r.cb else ClosedRd r.bx r.cx
def rdAll (rs:List Rdr):Chunk:=rs.flatMap fun r=>r.cx++r.cb
def rdGrants (rs:List Rdr):List Gr:=(rs.filter (·.opn)).map (·.g)
theorem RdSt.move {bw:Nat} {W W':Wk} {r:Rdr} (h:RdSt bw W r) (hs:W'.δ.size=W.δ.size):RdSt bw W' r:=by
 unfold RdSt at*
 split
 ·rename_i ho;rw[if_pos ho] at h;exact h.move hs
 ·rename_i ho;rw[if_neg ho] at h;exact h
theorem rdAll_perm {a b:List Rdr} (h:a.Perm b):(rdAll a).Perm (rdAll b):=h.flatMap_right _
theorem rdAll_cut {rs:List Rdr} {r:Rdr} (h:r∈rs):∃qs,rs.Perm (r::qs)∧(rdAll rs).Perm (r.cx++(r.cb++rdAll qs)):=by
 obtain⟨l1,l2,rfl⟩:=List.append_of_mem h
 refine⟨l1++l2,List.perm_middle,(rdAll_perm List.perm_middle).trans ?_⟩
 simp[rdAll]
theorem rdGrants_perm {a b:List Rdr} (h:a.Perm b):(rdGrants a).Perm (rdGrants b):=(h.filter _).map _
def cellH (bc bh:Nat):Chunk:=[(bc,row [pv bh] 207)]
def headsRow (bh:Nat) (p:Option Addr) (n cap:Nat) (o:T5):Chunk:=[(bh,row [.slice p n cap,.int .i64 o.c0,.int .i64 o.c1,.int .i64 o.c2,.int .i64 o.c3,.int .i64 o.c4] 210)]
structure CloseX where
 i:Nat
 ca:Chunk
 α:Ar
 rs:List Rdr
theorem closeAll_cb (bc bh bw bd ba bs:Nat) (W:Wk) (cd ca cs:Chunk) (h:Wc bd ba bs W cd ca cs) (o:T5) (l:List Hd) (p:Option Addr) (cap:Nat) (vc:Chunk) (hV:Vec 212 7 p l.length cap (hcells l) vc) (hl:l.length≤1000000)
  (rs:List Rdr) (base:List Gr) (hg:W.α.gs.Perm (rdGrants rs++base)) (hrs:∀r∈rs,RdSt bw W r) (hlr:∀x∈l,∃r∈rs,r.bx=x.rd) (hrl:∀r∈rs,r.opn=true→∃x∈l,x.rd=r.bx) (hnd:(rs.map (·.bx)).Nodup):
  Cb Tryz.prog 144 [pv bc] [cellH bc bh,headsRow bh p l.length cap o,vc,wrow bw bd ba bs,ca,rdAll rs] fun v H'=>
   ∃ca' α' rs',v= .tuple #[]∧H'=[cellH bc bh,headsRow bh p l.length cap o,vc,wrow bw bd ba bs,ca',rdAll rs']∧Wc bd ba bs {W with α:=α'} cd ca' cs∧Ev W {W with α:=α'} 0 0∧α'.gs.Perm base:=by
 unfold cellH headsRow
 refine Cb.intro Tryz.func144 rfl Tryz.ntmps144 (nle rfl) fun w0=> ?_;dsimp only[argSlots,Nat.reduceAdd]
 repeat(refine st ?_;intros)
 refine G.loop (X:=CloseX) (fun x=>x.i≤l.length∧Wc bd ba bs {W with α:=x.α} cd x.ca cs∧Ev W {W with α:=x.α} 0 0∧x.α.gs.Perm (rdGrants x.rs++base)∧(∀r∈x.rs,RdSt bw W r)∧(∀y∈l,∃r∈x.rs,r.bx=y.rd)∧(∀r∈x.rs,r.opn=true→∃j,x.i≤j∧j<l.length∧(at_ l j).rd=r.bx)∧(x.rs.map (·.bx)).Nodup)
  (fun x=>[(8,.int .i64 (x.i:Int)),(7,.int .i64 (l.length:Int)),(6,.slice p l.length cap)])
  (fun x=>[[(bc,row [pv bh] 207)],[(bh,row [.slice p l.length cap,.int .i64 o.c0,.int .i64 o.c1,.int .i64 o.c2,.int .i64 o.c3,.int .i64 o.c4] 210)],vc,wrow bw bd ba bs,x.ca,rdAll x.rs]) (fun x=>l.length-x.i) ⟨0,ca,W.α,rs⟩
  ⟨Nat.zero_le _,h,Ev.refl W,hg,hrs,hlr,fun r hr ho=>by
   obtain⟨x,hx,he⟩:=hrl r hr ho
   obtain⟨j,hj,e⟩:=List.getElem_of_mem hx
   exact⟨j,Nat.zero_le _,hj,by rw[←he,←e];simp[at_,List.getD_eq_getElem?_getD,hj]⟩,hnd⟩ (body:= ?_)
 rintro⟨i,ca1,α1,rs1⟩ ⟨hi,hW1,hE1,hg1,hrs1,hlr1,hop1,hnd1⟩
 dsimp only at hi hW1 hE1 hg1 hrs1 hlr1 hop1 hnd1⊢
 by_cases hin:i<l.length
 ·have hx:at_ l i∈l:=by unfold at_;rw[List.getD_eq_getElem?_getD,List.getElem?_eq_getElem hin];exact List.getElem_mem hin
  obtain⟨r,hr,hbx⟩:=hlr1 _ hx
  obtain⟨qs,hp1,hp2⟩:=rdAll_cut hr
  obtain⟨_,h0|⟨vb,rest,rfl,rfl,_⟩⟩:=hV
  ·omega
  obtain⟨a1,a2,a3,a4⟩:=hfacts (rest:=rest) hin
  generalize hcells l++rest=cells at*
  generalize hxe:at_ l i=x at*
  unfold Hd.cells at a4
  repeat(refine st ?_;intros)
  rw[←hbx]
  apply R1.open hp2
  ·(repeat(first|exact Take.here|apply Take.there))
  have hst:=hrs1 r hr
  unfold RdSt at hst
  have hqs:∀q∈qs,q∈rs1:=fun q hq=>hp1.mem_iff.2 (List.mem_cons_of_mem _ hq)
  have hgp:(rdGrants rs1).Perm (rdGrants (r::qs)):=rdGrants_perm hp1
  have hnd2:((r::qs).map (·.bx)).Nodup:=(hp1.map _).nodup_iff.1 hnd1
  cases ho:r.opn with
  |false=>
   rw[ho] at hst
   have hC:=RClosed_u r.bx r.cx hst
   refine R.call (hct:=hC) (h:= ?_)
   rintro _ _ ⟨rfl,rfl⟩
   try dsimp only[List.cons_append,List.nil_append]
   repeat(refine st ?_;intros)
   apply Dn.join (c1:=r.cx) (c2:=r.cb++rdAll qs)
   ·(repeat(first|exact Take.here|apply Take.there))
   ·(repeat(first|exact Take.here|apply Take.there))
   rw[show r.cx++(r.cb++rdAll qs)=rdAll (r::qs) by simp[rdAll]]
   refine Dn.round ⟨i+1,ca1,α1,r::qs⟩ ⟨hin,hW1,hE1,hg1.trans (hgp.append_right _),fun q hq=>hrs1 q (hp1.mem_iff.2 hq),fun y hy=> ?_,fun q hq hqo=> ?_,hnd2⟩ (by dsimp only;omega)
   ·obtain⟨q,hq,e⟩:=hlr1 y hy
    exact⟨q,hp1.mem_iff.1 hq,e⟩
   ·obtain⟨j,j1,j2,j3⟩:=hop1 q (hp1.mem_iff.2 hq) hqo
    refine⟨j,?_,j2,j3⟩
    by_cases hji:j=i
    ·exfalso
     subst hji
     rw[hxe] at j3
     rcases List.mem_cons.1 hq with rfl|hq
     ·rw[ho] at hqo;cases hqo
     ·rw[List.map_cons,List.nodup_cons] at hnd2
      exact hnd2.1 (by rw[hbx,j3];exact List.mem_map.2 ⟨q,hq,rfl⟩)
    ·dsimp only;omega
  |true=>
   rw[ho] at hst
   have hgr:rdGrants (r::qs)=r.g::rdGrants qs:=by unfold rdGrants;rw[List.filter_cons_of_pos ho];rfl
   have hC:=RClose_u bw bd ba bs {W with α:=α1} cd ca1 cs hW1 r.bx r.f r.ts r.g (rdGrants qs++base) (hg1.trans (by rw[hgr] at hgp;exact hgp.append_right _)) r.pos r.cx r.cb (IsRd.move hst rfl)
   refine R.call (hct:=hC) (h:= ?_)
   rintro _ _ ⟨ca2,α2,cx2,rfl,rfl,hW2,hE2,hg2,hx2⟩
   try dsimp only[List.cons_append,List.nil_append]
   repeat(refine st ?_;intros)
   apply Dn.join (c1:=cx2) (c2:=r.cb++rdAll qs)
   ·(repeat(first|exact Take.here|apply Take.there))
   ·(repeat(first|exact Take.here|apply Take.there))
   rw[show cx2++(r.cb++rdAll qs)=rdAll ({r with opn:=false,cx:=cx2}::qs) by simp[rdAll]]
   refine Dn.round ⟨i+1,ca2,α2,{r with opn:=false,cx:=cx2}::qs⟩ ⟨hin,hW2,hE1.trans hE2,hg2,fun q hq=> ?_,fun y hy=> ?_,fun q hq hqo=> ?_,hnd2⟩ (by dsimp only;omega)
   ·rcases List.mem_cons.1 hq with rfl|hq
    ·exact hx2
    ·exact hrs1 q (hqs q hq)
   ·obtain⟨q,hq,e⟩:=hlr1 y hy
    rcases List.mem_cons.1 (hp1.mem_iff.1 hq) with rfl|hq
    ·exact⟨_,List.mem_cons_self,e⟩
    ·exact⟨q,List.mem_cons_of_mem _ hq,e⟩
   ·rcases List.mem_cons.1 hq with rfl|hq3
    ·cases hqo
    ·obtain⟨j,j1,j2,j3⟩:=hop1 q (hqs q hq3) hqo
     refine⟨j,?_,j2,j3⟩
     by_cases hji:j=i
     ·exfalso
      subst hji
      rw[hxe] at j3
      rw[List.map_cons,List.nodup_cons] at hnd2
      exact hnd2.1 (by rw[hbx,j3];exact List.mem_map.2 ⟨q,hq3,rfl⟩)
     ·dsimp only;omega
 ·repeat(refine st ?_;intros)
  (refine Dn.postEnd (Hr:=[[(bc,row [pv bh] 207)],[(bh,row [.slice p l.length cap,.int .i64 o.c0,.int .i64 o.c1,.int .i64 o.c2,.int .i64 o.c3,.int .i64 o.c4] 210)],vc,wrow bw bd ba bs,ca1,rdAll rs1]) Tryz.results144 (hR:= ?_);refine⟨ca1,α1,rs1,rfl,rfl,hW1,hE1,?_⟩)
  have:rdGrants rs1=[]:=by
   unfold rdGrants
   rw[List.filter_eq_nil_iff.2]
   ·rfl
   ·intro r hr ho
    obtain⟨j,j1,j2,_⟩:=hop1 r hr ho
    omega
  rw[this] at hg1;exact hg1
def remOf (r:Rdr):List T5:=if r.opn then r.ts.drop (r.pos-1) else[]
structure MSt (bw:Nat) (W:Wk) (o:T5) (rds:List Rdr) (hl:List Hd):Prop where
 rd:∀r∈rds,RdSt bw W r
 nd:(rds.map (·.bx)).Nodup
 hd:∀x∈hl,∃r,rds[x.run]? =some r∧r.opn=true∧r.bx=x.rd∧0<r.pos∧r.ts[r.pos-1]? =some x.t
 ex:∀j r,rds[j]? =some r→r.opn=true→∃x∈hl,x.run=j
 one:(hl.map (·.run)).Nodup
 sd:∀r∈rds,Sd (ltO o) false r.ts
theorem sd_drop {o:T5} {s:List T5} (h:Sd (ltO o) false s) (n:Nat):Sd (ltO o) false (s.drop n):=h.sublist (List.drop_sublist n s)
theorem remOf_sd {o:T5} {r:Rdr} (h:Sd (ltO o) false r.ts):Sd (ltO o) false (remOf r):=by
 unfold remOf;split
 ·exact sd_drop h _
 ·exact List.Pairwise.nil
theorem remOf_head {r:Rdr} {t u:T5} {s:List T5} (h:r.ts[r.pos-1]? =some t) (he:remOf r=u::s):u=t:=by
 unfold remOf at he
 split at he
 ·have h1:(r.ts.drop (r.pos-1))[0]? =some t:=by rw[List.getElem?_drop];simpa using h
  rw[he] at h1
  simpa using h1
 ·cases he
theorem MSt.top {bw:Nat} {W:Wk} {o:T5} {rds:List Rdr} {hl:List Hd} (h:MSt bw W o rds hl) (hne:0<hl.length) (hh:HeapFrom (ltH o) hl hl.length 0):
  ∃A r B,rds=A++r::B∧A.length=(at_ hl 0).run∧r.opn=true∧r.bx=(at_ hl 0).rd∧0<r.pos∧r.ts[r.pos-1]? =some (at_ hl 0).t∧remOf r=(at_ hl 0).t::r.ts.drop r.pos∧
   (∀s∈A.map remOf,Sd (ltO o) false s∧∀u s',s=u::s'→ltO o (at_ hl 0).t u=true)∧(∀s∈B.map remOf,Sd (ltO o) false s∧∀u s',s=u::s'→ltO o u (at_ hl 0).t=false):=by
 have hx:at_ hl 0∈hl:=by unfold at_;rw[List.getD_eq_getElem?_getD,List.getElem?_eq_getElem hne];exact List.getElem_mem hne
 have htop:=heap_top (ltH_swo o) hh
 have hle:∀y∈hl,ltH o y (at_ hl 0)=false:=by
  intro y hy
  obtain⟨j,hj,rfl⟩:=List.getElem_of_mem hy
  have:=htop j hj
  rwa[show at_ hl j=hl[j] by simp[at_,List.getD_eq_getElem?_getD,hj]] at this
 generalize at_ hl 0=x at*
 obtain⟨r,h1,h2,h3,h4,h5⟩:=h.hd x hx
 have hlt:x.run<rds.length:=(List.getElem?_eq_some_iff.1 h1).1
 have hre:rds[x.run]=r:=(List.getElem?_eq_some_iff.1 h1).2
 have hsp:rds=rds.take x.run++r::rds.drop (x.run+1):=by
  rw[←hre,←List.drop_eq_getElem_cons hlt,List.take_append_drop]
 have key:∀j q u s',rds[j]? =some q→remOf q=u::s'→∃y∈hl,y.run=j∧y.t=u:=by
  intro j q u s' hq he
  have ho:q.opn=true:=by
   cases hqo:q.opn with
   |true=>rfl
   |false=>unfold remOf at he;rw[hqo] at he;cases he
  obtain⟨y,hy,rfl⟩:=h.ex j q hq ho
  obtain⟨q',k1,k2,k3,k4,k5⟩:=h.hd y hy
  rw[hq] at k1;cases k1
  exact⟨y,hy,rfl,(remOf_head k5 he).symm⟩
 refine⟨rds.take x.run,r,rds.drop (x.run+1),hsp,by rw[List.length_take];omega,h2,h3,h4,h5,?_,?_,?_⟩
 ·unfold remOf
  rw[if_pos h2]
  obtain⟨k1,k2⟩:=List.getElem?_eq_some_iff.1 h5
  rw[List.drop_eq_getElem_cons k1,k2,show r.pos-1+1=r.pos by omega]
 ·intro s hs
  obtain⟨q,hq,rfl⟩:=List.mem_map.1 hs
  refine⟨remOf_sd (h.sd q (List.mem_of_mem_take hq)),fun u s' he=> ?_⟩
  obtain⟨j,hj,e⟩:=List.getElem_of_mem hq
  rw[List.length_take] at hj
  rw[List.getElem_take] at e
  obtain⟨y,hy,hyj,rfl⟩:=key j q u s' (List.getElem?_eq_some_iff.2 ⟨by omega,e⟩) he
  have:=hle y hy
  simp only[ltH,ltO,decide_eq_false_iff_not,decide_eq_true_eq] at this⊢
  have:=cmpT_swap o y.t x.t
  omega
 ·intro s hs
  obtain⟨q,hq,rfl⟩:=List.mem_map.1 hs
  refine⟨remOf_sd (h.sd q (List.mem_of_mem_drop hq)),fun u s' he=> ?_⟩
  obtain⟨j,hj,e⟩:=List.getElem_of_mem hq
  rw[List.length_drop] at hj
  rw[List.getElem_drop] at e
  obtain⟨y,hy,hyj,rfl⟩:=key (x.run+1+j) q u s' (List.getElem?_eq_some_iff.2 ⟨by omega,e⟩) he
  have:=hle y hy
  simp only[ltH,ltO,decide_eq_false_iff_not] at this⊢
  omega
end Go.Proofs.YtjoicjgfgkpdjaaGreat
namespace Go.SL
section apart
variable {Q:Exit→Act→World→Prop} {w0:World} {S:List Nat} {n:Nat} {L:Slots} {D:List Deferred} {H:Hp}
theorem Dn.nodup {e:Exit} (h:(keys H).Nodup→Dn Q w0 S n e L D H):Dn Q w0 S n e L D H:=by
 unfold Dn at h⊢
 exact fun a w hf hD hw=>h hw.nodup a w hf hD hw
theorem apart_take {H Ha Hb:Hp} {c1 c2:Chunk} (h:(keys H).Nodup) (h1:Take c1 H Ha) (h2:Take c2 Ha Hb):∀k∈c1.map (·.1),k∉c2.map (·.1):=by
 unfold Take at h1 h2
 have h3:H.flatten.Perm (c1++(c2++Hb.flatten)):=h1.trans (List.Perm.append_left _ h2)
 unfold keys at h
 have h4:=(h3.map (fun p=>p.1)).nodup_iff.1 h
 rw[List.map_append,List.map_append] at h4
 intro k hk hk2
 exact(List.nodup_append.1 h4).2.2 k hk k (List.mem_append_left _ hk2) rfl
variable {P:Program} {ops:Array Oper} {cls:Nat→Oper→Cls} {k:Nat} {l:List (Nat×Oper)} {qs:List Rd}
theorem putP_perm {c c1 c2:Chunk} {Ha Hb:Hp} (h1:Take c1 H Ha) (h2:Take c2 Ha Hb) (hp:(c1++c2).Perm c):H.flatten.Perm ((c::Hb).flatten):=by
 refine(join_perm h1 h2).trans ?_
 simp only[List.flatten_cons]
 exact hp.append_right _
theorem R.joinP {c c1 c2:Chunk} {Ha Hb:Hp} (hp:(c1++c2).Perm c) (h1:Take c1 H Ha) (h2:Take c2 Ha Hb) (h:R P ops Q cls w0 S n l L D (c::Hb) qs):R P ops Q cls w0 S n l L D H qs:=R.recut (putP_perm h1 h2 hp) h
theorem Dn.joinP {e:Exit} {c c1 c2:Chunk} {Ha Hb:Hp} (hp:(c1++c2).Perm c) (h1:Take c1 H Ha) (h2:Take c2 Ha Hb) (h:Dn Q w0 S n e L D (c::Hb)):Dn Q w0 S n e L D H:=Dn.recut (putP_perm h1 h2 hp) h
end apart
end Go.SL
namespace Go.Proofs.YtjoicjgfgkpdjaaGreat
open Go.SL Go.Spc Go.Tup Go.Srt
def Rdr.src (r:Rdr):Fl×List T5:=(r.f,r.ts)
theorem RdSt.bx_mem {bw:Nat} {W:Wk} {r:Rdr} (h:RdSt bw W r):r.bx∈r.cx.map (·.1):=by
 unfold RdSt at h
 split at h
 ·obtain⟨_,buf,n,a,e,_⟩:=h
  rw[e];simp
 ·obtain⟨_,_,_,_,_,_,_,e⟩:=h
  rw[e];simp
theorem bx_apart {bw:Nat} {W:Wk} {rds:List Rdr} (h:∀r∈rds,RdSt bw W r) {b:Nat} (hb:b∉(rdAll rds).map (·.1)):b∉rds.map (·.bx):=by
 intro hm
 obtain⟨r,hr,rfl⟩:=List.mem_map.1 hm
 apply hb
 obtain⟨p,hp,e⟩:=List.mem_map.1 (h r hr).bx_mem
 rw[←e]
 refine List.mem_map.2 ⟨p,?_,rfl⟩
 unfold rdAll
 exact List.mem_flatMap.2 ⟨r,hr,List.mem_append_left _ hp⟩
theorem sd_weak {o:T5} {once:Bool} {l:List T5} (h:Sd (ltO o) once l):Sd (ltO o) false l:=by
 cases once with
 |false=>exact h
 |true=>
  unfold Sd at*
  refine h.imp fun hab=> ?_
  simp only[if_true] at hab
  simp only[Bool.false_eq_true,if_false]
  exact(ltO_swo o).asym _ _ hab
theorem MSt.permH {bw:Nat} {W:Wk} {o:T5} {rds:List Rdr} {hl hl':List Hd} (h:MSt bw W o rds hl) (hp:hl'.Perm hl):MSt bw W o rds hl' where
 rd:=h.rd
 nd:=h.nd
 hd:=fun x hx=>h.hd x (hp.mem_iff.1 hx)
 ex:=fun j r hj ho=>by
  obtain⟨x,hx,e⟩:=h.ex j r hj ho
  exact⟨x,hp.mem_iff.2 hx,e⟩
 one:=((hp.map _).nodup_iff).2 h.one
 sd:=h.sd
theorem MSt.move {bw:Nat} {W W':Wk} {o:T5} {rds:List Rdr} {hl:List Hd} (h:MSt bw W o rds hl) (hs:W'.δ.size=W.δ.size):MSt bw W' o rds hl:=
 {h with rd:=fun r hr=>(h.rd r hr).move hs}
theorem MSt.nil (bw:Nat) (W:Wk) (o:T5):MSt bw W o [] []:=⟨by simp,by simp,by simp,by simp,by simp,by simp⟩
theorem MSt.add {bw:Nat} {W W':Wk} {o:T5} {rds:List Rdr} {hl:List Hd} {r:Rdr} {t:T5} (h:MSt bw W o rds hl) (hs:W'.δ.size=W.δ.size) (hr:RdSt bw W' r) (ho:r.opn=true) (hp:0<r.pos) (ht:r.ts[r.pos-1]? =some t)
  (hb:r.bx∉rds.map (·.bx)) (hsd:Sd (ltO o) false r.ts):MSt bw W' o (rds++[r]) (hl++[⟨t,rds.length,r.bx⟩]) where
 rd:=fun q hq=>by
  rcases List.mem_append.1 hq with hq|hq
  ·exact(h.rd q hq).move hs
  ·simp only[List.mem_singleton] at hq;subst hq;exact hr
 nd:=by
  rw[List.map_append,List.nodup_append]
  refine⟨h.nd,by simp,?_⟩
  intro a ha b hb2 e
  simp only[List.map_cons,List.map_nil,List.mem_singleton] at hb2
  subst hb2;subst e;exact hb ha
 hd:=fun x hx=>by
  rcases List.mem_append.1 hx with hx|hx
  ·obtain⟨q,h1,h2⟩:=h.hd x hx
   exact⟨q,by rw[List.getElem?_append_left (List.getElem?_eq_some_iff.1 h1).1];exact h1,h2⟩
  ·simp only[List.mem_singleton] at hx;subst hx
   exact⟨r,by simp,ho,rfl,hp,ht⟩
 ex:=fun j q hj hq=>by
  by_cases hlt:j<rds.length
  ·rw[List.getElem?_append_left hlt] at hj
   obtain⟨x,hx,e⟩:=h.ex j q hj hq
   exact⟨x,List.mem_append_left _ hx,e⟩
  ·have hjl:=(List.getElem?_eq_some_iff.1 hj).1
   rw[List.length_append,List.length_singleton] at hjl
   obtain rfl:j=rds.length:=by omega
   exact⟨_,List.mem_append_right _ List.mem_cons_self,rfl⟩
 one:=by
  rw[List.map_append,List.nodup_append]
  refine⟨h.one,by simp,?_⟩
  intro a ha b hb2 e
  simp only[List.map_cons,List.map_nil,List.mem_singleton] at hb2
  subst hb2;subst e
  obtain⟨x,hx,e⟩:=List.mem_map.1 ha
  obtain⟨q,h1,_⟩:=h.hd x hx
  have:=(List.getElem?_eq_some_iff.1 h1).1
  omega
 sd:=fun q hq=>by
  rcases List.mem_append.1 hq with hq|hq
  ·exact h.sd q hq
  ·simp only[List.mem_singleton] at hq;subst hq;exact hsd
theorem mid_get {α:Type} {A B:List α} {r r':α} {j:Nat} (h:j≠A.length):(A++r'::B)[j]? =(A++r::B)[j]? :=by
 by_cases hlt:j<A.length
 ·rw[List.getElem?_append_left hlt,List.getElem?_append_left hlt]
 ·rw[List.getElem?_append_right (by omega),List.getElem?_append_right (by omega)]
  obtain⟨i,hi⟩:∃i,j-A.length=i+1:=⟨j-A.length-1,by omega⟩
  rw[hi];simp
theorem mid_at {α:Type} {A B:List α} {r:α}:(A++r::B)[A.length]? =some r:=by simp
theorem MSt.step {bw:Nat} {W W':Wk} {o:T5} {A B:List Rdr} {r r':Rdr} {x:Hd} {tl:List Hd} {t:T5} (h:MSt bw W o (A++r::B) (x::tl)) (hA:A.length=x.run) (hs:W'.δ.size=W.δ.size) (hr:RdSt bw W' r') (hb:r'.bx=r.bx) (hx:r.bx=x.rd) (hts:r'.ts=r.ts) (ho:r'.opn=true) (hp:0<r'.pos)
  (ht:r'.ts[r'.pos-1]? =some t):MSt bw W' o (A++r'::B) ({x with t:=t}::tl) where
 rd:=fun q hq=>by
  rcases List.mem_append.1 hq with hq|hq
  ·exact(h.rd q (List.mem_append_left _ hq)).move hs
  ·rcases List.mem_cons.1 hq with rfl|hq
   ·exact hr
   ·exact(h.rd q (List.mem_append_right _ (List.mem_cons_of_mem _ hq))).move hs
 nd:=by have:=h.nd;simp only[List.map_append,List.map_cons,hb] at this⊢;exact this
 hd:=fun y hy=>by
  have hone:=h.one
  rw[List.map_cons,List.nodup_cons] at hone
  rcases List.mem_cons.1 hy with rfl|hy
  ·exact⟨r',by dsimp only;rw[←hA];exact mid_at,ho,hb.trans hx,hp,ht⟩
  ·obtain⟨q,h1,h2⟩:=h.hd y (List.mem_cons_of_mem _ hy)
   refine⟨q,?_,h2⟩
   rw[mid_get (r:=r) (by rw[hA];intro e;exact hone.1 (List.mem_map.2 ⟨y,hy,e⟩))]
   exact h1
 ex:=fun j q hj hq=>by
  by_cases e:j=A.length
  ·exact⟨_,List.mem_cons_self,by dsimp only;omega⟩
  ·rw[mid_get (r:=r) e] at hj
   obtain⟨y,hy,e2⟩:=h.ex j q hj hq
   rcases List.mem_cons.1 hy with rfl|hy
   ·omega
   ·exact⟨y,List.mem_cons_of_mem _ hy,e2⟩
 one:=by have:=h.one;simpa using this
 sd:=fun q hq=>by
  rcases List.mem_append.1 hq with hq|hq
  ·exact h.sd q (List.mem_append_left _ hq)
  ·rcases List.mem_cons.1 hq with rfl|hq
   ·rw[hts];exact h.sd r (by simp)
   ·exact h.sd q (List.mem_append_right _ (List.mem_cons_of_mem _ hq))
theorem MSt.close {bw:Nat} {W W':Wk} {o:T5} {A B:List Rdr} {r r':Rdr} {x:Hd} {tl:List Hd} (h:MSt bw W o (A++r::B) (x::tl)) (hA:A.length=x.run) (hs:W'.δ.size=W.δ.size) (hr:RdSt bw W' r') (hb:r'.bx=r.bx) (hts:r'.ts=r.ts) (ho:r'.opn=false):
  MSt bw W' o (A++r'::B) tl where
 rd:=fun q hq=>by
  rcases List.mem_append.1 hq with hq|hq
  ·exact(h.rd q (List.mem_append_left _ hq)).move hs
  ·rcases List.mem_cons.1 hq with rfl|hq
   ·exact hr
   ·exact(h.rd q (List.mem_append_right _ (List.mem_cons_of_mem _ hq))).move hs
 nd:=by have:=h.nd;simp only[List.map_append,List.map_cons,hb] at this⊢;exact this
 hd:=fun y hy=>by
  have hone:=h.one
  rw[List.map_cons,List.nodup_cons] at hone
  obtain⟨q,h1,h2⟩:=h.hd y (List.mem_cons_of_mem _ hy)
  refine⟨q,?_,h2⟩
  rw[mid_get (r:=r) (by rw[hA];intro e;exact hone.1 (List.mem_map.2 ⟨y,hy,e⟩))]
  exact h1
 ex:=fun j q hj hq=>by
  by_cases e:j=A.length
  ·subst e;rw[mid_at] at hj;cases hj;rw[ho] at hq;cases hq
  ·rw[mid_get (r:=r) e] at hj
   obtain⟨y,hy,e2⟩:=h.ex j q hj hq
   rcases List.mem_cons.1 hy with rfl|hy
   ·omega
   ·exact⟨y,hy,e2⟩
 one:=by have:=h.one;rw[List.map_cons,List.nodup_cons] at this;exact this.2
 sd:=fun q hq=>by
  rcases List.mem_append.1 hq with hq|hq
  ·exact h.sd q (List.mem_append_left _ hq)
  ·rcases List.mem_cons.1 hq with rfl|hq
   ·rw[hts];exact h.sd r (by simp)
   ·exact h.sd q (List.mem_append_right _ (List.mem_cons_of_mem _ hq))
structure CSt (bw:Nat) (W:Wk) (rs:List Rdr) (l:List Hd):Prop where
 rd:∀r∈rs,RdSt bw W r
 lr:∀x∈l,∃r∈rs,r.bx=x.rd
 rl:∀r∈rs,r.opn=true→∃x∈l,x.rd=r.bx
 nd:(rs.map (·.bx)).Nodup
theorem CSt.move {bw:Nat} {W W':Wk} {rs:List Rdr} {l:List Hd} (h:CSt bw W rs l) (hs:W'.δ.size=W.δ.size):CSt bw W' rs l:={h with rd:=fun r hr=>(h.rd r hr).move hs}
theorem MSt.cst {bw:Nat} {W:Wk} {o:T5} {rds:List Rdr} {hl:List Hd} (h:MSt bw W o rds hl):CSt bw W rds hl where
 rd:=h.rd
 lr:=fun x hx=>by
  obtain⟨r,h1,_,h2,_⟩:=h.hd x hx
  exact⟨r,List.mem_of_getElem? h1,h2⟩
 rl:=fun r hr ho=>by
  obtain⟨j,hj,e⟩:=List.getElem_of_mem hr
  obtain⟨x,hx,e2⟩:=h.ex j r (by rw[List.getElem?_eq_getElem hj,e]) ho
  obtain⟨q,h1,_,h2,_⟩:=h.hd x hx
  rw[e2,List.getElem?_eq_getElem hj,e] at h1
  cases h1
  exact⟨x,hx,h2.symm⟩
 nd:=h.nd
theorem CSt.one {bw:Nat} {W W':Wk} {A B:List Rdr} {r r':Rdr} {l:List Hd} (h:CSt bw W (A++r::B) l) (hs:W'.δ.size=W.δ.size) (hr:RdSt bw W' r') (hb:r'.bx=r.bx) (ho:r'.opn=false):CSt bw W' (A++r'::B) l where
 rd:=fun q hq=>by
  rcases List.mem_append.1 hq with hq|hq
  ·exact(h.rd q (List.mem_append_left _ hq)).move hs
  ·rcases List.mem_cons.1 hq with rfl|hq
   ·exact hr
   ·exact(h.rd q (List.mem_append_right _ (List.mem_cons_of_mem _ hq))).move hs
 lr:=fun x hx=>by
  obtain⟨q,hq,e⟩:=h.lr x hx
  rcases List.mem_append.1 hq with hq|hq
  ·exact⟨q,List.mem_append_left _ hq,e⟩
  ·rcases List.mem_cons.1 hq with rfl|hq
   ·exact⟨r',List.mem_append_right _ List.mem_cons_self,hb.trans e⟩
   ·exact⟨q,List.mem_append_right _ (List.mem_cons_of_mem _ hq),e⟩
 rl:=fun q hq hqo=>by
  rcases List.mem_append.1 hq with hq|hq
  ·exact h.rl q (List.mem_append_left _ hq) hqo
  ·rcases List.mem_cons.1 hq with rfl|hq
   ·rw[ho] at hqo;cases hqo
   ·exact h.rl q (List.mem_append_right _ (List.mem_cons_of_mem _ hq)) hqo
 nd:=by have:=h.nd;simp only[List.map_append,List.map_cons,hb] at this⊢;exact this
def rdA (s k:Nat) (rds:List Rdr):Nat:=(rds.map fun r=>nblocks s k r.pos).sum
def left (rds:List Rdr):List T5:=(rds.map remOf).flatten
theorem rdA_mid (s k:Nat) (A B:List Rdr) (r:Rdr):rdA s k (A++r::B)=rdA s k A+(nblocks s k r.pos+rdA s k B):=by simp[rdA,List.sum_append]
theorem left_mid (A B:List Rdr) (r:Rdr):left (A++r::B)=left A++(remOf r++left B):=by simp[left]
theorem rdA_app (s k:Nat) (A:List Rdr) (r:Rdr):rdA s k (A++[r])=rdA s k A+nblocks s k r.pos:=by simp[rdA,List.sum_append]
theorem rdGrants_app (A:List Rdr) (r:Rdr):rdGrants (A++[r])=rdGrants A++(if r.opn=true then[r.g] else[]):=by
 unfold rdGrants
 rw[List.filter_append,List.map_append]
 congr 1
 by_cases h:r.opn=true
 ·rw[if_pos h,List.filter_cons_of_pos h];rfl
 ·rw[if_neg h,List.filter_cons_of_neg h];rfl
theorem rdAll_mid (A B:List Rdr) (r:Rdr):(rdAll (A++r::B)).Perm ((r.cx++r.cb)++rdAll (A++B)):=by
 have h:(A++r::B).Perm (r::(A++B)):=List.perm_middle
 refine(rdAll_perm h).trans ?_
 simp[rdAll]
theorem rdGrants_mid (A B:List Rdr) (r:Rdr) (ho:r.opn=true):(rdGrants (A++r::B)).Perm (r.g::rdGrants (A++B)):=by
 have h:(A++r::B).Perm (r::(A++B)):=List.perm_middle
 refine(rdGrants_perm h).trans ?_
 unfold rdGrants;rw[List.filter_cons_of_pos ho];exact .refl _
theorem rdGrants_mid0 (A B:List Rdr) (r:Rdr) (ho:r.opn=false):(rdGrants (A++r::B)).Perm (rdGrants (A++B)):=by
 have h:(A++r::B).Perm (r::(A++B)):=List.perm_middle
 refine(rdGrants_perm h).trans ?_
 unfold rdGrants;rw[List.filter_cons_of_neg (by simp[ho])]
theorem rdA_le {s k:Nat} {rds:List Rdr} (h:∀r∈rds,r.pos≤r.f.count):rdA s k rds≤((rds.map Rdr.src).map fun r=>nblocks s k r.1.count).sum:=by
 induction rds with
 |nil=>simp[rdA]
 |cons r rds ih=>
  have h1:=ih fun q hq=>h q (List.mem_cons_of_mem _ hq)
  have h2:nblocks s k r.pos≤nblocks s k r.f.count:=nblocks_mono (h r List.mem_cons_self)
  simp only[rdA,List.map_cons,List.sum_cons,Rdr.src] at h1⊢
  omega
end Go.Proofs.YtjoicjgfgkpdjaaGreat
