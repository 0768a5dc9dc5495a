/-
  Parts of the proof, put together: Ref14a, Ref14b, Ref14c, Ref14d, Ref14e, RankW, RowsB. No condition.
-/
import Derived.Test.YtjoicjgfgkpdjaaGreatJ25
set_option linter.unusedVariables false
set_option linter.unusedSimpArgs false
set_option linter.unnecessarySimpa false
set_option maxHeartbeats 4000000
namespace Go.Proofs.YtjoicjgfgkpdjaaGreat
open Go.SL Go.Spc Go.Tup Go.Srt
def fIdx (ts:List T5) (x:Int):Int:=match ts.findIdx? fun t=>decide (t.c0=x) with|some i=>(i:Int)|none=> -1
theorem fIdx_none {ts:List T5} {x:Int} (h:∀t∈ts,t.c0≠x):fIdx ts x= -1:=by
 unfold fIdx
 rw[List.findIdx?_eq_none_iff.2 fun t ht=>decide_eq_false (h t ht)]
theorem fIdx_some {ts:List T5} {x:Int} {i:Nat} {t:T5} (ht:ts[i]? =some t) (hx:t.c0=x) (hno:∀j u,j<i→ts[j]? =some u→u.c0≠x):fIdx ts x=(i:Int):=by
 unfold fIdx
 have h:=List.getElem?_eq_some_iff.1 ht
 obtain⟨hi,he⟩:=h
 have:ts.findIdx? (fun t=>decide (t.c0=x))=some i:=by
  rw[List.findIdx?_eq_some_iff_getElem]
  refine⟨hi,by rw[he];exact decide_eq_true hx,fun j hj=> ?_⟩
  simp only[decide_eq_true_eq]
  exact hno j _ hj (List.getElem?_eq_getElem (by omega))
 rw[this]
theorem find14ct (p:Option Addr) (n cap:Nat) (ts:List T5) (c:Chunk) (hv:RV p n ts c) (hn:n≤1000000) (x:Int):
  CtQ Tryz.prog 64 [.slice p n cap,.int .i64 x] [c] (.int .i64 (fIdx ts x)):=by
 have hl:=hv.1
 refine Ct.intro Tryz.func64 rfl Tryz.ntmps64 (nle rfl) fun w0=> ?_;dsimp only[argSlots,Nat.reduceAdd]
 repeat(refine st ?_;intros)
 refine G.loop (X:=Nat) (fun i=>i≤n∧∀j u,j<i→ts[j]? =some u→u.c0≠x) (fun i=>[(5,.int .i64 (i:Int)),(0,.slice p n cap),(1,.int .i64 x)]) (fun _=>[c]) (fun i=>n-i) 0 ⟨Nat.zero_le _,fun j u h=>absurd h (Nat.not_lt_zero _)⟩ (body:= ?_)
 rintro i ⟨hi,hno⟩
 by_cases hlt:i<n
 ·obtain⟨b,off,cc,T,fz,rfl,rfl,hcut,hget⟩:=(RV.rw hv).pos tcells_len (by omega)
  have hit:ts[i]? =some ts[i]:=List.getElem?_eq_getElem (by omega)
  have q0:=hget i 0 _ (.int .i64 (ts[i]).c0) hit rfl
  rw[Nat.add_zero] at q0
  have e1:IntKind.wrap .i64 ((i:Int)+1)=((i+1:Nat):Int):=by rw[wrap_i64 (by omega)];omega
  generalize ts[i]=t at*
  by_cases hx:t.c0=x
  ·have hf:=fIdx_some hit hx hno
   rw[hf]
   repeat(refine st ?_;intros)
   (refine Dn.post (Hr:=[[(b,rowf cc T fz)]]) Tryz.results64 (hR:= ?_);exact⟨rfl,rfl⟩)
  ·repeat(refine st ?_;intros)
   exact Dn.round (i+1) ⟨by omega,fun j u hj hu=>by
    by_cases hji:j=i
    ·subst hji;rw[hit] at hu;cases hu;exact hx
    ·exact hno j u (by omega) hu⟩ (by omega)
 ·obtain rfl:i=n:=by omega
  have hf:fIdx ts x= -1:=fIdx_none fun t ht=>by
   obtain⟨j,hj,rfl⟩:=List.mem_iff_getElem.1 ht
   exact hno j _ (by omega) (List.getElem?_eq_getElem hj)
  rw[hf]
  repeat(refine st ?_;intros)
  (refine Dn.post (Hr:=[c]) Tryz.results64 (hR:= ?_);exact⟨rfl,rfl⟩)
theorem fIdx_iff {ts:List T5} {x:Int}:0≤fIdx ts x↔∃u∈ts,u.c0=x:=by
 constructor
 ·intro h
  by_cases hx:∃u∈ts,u.c0=x
  ·exact hx
  ·rw[fIdx_none fun t ht he=>hx ⟨t,ht,he⟩] at h
   exact absurd h (by decide)
 ·rintro⟨u,hu,hx⟩
  unfold fIdx
  cases hf:ts.findIdx? fun t=>decide (t.c0=x) with
  |none=>rw[List.findIdx?_eq_none_iff] at hf;have:=hf u hu;simp[hx] at this
  |some i=>exact Int.natCast_nonneg i
def okAt (ts:List T5) (i:Nat) (t:T5):Prop:=0≤t.c0∧-1≤t.c1∧fIdx ts t.c0=(i:Int)∧(0≤t.c1→0≤fIdx ts t.c1)
def okPr (ts:List T5) (i:Nat) (t:T5):Prop:=∀k u,k<i→ts[k]? =some u→0≤t.c1→t.c1≠u.c1
theorem okL_iff {ts:List T5}:OkL ts↔∀i t,ts[i]? =some t→okAt ts i t∧okPr ts i t:=by
 constructor
 ·intro h i t ht
  obtain⟨hi,rfl⟩:=List.getElem?_eq_some_iff.1 ht
  have h1:=h.el _ (List.getElem_mem hi)
  refine⟨⟨h1.1,h1.2,fIdx_some ht rfl fun j u hj hu=> ?_,fun h2=> ?_⟩,fun k u hk hu h2=> ?_⟩
  ·obtain⟨hj',rfl⟩:=List.getElem?_eq_some_iff.1 hu
   exact List.pairwise_iff_getElem.1 h.nd j i hj' hi hj
  ·rw[fIdx_iff];exact h.im _ (List.getElem_mem hi) (by omega)
  ·obtain⟨hk',rfl⟩:=List.getElem?_eq_some_iff.1 hu
   intro he
   exact List.pairwise_iff_getElem.1 h.nx k i hk' hi hk (by omega) he.symm
 ·intro h
  have hg:∀i,(hi:i<ts.length)→okAt ts i ts[i]∧okPr ts i ts[i]:=fun i hi=>h i _ (List.getElem?_eq_getElem hi)
  refine{el:=fun t ht=> ?_,nd:= ?_,nx:= ?_,im:=fun t ht hn=> ?_}
  ·obtain⟨i,hi,rfl⟩:=List.mem_iff_getElem.1 ht
   exact⟨(hg i hi).1.1,(hg i hi).1.2.1⟩
  ·rw[List.pairwise_iff_getElem]
   intro i j hi hj hij he
   have h1:=(hg i hi).1.2.2.1
   have h2:=(hg j hj).1.2.2.1
   rw[he] at h1
   omega
  ·rw[List.pairwise_iff_getElem]
   intro i j hi hj hij hn he
   have h1:=(hg i hi).1.2.1
   exact(hg j hj).2 i _ hij (List.getElem?_eq_getElem hi) (by omega) he.symm
  ·obtain⟨i,hi,rfl⟩:=List.mem_iff_getElem.1 ht
   have h1:=(hg i hi).1
   have h2:=h1.2.1
   exact fIdx_iff.1 (h1.2.2.2 (by omega))
open Classical in
noncomputable def okB (ts:List T5):Bool:=decide (OkL ts)
open Classical in
theorem okB_true {ts:List T5} (h:OkL ts):okB ts=true:=by unfold okB;exact decide_eq_true h
open Classical in
theorem okB_false {ts:List T5} (h:¬OkL ts):okB ts=false:=by unfold okB;exact decide_eq_false h
theorem lists14ct (p:Option Addr) (n cap:Nat) (ts:List T5) (c:Chunk) (hv:RV p n ts c) (hn:n≤1000000):
  CtQ Tryz.prog 62 [.slice p n cap] [c] (.bool (okB ts)):=by
 have hl:=hv.1
 have hF:=find14ct p n cap ts c hv hn
 refine Ct.intro Tryz.func62 rfl Tryz.ntmps62 (nle rfl) fun w0=> ?_;dsimp only[argSlots,Nat.reduceAdd]
 repeat(first|(refine st ?_;intros)|refine G.draw [] (h:= ?_)|(refine cq hf1 ?_)|(refine cq hf2 ?_))
 refine G.loop (X:=Nat) (fun i=>i≤n∧∀j t,j<i→ts[j]? =some t→okAt ts j t∧okPr ts j t) (fun i=>[(3,.int .i64 (i:Int)),(0,.slice p n cap)]) (fun _=>[c]) (fun i=>n-i) 0 ⟨Nat.zero_le _,fun j u h=>absurd h (Nat.not_lt_zero _)⟩ (body:= ?_)
 rintro i ⟨hi,hno⟩
 by_cases hlt:i<n
 rotate_left
 ·obtain rfl:i=n:=by omega
  rw[okB_true (okL_iff.2 fun j t ht=>hno j t (by have:=(List.getElem?_eq_some_iff.1 ht).1;omega) ht)]
  repeat(first|(refine st ?_;intros)|refine G.draw [] (h:= ?_)|(refine cq hf1 ?_)|(refine cq hf2 ?_))
  (refine Dn.post (Hr:=[c]) Tryz.results62 (hR:= ?_);exact⟨rfl,rfl⟩)
 obtain⟨b,off,cc,T,fz,rfl,rfl,hcut,hget⟩:=(RV.rw hv).pos tcells_len (by omega)
 have hit:ts[i]? =some ts[i]:=List.getElem?_eq_getElem (by omega)
 have q0:=hget i 0 _ (.int .i64 (ts[i]).c0) hit rfl
 have q1:=hget i 1 _ (.int .i64 (ts[i]).c1) hit rfl
 rw[Nat.add_zero] at q0
 have e1:IntKind.wrap .i64 ((i:Int)+1)=((i+1:Nat):Int):=by rw[wrap_i64 (by omega)];omega
 have hbad:¬(okAt ts i ts[i]∧okPr ts i ts[i])→¬OkL ts:=fun h h2=>h (okL_iff.1 h2 i _ hit)
 generalize ts[i]=t at*
 have hf1:=hF t.c0
 have hf2:=hF t.c1
 clear hF
 by_cases hA:okAt ts i t
 rotate_left
 ·rw[okB_false (hbad fun h=>hA h.1)]
  unfold okAt at hA
  generalize fIdx ts t.c0=f0 at*
  generalize fIdx ts t.c1=f1 at*
  by_cases h0:t.c0<0
  ·repeat(first|(refine st ?_;intros)|refine G.draw [] (h:= ?_)|(refine cq hf1 ?_)|(refine cq hf2 ?_))
   (refine Dn.post (Hr:=[[(b,rowf cc T fz)]]) Tryz.results62 (hR:= ?_);exact⟨rfl,rfl⟩)
  by_cases h1:t.c1< -1
  ·repeat(first|(refine st ?_;intros)|refine G.draw [] (h:= ?_)|(refine cq hf1 ?_)|(refine cq hf2 ?_))
   (refine Dn.post (Hr:=[[(b,rowf cc T fz)]]) Tryz.results62 (hR:= ?_);exact⟨rfl,rfl⟩)
  by_cases h2:f0=(i:Int)
  rotate_left
  ·repeat(first|(refine st ?_;intros)|refine G.draw [] (h:= ?_)|(refine cq hf1 ?_)|(refine cq hf2 ?_))
   (refine Dn.post (Hr:=[[(b,rowf cc T fz)]]) Tryz.results62 (hR:= ?_);exact⟨rfl,rfl⟩)
  have h3:0≤t.c1:=by omega
  have h4:f1<0:=by omega
  repeat(first|(refine st ?_;intros)|refine G.draw [] (h:= ?_)|(refine cq hf1 ?_)|(refine cq hf2 ?_))
  (refine Dn.post (Hr:=[[(b,rowf cc T fz)]]) Tryz.results62 (hR:= ?_);exact⟨rfl,rfl⟩)
 have hA2:=hA
 unfold okAt at hA
 generalize fIdx ts t.c0=f0 at*
 generalize fIdx ts t.c1=f1 at*
 obtain⟨h0,h1,h2,h3⟩:=hA
 have hround:okPr ts i t→∀j u,j<i+1→ts[j]? =some u→okAt ts j u∧okPr ts j u:=fun hp j u hj hu=>by
  by_cases hji:j=i
  ·subst hji;rw[hit] at hu;cases hu;exact⟨hA2,hp⟩
  ·exact hno j u (by omega) hu
 by_cases hc:0≤t.c1
 ·have h4:=h3 hc
  repeat(first|(refine st ?_;intros)|refine G.draw [] (h:= ?_)|(refine cq hf1 ?_)|(refine cq hf2 ?_))
  refine G.loop (X:=Nat) (fun k=>k≤i∧∀j u,j<k→ts[j]? =some u→t.c1≠u.c1) (fun k=>[(4,.int .i64 (k:Int)),(3,.int .i64 (i:Int)),(0,.slice (some ⟨b,off,none⟩) n cap)]) (fun _=>[[(b,rowf cc T fz)]]) (fun k=>i-k) 0 ⟨Nat.zero_le _,fun j u h=>absurd h (Nat.not_lt_zero _)⟩ (body:= ?_)
  rintro k ⟨hk,hkn⟩
  by_cases hki:k<i
  rotate_left
  ·obtain rfl:k=i:=by omega
   repeat(first|(refine st ?_;intros)|refine G.draw [] (h:= ?_)|(refine cq hf1 ?_)|(refine cq hf2 ?_))
   exact Dn.round (k+1) ⟨by omega,hround fun j u hj hu _=>hkn j u hj hu⟩ (by omega)
  have hkt:ts[k]? =some ts[k]:=List.getElem?_eq_getElem (by omega)
  have q3:=hget k 1 _ (.int .i64 (ts[k]).c1) hkt rfl
  have e2:IntKind.wrap .i64 ((k:Int)+1)=((k+1:Nat):Int):=by rw[wrap_i64 (by omega)];omega
  generalize ts[k]=u at*
  by_cases he:t.c1=u.c1
  ·rw[okB_false (hbad fun h=>h.2 k u hki hkt hc he)]
   repeat(first|(refine st ?_;intros)|refine G.draw [] (h:= ?_)|(refine cq hf1 ?_)|(refine cq hf2 ?_))
   (refine Dn.post (Hr:=[[(b,rowf cc T fz)]]) Tryz.results62 (hR:= ?_);exact⟨rfl,rfl⟩)
  ·repeat(first|(refine st ?_;intros)|refine G.draw [] (h:= ?_)|(refine cq hf1 ?_)|(refine cq hf2 ?_))
   exact Dn.round (k+1) ⟨by omega,fun j w hj hw=>by
    by_cases hjk:j=k
    ·subst hjk;rw[hkt] at hw;cases hw;exact he
    ·exact hkn j w (by omega) hw⟩ (by omega)
 ·repeat(first|(refine st ?_;intros)|refine G.draw [] (h:= ?_)|(refine cq hf1 ?_)|(refine cq hf2 ?_))
  refine G.loop (X:=Nat) (fun k=>k≤i) (fun k=>[(4,.int .i64 (k:Int)),(3,.int .i64 (i:Int)),(0,.slice (some ⟨b,off,none⟩) n cap)]) (fun _=>[[(b,rowf cc T fz)]]) (fun k=>i-k) 0 (Nat.zero_le _) (body:= ?_)
  intro k hk
  by_cases hki:k<i
  rotate_left
  ·obtain rfl:k=i:=by omega
   repeat(first|(refine st ?_;intros)|refine G.draw [] (h:= ?_)|(refine cq hf1 ?_)|(refine cq hf2 ?_))
   exact Dn.round (k+1) ⟨by omega,hround fun j u hj hu hh=>absurd hh hc⟩ (by omega)
  have e2:IntKind.wrap .i64 ((k:Int)+1)=((k+1:Nat):Int):=by rw[wrap_i64 (by omega)];omega
  repeat(first|(refine st ?_;intros)|refine G.draw [] (h:= ?_)|(refine cq hf1 ?_)|(refine cq hf2 ?_))
  exact Dn.round (k+1) (by omega) (by omega)
end Go.Proofs.YtjoicjgfgkpdjaaGreat
namespace Go.Proofs.YtjoicjgfgkpdjaaGreat
open Go.SL Go.Spc Go.Tup Go.Srt
theorem cell_at {cs:List Value} {i:Nat} {v:Value} {vs:List Value} (h:(cs.drop i).take 5=v::vs):cs[i]? =some v:=by
 have h2:=congrArg (fun l=>l[0]?) h
 simpa[List.getElem?_take,List.getElem?_drop] using h2
def PutA (l:List T5) (t:T5) (r:List T5):Prop:=∃A B,l=A++B∧r=A++t::B∧(∀u∈B,t.c0<u.c0)∧∀y,A.getLast? =some y→y.c0≤t.c0
theorem PutA.perm {l:List T5} {t:T5} {r:List T5} (h:PutA l t r):r.Perm (t::l):=by
 obtain⟨A,B,rfl,rfl,_⟩:=h
 exact List.perm_middle
theorem PutA.strict {l:List T5} {t:T5} {r:List T5} (h:PutA l t r) (hs:l.Pairwise fun a c=>a.c0<c.c0) (hn:∀u∈l,u.c0≠t.c0):r.Pairwise fun a c=>a.c0<c.c0:=by
 obtain⟨A,B,rfl,rfl,hB,hA⟩:=h
 obtain⟨hsA,hsB,hAB⟩:=List.pairwise_append.1 hs
 have hAt:∀a∈A,a.c0<t.c0:=by
  intro a ha
  rcases List.eq_nil_or_concat A with rfl|⟨A',x,rfl⟩
  ·cases ha
  ·rw[List.concat_eq_append] at*
   have hx:=hA x (by simp)
   have hx2:=hn x (by simp)
   rcases List.mem_append.1 ha with h|h
   ·have h1:=(List.pairwise_append.1 hsA).2.2 a h x (by simp)
    omega
   ·simp only[List.mem_singleton] at h;subst h;omega
 rw[List.pairwise_append,List.pairwise_cons]
 exact⟨hsA,⟨hB,hsB⟩,fun a ha b hb=>by
  rcases List.mem_cons.1 hb with rfl|hb
  ·exact hAt a ha
  ·exact hAB a ha b hb⟩
structure PutZ where
 kz:Int
 A:List T5
 B:List T5
theorem put14ct (p:Option Addr) (m cap:Nat) (l:List T5) (c:Chunk) (hV:Vec 38 5 p m cap (flat l) c) (hm:m≤1000000) (t:T5):
  Ct Tryz.prog 63 [.slice p m cap,tv t] [c] fun v H'=>∃p' cap' c' r,v= .slice p' (m+1) cap'∧H'=[c']∧Vec 38 5 p' (m+1) cap' (flat r) c'∧PutA l t r:=by
 have htv:∀t:T5,tv t= .agg #[.int .i64 t.c0,.int .i64 t.c1,.int .i64 t.c2,.int .i64 t.c3,.int .i64 t.c4]:=fun _=>rfl
 have hl:l.length=m:=by have:=hV.1;rw[flat_len5] at this;omega
 have hmx:m+1≤maxLen:=by simp only[maxLen];omega
 rw[htv]
 refine Ct.intro Tryz.func63 rfl Tryz.ntmps63 (nle rfl) fun w0=> ?_;dsimp only[argSlots,Nat.reduceAdd]
 repeat(first|(refine st ?_;intros)|refine G.draw [] (h:= ?_))
 rename_i b3 b9 p' cap' c' hV'
 have hV2:Vec 38 5 p' (m+1) cap' (flat (l++[t])) c':=by rw[flat_append];exact hV'
 obtain⟨rb,re,rfl,rfl,hre,hce,hcm⟩:=vpos1 hV2 (Nat.succ_pos _)
 clear hV hV'
 rw[flat_len5,List.length_append,List.length_singleton,hl] at hre
 have hw:((m+1:Nat):Int)-1=(m:Int):=by omega
 refine G.loop (X:=PutZ) (fun x=>x.A++x.B=l∧x.kz=(x.A.length:Int)∧∀u∈x.B,t.c0<u.c0)
  (fun x=>[(5,.int .i64 x.kz),(0,.slice (some ⟨rb,0,none⟩) (m+1) cap')])
  (fun x=>[[(rb,row (flat (x.A++t::x.B)++re) 38)]]) (fun x=>x.A.length) ⟨((m+1:Nat):Int)-1,l,[]⟩ ⟨by simp,by dsimp only;omega,by simp⟩ (body:= ?_)
 rintro⟨kz,A,B⟩ ⟨hAB,hkz,hB⟩
 dsimp only at hAB hkz hB⊢
 have hABl:A.length+B.length=m:=by rw[←hl,←hAB,List.length_append]
 have hend:Vec 38 5 (some ⟨rb,0,none⟩) (m+1) cap' (flat (A++t::B)) [(rb,row (flat (A++t::B)++re) 38)]:=
  Vec.mk' rfl (by rw[flat_len5];simp;omega) (by rw[List.length_append,flat_len5];simp;omega) hce hcm
 rcases List.eq_nil_or_concat A with rfl|⟨A',x,rfl⟩
 ·have hk0:kz=0:=by simpa using hkz
  repeat(first|(refine st ?_;intros)|refine G.draw [] (h:= ?_))
  (refine Dn.post (Hr:=[[(rb,row (flat ([]++t::B)++re) 38)]]) Tryz.results63 (hR:= ?_);exact⟨_,cap',_,_,rfl,rfl,hend,[],B,hAB.symm,rfl,hB,by simp⟩)
 ·have hkA:kz=((A'.length+1:Nat):Int):=by simpa using hkz
  have ek:kz.toNat=A'.length+1:=by omega
  have ek1:(kz-1).toNat=A'.length:=by omega
  have hA1:A'.length+1+B.length=m:=by simpa using hABl
  have hform:∀u v:T5,(A'++[u])++v::B=A'++u::v::B:=fun u v=>by simp
  rw[List.concat_eq_append] at*
  rw[hform] at hend⊢
  have c1:=t_cut (A'++[x]) B t re (k:=A'.length+1) (by simp)
  have c2:=t_cut A' (t::B) x re rfl
  have s1:=t_set (A'++[x]) B t x re (k:=A'.length+1) (by simp)
  have s2:=t_set A' (x::B) x t re rfl
  simp only[hform] at c1 s1
  have l1:(A'.length+1)*5+5≤(flat (A'++x::t::B)++re).length:=by rw[List.length_append,flat_len5];simp;omega
  have l2:(A'.length+1)*5+5≤(flat (A'++x::x::B)++re).length:=by rw[List.length_append,flat_len5];simp;omega
  have d1:=cell_at c1
  have d2:=cell_at c2
  by_cases hxt:t.c0<x.c0
  ·
   generalize hr0:flat (A'++x::t::B)++re=r0 at*
   generalize hr1:flat (A'++x::x::B)++re=r1 at*
   repeat(first|(refine st ?_;intros)|refine G.draw [] (h:= ?_))
   refine Dn.round ⟨kz-1,A',x::B⟩ ⟨by rw[←hAB];simp,by dsimp only;omega,fun u hu=> ?_⟩ (by simp)
   rcases List.mem_cons.1 hu with rfl|hu
   ·exact hxt
   ·exact hB u hu
  ·
   generalize hr0:flat (A'++x::t::B)++re=r0 at*
   repeat(first|(refine st ?_;intros)|refine G.draw [] (h:= ?_))
   (refine Dn.post (Hr:=[[(rb,row r0 38)]]) Tryz.results63 (hR:= ?_);exact⟨_,cap',_,A'++x::t::B,rfl,rfl,hend,A'++[x],B,hAB.symm,by simp,hB,fun y hy=>by simp at hy;subst hy;omega⟩)
theorem paT_one {l:List T5} (h:OkL l) {a b:Int} (he:paT l a=paT l b) (hn:paT l a≠-1):a=b:=by
 have ha:aheadT l a≠none:=fun hc=>hn ((paT_pos h.toPreL).2 hc)
 have hb:aheadT l b≠none:=fun hc=>hn (he.trans ((paT_pos h.toPreL).2 hc))
 cases h1:aheadT l a with
 |none=>exact absurd h1 ha
 |some t=>
  cases h2:aheadT l b with
  |none=>exact absurd h2 hb
  |some u=>
   have e1:paT l a=t.c0:=by unfold paT;rw[h1]
   have e2:paT l b=u.c0:=by unfold paT;rw[h2]
   obtain⟨ht,hta,_⟩:=aheadT_of h1
   obtain⟨hu,hub,_⟩:=aheadT_of h2
   have:=uniq_of h.nd ht hu (by rw[←e1,he,e2])
   rw[←hta,←hub,this]
theorem itA_one {l:List T5} (h:OkL l):∀(m:Nat) {a b:Int},itA (paT l) m a=itA (paT l) m b→itA (paT l) m a≠-1→a=b
 |0,_,_,he,_=>he
 |m+1,a,b,he,hn=>by
  have h1:=itA_one h m (a:=paT l a) (b:=paT l b) he hn
  refine paT_one h h1 fun hc=>hn ?_
  show itA (paT l) m (paT l a)= -1
  rw[hc]
  exact itA_end (paT_end l) m
theorem depth_eq {l:List T5} {x:Int} {m m':Nat} (h1:itA (paT l) m x≠-1) (h2:itA (paT l) (m+1) x= -1) (h3:itA (paT l) m' x≠-1) (h4:itA (paT l) (m'+1) x= -1):m=m':=by
 have key:∀{a b:Nat},itA (paT l) a x= -1→a≤b→itA (paT l) b x= -1:=by
  intro a b ha hab
  rw[show b=a+(b-a) by omega,itA_add,ha]
  exact itA_end (paT_end l) _
 rcases Nat.lt_trichotomy m m' with h|h|h
 ·exact absurd (key h2 (by omega)) h3
 ·exact h
 ·exact absurd (key h4 (by omega)) h1
theorem depth_lt {l:List T5} {x:Int} (hx:∃u∈l,u.c0=x) {m:Nat} (h1:itA (paT l) m x≠-1) (h2:itA (paT l) (m+1) x= -1):m<l.length:=by
 obtain⟨j,hj,he⟩:=ends_len (.inr hx) h2
 by_cases hjm:j≤m
 ·exfalso
  apply h1
  rw[show m=j+(m-j) by omega,itA_add,he]
  exact itA_end (paT_end l) _
 ·omega
theorem has_first {l:List T5}:∀{k:Nat} {x:Int},x≠-1→itA (paT l) k x= -1→∃m,itA (paT l) m x≠-1∧itA (paT l) (m+1) x= -1
 |0,x,hx,hk=>absurd hk hx
 |k+1,x,hx,hk=>by
  by_cases hp:paT l x= -1
  ·exact⟨0,hx,hp⟩
  ·obtain⟨m,h1,h2⟩:=has_first (k:=k) (x:=paT l x) hp hk
   exact⟨m+1,h1,h2⟩
theorem pa_next {l:List T5} (h:OkL l) {t:T5} (ht:t∈l) (hn:t.c1≠-1):paT l t.c1=t.c0:=by
 unfold paT
 rw[aheadT_some h.toPreL ht hn]
theorem pa_last {l:List T5} (h:OkL l) {t:T5} (ht:t∈l) (hn:t.c1= -1) (x:Int):paT l x≠t.c0:=by
 intro he
 have h0:=(h.el t ht).1
 cases ha:aheadT l x with
 |none=>
  have:=(paT_pos h.toPreL (x:=x)).2 ha
  omega
 |some u=>
  obtain⟨hu,hux,hxn⟩:=aheadT_of ha
  have e1:paT l x=u.c0:=by unfold paT;rw[ha]
  have:=uniq_of h.nd hu ht (by rw[←e1,he])
  subst this
  exact hxn (hux.symm.trans hn)
theorem fIdx_get {ts:List T5} {x:Int} (h:0≤fIdx ts x):∃(i:Nat) (u:T5),fIdx ts x=(i:Int)∧ts[i]? =some u∧u.c0=x:=by
 unfold fIdx at h⊢
 cases hf:ts.findIdx? fun t=>decide (t.c0=x) with
 |none=>rw[hf] at h;exact absurd h (by decide)
 |some i=>
  rw[List.findIdx?_eq_some_iff_getElem] at hf
  obtain⟨hi,h1,_⟩:=hf
  exact⟨i,ts[i],rfl,List.getElem?_eq_getElem hi,by simpa using h1⟩
theorem fIdx_m1 {ts:List T5} (h:OkL ts):fIdx ts (-1)= -1:=fIdx_none fun t ht he=>by
 have:=(h.el t ht).1
 omega
def Told (ts:List T5) (i m:Nat) (x:Int):Prop:=(∃u∈ts,u.c0=x)∧∃(j:Nat) (u:T5) (d:Nat),ts[j]? =some u∧aheadT ts u.c0=none∧itA (paT ts) d x=u.c0∧(j<i∨(j=i∧d<m))
structure ToldR (ts:List T5) (i m:Nat) (r:List T5):Prop where
 sr:r.Pairwise fun a c=>a.c0<c.c0
 is:∀z∈r,Told ts i m z.c0∧z=⟨z.c0,rkV ts z.c0,0,0,0⟩
 all:∀x,Told ts i m x→∃z∈r,z.c0=x
theorem ToldR.nil (ts:List T5):ToldR ts 0 0 [] where
 sr:= .nil
 is:=by simp
 all:=by
  rintro x ⟨_,j,u,d,_,_,_,h|⟨_,h⟩⟩
  ·exact absurd h (Nat.not_lt_zero _)
  ·exact absurd h (Nat.not_lt_zero _)
theorem ToldR.iff {ts r:List T5} {i m i' m':Nat} (h:ToldR ts i m r) (he:∀x,Told ts i m x↔Told ts i' m' x):ToldR ts i' m' r:=
 ⟨h.sr,fun z hz=>⟨(he _).1 (h.is z hz).1,(h.is z hz).2⟩,fun x hx=>h.all x ((he x).2 hx)⟩
theorem first_end {ts:List T5} {x:Int} (h:aheadT ts x=none):paT ts x= -1:=by unfold paT;rw[h]
theorem told_one {ts:List T5} (h:OkL ts) {x:Int} {j j' d d':Nat} {u u':T5} (h1:ts[j]? =some u) (h2:aheadT ts u.c0=none) (h3:itA (paT ts) d x=u.c0) (h4:ts[j']? =some u') (h5:aheadT ts u'.c0=none) (h6:itA (paT ts) d' x=u'.c0):j=j'∧d=d':=by
 have hu:=List.mem_of_getElem? h1
 have hu':=List.mem_of_getElem? h4
 have p1:=(h.el u hu).1
 have p2:=(h.el u' hu').1
 have e1:itA (paT ts) (d+1) x= -1:=by rw[itA_succ,h3];exact first_end h2
 have e2:itA (paT ts) (d'+1) x= -1:=by rw[itA_succ,h6];exact first_end h5
 have hd:=depth_eq (m:=d) (m':=d') (x:=x) (by omega) e1 (by omega) e2
 subst hd
 refine⟨?_,rfl⟩
 have huu:u=u':=uniq_of h.nd hu hu' (by rw[←h3,←h6])
 subst huu
 obtain⟨i1,g1⟩:=List.getElem?_eq_some_iff.1 h1
 obtain⟨i2,g2⟩:=List.getElem?_eq_some_iff.1 h4
 rcases Nat.lt_trichotomy j j' with hlt|he|hlt
 ·have:=List.pairwise_iff_getElem.1 h.nd j j' i1 i2 hlt
  rw[g1,g2] at this;exact absurd rfl this
 ·exact he
 ·have:=List.pairwise_iff_getElem.1 h.nd j' j i2 i1 hlt
  rw[g1,g2] at this;exact absurd rfl this
theorem ToldR.put {ts r r':List T5} {i m:Nat} {u t:T5} (h:OkL ts) (hR:ToldR ts i m r) (hu:ts[i]? =some u) (hf:aheadT ts u.c0=none) (ht:t∈ts) (hd:itA (paT ts) m t.c0=u.c0) (hp:PutA r ⟨t.c0,rkV ts t.c0,0,0,0⟩ r'):ToldR ts i (m+1) r':=by
 have hstep:∀x,Told ts i (m+1) x↔Told ts i m x∨x=t.c0:=by
  intro x
  have hup:=(h.el u (List.mem_of_getElem? hu)).1
  constructor
  ·rintro⟨hx,j,v,d,h1,h2,h3,h4⟩
   by_cases hjd:j=i∧d=m
   ·right
    obtain⟨rfl,rfl⟩:=hjd
    rw[hu] at h1;cases h1
    exact itA_one h d (h3.trans hd.symm) (by omega)
   ·left
    exact⟨hx,j,v,d,h1,h2,h3,by omega⟩
  ·rintro(⟨hx,j,v,d,h1,h2,h3,h4⟩|rfl)
   ·exact⟨hx,j,v,d,h1,h2,h3,by omega⟩
   ·exact⟨⟨t,ht,rfl⟩,i,u,m,hu,hf,hd,by omega⟩
 have hnot:¬Told ts i m t.c0:=by
  rintro⟨_,j,v,d,h1,h2,h3,h4⟩
  obtain⟨rfl,rfl⟩:=told_one h h1 h2 h3 hu hf hd
  omega
 have hpm:=hp.perm
 refine⟨hp.strict hR.sr fun z hz he=> ?_,fun z hz=> ?_,fun x hx=> ?_⟩
 ·have he:z.c0=t.c0:=he
  exact hnot (he▸(hR.is z hz).1)
 ·rcases List.mem_cons.1 (hpm.mem_iff.1 hz) with rfl|hz
  ·exact⟨(hstep _).2 (.inr rfl),rfl⟩
  ·exact⟨(hstep _).2 (.inl (hR.is z hz).1),(hR.is z hz).2⟩
 ·rcases(hstep x).1 hx with h1|rfl
  ·obtain⟨z,hz,he⟩:=hR.all x h1
   exact⟨z,hpm.mem_iff.2 (List.mem_cons_of_mem _ hz),he⟩
  ·exact⟨_,hpm.mem_iff.2 List.mem_cons_self,rfl⟩
theorem ToldR.last {ts r:List T5} {i m:Nat} {u t:T5} (h:OkL ts) (hR:ToldR ts i (m+1) r) (hu:ts[i]? =some u) (hf:aheadT ts u.c0=none) (ht:t∈ts) (hd:itA (paT ts) m t.c0=u.c0) (hn:t.c1= -1):ToldR ts (i+1) 0 r:=by
 refine hR.iff fun x=>⟨?_,?_⟩
 ·rintro⟨hx,j,v,d,h1,h2,h3,h4⟩
  exact⟨hx,j,v,d,h1,h2,h3,by omega⟩
 ·rintro⟨hx,j,v,d,h1,h2,h3,h4⟩
  refine⟨hx,j,v,d,h1,h2,h3,?_⟩
  by_cases hj:j<i
  ·exact .inl hj
  obtain rfl:j=i:=by omega
  rw[hu] at h1;cases h1
  refine .inr ⟨rfl,?_⟩
  by_cases hdm:d<m+1
  ·exact hdm
  exfalso
  have hup:=(h.el u (List.mem_of_getElem? hu)).1
  have e1:itA (paT ts) m (itA (paT ts) (d-m) x)=u.c0:=by rw[←itA_add,show d-m+m=d by omega];exact h3
  have e2:=itA_one h m (e1.trans hd.symm) (by omega)
  rw[show d-m=(d-m-1)+1 by omega,itA_succ] at e2
  exact pa_last h ht hn _ e2
theorem ToldR.skip {ts r:List T5} {i:Nat} {u:T5} (hR:ToldR ts i 0 r) (hu:ts[i]? =some u) (hf:aheadT ts u.c0≠none):ToldR ts (i+1) 0 r:=by
 refine hR.iff fun x=>⟨?_,?_⟩
 ·rintro⟨hx,j,v,d,h1,h2,h3,h4⟩
  exact⟨hx,j,v,d,h1,h2,h3,by omega⟩
 ·rintro⟨hx,j,v,d,h1,h2,h3,h4⟩
  refine⟨hx,j,v,d,h1,h2,h3,?_⟩
  by_cases hj:j<i
  ·exact .inl hj
  ·obtain rfl:j=i:=by omega
   rw[hu] at h1;cases h1
   exact absurd h2 hf
theorem rk_after {l:List T5} (h:OkL l) (hok:∀t∈l,okT 3 t) {t u:T5} (ht:t∈l) (hn:t.c1≠-1) {m:Nat} (hf:aheadT l u.c0=none) (hd:itA (paT l) m t.c0=u.c0):rkV l t.c1=IntKind.wrap .i64 (rkV l t.c0+t.c2):=by
 have hend1:itA (paT l) (m+2) t.c1= -1:=by
  show itA (paT l) (m+1) (paT l t.c1)= -1
  rw[pa_next h ht hn,itA_succ,hd]
  exact first_end hf
 unfold rkV
 obtain⟨v,hv,hvx⟩:=h.im t ht hn
 have hb:=bits_gt l.length
 generalize 2^bits l.length=N at*
 have ha:=aheadT_some h.toPreL ht hn
 have hp:paT l t.c1=t.c0:=by unfold paT;rw[ha]
 have hw:waT l t.c1=t.c2:=by unfold waT;rw[ha]
 have hend:itA (paT l) N t.c1= -1:=ends_it (.inr ⟨v,hv,hvx⟩) hend1 (Nat.le_of_lt hb)
 have h1:smA (paT l) (waT l) (N+1) t.c1=smA (paT l) (waT l) N t.c1:=by
  rw[smA_add,hend,smA_end (paT_end l) (waT_end l),Int.add_zero]
 have h2:smA (paT l) (waT l) (N+1) t.c1=t.c2+smA (paT l) (waT l) N t.c0:=by
  show waT l t.c1+smA (paT l) (waT l) N (paT l t.c1)=_
  rw[hp,hw]
 rw[←h1,h2,Int.add_comm]
 have hc:=(okT_cols (hok t ht)).2.2.1
 have h3:=wrap_sum (smA (paT l) (waT l) N t.c0) t.c2
 rw[wrap_i64 hc] at h3
 exact h3.symm
theorem ToldR.done {ts r:List T5} (h:OkL ts) (hok:∀t∈ts,okT 3 t) (hR:ToldR ts ts.length 0 r):(Ends ts→r=ranksF ts)∧(¬Ends ts→r.length<ts.length):=by
 have hsub:r.map (·.c0)⊆ts.map (·.c0):=fun x hx=>by
  obtain⟨z,hz,rfl⟩:=List.mem_map.1 hx
  obtain⟨⟨⟨u,hu,he⟩,_⟩,_⟩:=hR.is z hz
  exact List.mem_map.2 ⟨u,hu,he⟩
 have hnd:(r.map (·.c0)).Nodup:=List.pairwise_map.2 (hR.sr.imp fun {x y} hh=>by omega)
 have htold:∀t∈ts,(∃k,itA (paT ts) k t.c0= -1)→Told ts ts.length 0 t.c0:=by
  rintro t ht ⟨k,hk⟩
  have hp:=(h.el t ht).1
  obtain⟨m,h1,h2⟩:=has_first (l:=ts) (x:=t.c0) (k:=k) (by omega) hk
  rcases itA_in (l:=ts) m (x:=t.c0) (.inr ⟨t,ht,rfl⟩) with h3|⟨u,hu,h3⟩
  ·exact absurd h3 h1
  obtain⟨j,hj,rfl⟩:=List.mem_iff_getElem.1 hu
  refine⟨⟨t,ht,rfl⟩,j,_,m,List.getElem?_eq_getElem hj,?_,h3.symm,.inl hj⟩
  rw[itA_succ,←h3] at h2
  exact(paT_pos h.toPreL).1 h2
 constructor
 ·intro hE
  rw[ranksF_is h hok]
  have hz:r=r.map fun z=>(⟨z.c0,rkV ts z.c0,0,0,0⟩:T5):=by
   refine(List.map_id r).symm.trans (List.map_congr_left fun z hz=> ?_)
   exact(hR.is z hz).2
  have hc:r.map (·.c0)=(allF ts).map (·.c0):=by
   have h1:(r.map (·.c0)).Perm ((allF ts).map (·.c0)):=by
    have h2:(r.map (·.c0)).Perm (ts.map (·.c0)):=by
     have h3:ts.map (·.c0)⊆r.map (·.c0):=fun x hx=>by
      obtain⟨t,ht,rfl⟩:=List.mem_map.1 hx
      obtain⟨z,hz,he⟩:=hR.all _ (htold t ht (hE t ht))
      exact List.mem_map.2 ⟨z,hz,he⟩
     have hn2:(ts.map (·.c0)).Nodup:=List.pairwise_map.2 h.nd
     rw[List.perm_iff_count]
     intro x
     have k1:=List.nodup_iff_count.1 hnd x
     have k2:=List.nodup_iff_count.1 hn2 x
     by_cases hx:x∈r.map (·.c0)
     ·have h4:=List.count_pos_iff.2 hx
      have h5:=List.count_pos_iff.2 (hsub hx)
      omega
     ·have h4:=List.count_eq_zero.2 hx
      have h5:=List.count_eq_zero.2 fun hy=>hx (h3 hy)
      omega
    refine h2.trans ?_
    unfold allF
    refine List.Perm.trans ?_ ((perm_srt _).map _).symm
    rw[List.map_map]
    exact .refl _
   refine h1.eq_of_pairwise (le:=(·<·)) (fun x y _ _ h1 h2=>absurd h1 (by omega)) (List.pairwise_map.2 hR.sr) (List.pairwise_map.2 h.toPreL.all)
  rw[hz]
  have:=congrArg (List.map fun x:Int=>(⟨x,rkV ts x,0,0,0⟩:T5)) hc
  rw[List.map_map,List.map_map] at this
  exact this
 ·intro hE
  have hex:∃t∈ts,¬∃k,itA (paT ts) k t.c0= -1:=Classical.byContradiction fun hc=>hE fun t ht=>Classical.byContradiction fun hk=>hc ⟨t,ht,hk⟩
  obtain⟨t,ht,hk⟩:=hex
  have hno:t.c0∉r.map (·.c0):=fun hx=>by
   obtain⟨z,hz,he⟩:=List.mem_map.1 hx
   obtain⟨⟨_,j,u,d,h1,h2,h3,_⟩,_⟩:=hR.is z hz
   have he:z.c0=t.c0:=he
   exact hk ⟨d+1,by rw[←he,itA_succ,h3];exact first_end h2⟩
  have h1:=(List.nodup_cons.2 ⟨hno,hnd⟩).length_le_of_subset (l₂:=ts.map (·.c0)) (fun x hx=>by
   rcases List.mem_cons.1 hx with rfl|hx
   ·exact List.mem_map.2 ⟨t,ht,rfl⟩
   ·exact hsub hx)
  simp only[List.length_cons,List.length_map] at h1
  omega
theorem ToldR.len {ts r:List T5} {i m:Nat} (hR:ToldR ts i m r):r.length≤ts.length:=by
 have hsub:r.map (·.c0)⊆ts.map (·.c0):=fun x hx=>by
  obtain⟨z,hz,rfl⟩:=List.mem_map.1 hx
  obtain⟨⟨⟨u,hu,he⟩,_⟩,_⟩:=hR.is z hz
  exact List.mem_map.2 ⟨u,hu,he⟩
 have hnd:(r.map (·.c0)).Nodup:=List.pairwise_map.2 (hR.sr.imp fun {x y} hh=>by omega)
 simpa using hnd.length_le_of_subset hsub
theorem ahead_none_iff {ts:List T5} {x:Int} (hx:x≠-1):aheadT ts x=none↔∀(j:Nat) (u:T5),ts[j]? =some u→u.c1≠x:=by
 constructor
 ·intro h j u hu
  exact aheadT_none hx h u (List.mem_of_getElem? hu)
 ·intro h
  unfold aheadT
  rw[if_neg hx,List.find?_eq_none]
  intro t ht hd
  obtain⟨j,hj⟩:=List.mem_iff_getElem?.1 ht
  exact h j t hj (by simpa using hd)
structure R14 where
 i:Nat
 p:Option Addr
 cap:Nat
 ch:Chunk
 r:List T5
structure R14s where
 kz:Int
 m:Nat
 sm:Int
 p:Option Addr
 cap:Nat
 ch:Chunk
 r:List T5
theorem Ranks14no (p0:Option Addr) (n cap0:Nat) (ts:List T5) (c:Chunk) (hv:RV p0 n ts c) (hn:n≤100000) (hL:¬OkL ts):
  CtQ Tryz.prog 33 [.slice p0 n cap0] [c] (.tuple #[.slice none 0 0,.bool false]):=by
 have hLi:=lists14ct p0 n cap0 ts c hv (by omega)
 rw[okB_false hL] at hLi
 refine Ct.intro Tryz.func33 rfl Tryz.ntmps33 (nle rfl) fun w0=> ?_;dsimp only[argSlots,Nat.reduceAdd]
 repeat(first|(refine st ?_;intros)|refine G.draw [] (h:= ?_)|(refine cq hLi ?_))
 (refine Dn.post (Hr:=[c]) Tryz.results33 (hR:= ?_);exact⟨rfl,rfl⟩)
theorem Ranks14ct (p0:Option Addr) (n cap0:Nat) (ts:List T5) (c:Chunk) (hv:RV p0 n ts c) (hn:n≤100000) (hok:∀t∈ts,okT 3 t) (hL:OkL ts):
  Ct Tryz.prog 33 [.slice p0 n cap0] [c] fun v H'=>∃p cap ch r b,v= .tuple #[.slice p r.length cap,.bool b]∧H'=[c,ch]∧Vec 38 5 p r.length cap (flat r) ch∧(b=true↔Ends ts)∧(Ends ts→r=ranksF ts):=by
 have hl:=hv.1
 have hLi:=lists14ct p0 n cap0 ts c hv (by omega)
 rw[okB_true hL] at hLi
 refine Ct.intro Tryz.func33 rfl Tryz.ntmps33 (nle rfl) fun w0=> ?_;dsimp only[argSlots,Nat.reduceAdd]
 repeat(first|(refine st ?_;intros)|refine G.draw [] (h:= ?_)|(refine cq hLi ?_)|(refine cq hF ?_))
 refine G.loop (X:=R14) (fun x=>x.i≤n∧ToldR ts x.i 0 x.r∧Vec 38 5 x.p x.r.length x.cap (flat x.r) x.ch) (fun x=>[(5,.int .i64 (x.i:Int)),(4,.slice x.p x.r.length x.cap),(0,.slice p0 n cap0)]) (fun x=>[c,x.ch]) (fun x=>n-x.i) ⟨0,none,0,[],[]⟩ ⟨Nat.zero_le _,ToldR.nil ts,Vec.nil _ _⟩ (by repeat(first|exact trivial|refine⟨rfl,?_⟩)) (by repeat(first|exact Split.nil|(apply Split.cons;·(first|exact Take.nil|(repeat(first|exact Take.here|apply Take.there)))))) ?_
 rintro⟨i,p,cap,ch,r⟩ ⟨hi,hR,hV⟩
 dsimp only at hi hR hV⊢
 by_cases hlt:i<n
 rotate_left
 ·obtain rfl:i=n:=by omega
  rw[←hl] at hR
  obtain⟨h1,h2⟩:=hR.done hL hok
  have hbe:dec ((r.length:Int)=(i:Int))=true↔Ends ts:=by
   rw[dec_iff]
   constructor
   ·intro h
    refine Classical.byContradiction fun hE=> ?_
    have:=h2 hE
    omega
   ·intro hE
    rw[h1 hE,ranksF_len,hl]
  generalize hbb:dec ((r.length:Int)=(i:Int))=bb at*
  repeat(first|(refine st ?_;intros)|refine G.draw [] (h:= ?_)|(refine cq hLi ?_)|(refine cq hF ?_))
  rw[hbb]
  (refine Dn.post (Hr:=[c,ch]) Tryz.results33 (hR:= ?_);exact⟨p,cap,ch,r,bb,rfl,rfl,hV,hbe,h1⟩)
 obtain⟨b,off,cc,T,fz,rfl,rfl,hcut,hget⟩:=(RV.rw hv).pos tcells_len (by omega)
 have hiu:ts[i]? =some ts[i]:=List.getElem?_eq_getElem (by omega)
 have q0:=hget i 0 _ (.int .i64 (ts[i]).c0) hiu rfl
 rw[Nat.add_zero] at q0
 have e1:IntKind.wrap .i64 ((i:Int)+1)=((i+1:Nat):Int):=by rw[wrap_i64 (by omega)];omega
 have hui:=List.mem_of_getElem? hiu
 have hu0:=(hL.el _ hui).1
 generalize ts[i]=u at*
 have hFi:=fun x=>find14ct (some ⟨b,off,none⟩) n cap0 ts [(b,rowf cc T fz)] hv (by omega) x
 repeat(first|(refine st ?_;intros)|refine G.draw [] (h:= ?_)|(refine cq hLi ?_)|(refine cq hF ?_))
 refine G.loop (X:=Nat×Bool) (fun x=>x.1≤n∧(x.2=true↔∀j w,j<x.1→ts[j]? =some w→w.c1≠u.c0)) (fun x=>[(7,.int .i64 (x.1:Int)),(6,.bool x.2),(5,.int .i64 (i:Int)),(4,.slice p r.length cap),(0,.slice (some ⟨b,off,none⟩) n cap0)]) (fun _=>[[(b,rowf cc T fz)],ch]) (fun x=>n-x.1) (0,true) ⟨Nat.zero_le _,by simp⟩ (body:= ?_)
 rintro⟨k,fb⟩ ⟨hk,hfb⟩
 dsimp only at hk hfb⊢
 by_cases hkn:k<n
 ·have hkt:ts[k]? =some ts[k]:=List.getElem?_eq_getElem (by omega)
  have q1:=hget k 1 _ (.int .i64 (ts[k]).c1) hkt rfl
  have e2:IntKind.wrap .i64 ((k:Int)+1)=((k+1:Nat):Int):=by rw[wrap_i64 (by omega)];omega
  generalize ts[k]=w at*
  have hnx:∀b':Bool,(b'=true↔fb=true∧w.c1≠u.c0)→(b'=true↔∀j w,j<k+1→ts[j]? =some w→w.c1≠u.c0):=by
   intro b' hb'
   rw[hb',hfb]
   constructor
   ·rintro⟨h1,h2⟩ j v hj hv
    by_cases hjk:j=k
    ·subst hjk;rw[hkt] at hv;cases hv;exact h2
    ·exact h1 j v (by omega) hv
   ·intro h
    exact⟨fun j v hj hv=>h j v (by omega) hv,h k w (by omega) hkt⟩
  cases fb with
  |true=>
   repeat(first|(refine st ?_;intros)|refine G.draw [] (h:= ?_)|(refine cq hLi ?_)|(refine cq hF ?_))
   exact Dn.round (k+1,dec (w.c1≠u.c0)) ⟨hkn,hnx _ (by rw[dec_iff];simp)⟩ (by dsimp only;omega)
  |false=>
   repeat(first|(refine st ?_;intros)|refine G.draw [] (h:= ?_)|(refine cq hLi ?_)|(refine cq hF ?_))
   exact Dn.round (k+1,false) ⟨hkn,hnx _ (by simp)⟩ (by dsimp only;omega)
 obtain rfl:k=n:=by omega
 have hfi:fb=true↔aheadT ts u.c0=none:=by
  rw[hfb,ahead_none_iff (by omega)]
  constructor
  ·intro h j w hw
   exact h j w (by have:=(List.getElem?_eq_some_iff.1 hw).1;omega) hw
  ·intro h j w _ hw
   exact h j w hw
 clear hfb hkn
 cases fb with
 |false=>
  have hR2:ToldR ts (i+1) 0 r:=hR.skip hiu fun h=>by have:=hfi.2 h;cases this
  repeat(first|(refine st ?_;intros)|refine G.draw [] (h:= ?_)|(refine cq hLi ?_)|(refine cq hF ?_))
  refine G.loop (X:=Unit) (fun _=>True) (fun _=>[(6,.bool false),(5,.int .i64 (i:Int)),(4,.slice p r.length cap),(0,.slice (some ⟨b,off,none⟩) k cap0)]) (fun _=>[[(b,rowf cc T fz)],ch]) (fun _=>0) () trivial (body:= ?_)
  rintro⟨⟩ _
  repeat(first|(refine st ?_;intros)|refine G.draw [] (h:= ?_)|(refine cq hLi ?_)|(refine cq hF ?_))
  exact Dn.round ⟨i+1,p,cap,ch,r⟩ ⟨hlt,hR2,hV⟩ (by dsimp only;omega)
 |true=>
 have hfst:=hfi.1 rfl
 repeat(first|(refine st ?_;intros)|refine G.draw [] (h:= ?_)|(refine cq hLi ?_)|(refine cq hF ?_))
 refine G.loop (X:=R14s) (fun x=>((∃(a:Nat) (t:T5),x.kz=(a:Int)∧ts[a]? =some t∧itA (paT ts) x.m t.c0=u.c0∧x.sm=rkV ts t.c0∧ToldR ts i x.m x.r)∨(x.kz= -1∧ToldR ts (i+1) 0 x.r))∧x.m≤k∧Vec 38 5 x.p x.r.length x.cap (flat x.r) x.ch)
  (fun x=>[(10,.int .i64 (x.m:Int)),(9,.int .i64 x.kz),(8,.int .i64 x.sm),(6,.bool true),(5,.int .i64 (i:Int)),(4,.slice x.p x.r.length x.cap),(0,.slice (some ⟨b,off,none⟩) k cap0)]) (fun x=>[[(b,rowf cc T fz)],x.ch]) (fun x=>if x.kz<0 then 0 else k+1-x.m) ⟨(i:Int),0,0,p,cap,ch,r⟩
  ⟨.inl ⟨i,u,rfl,hiu,rfl,(rk_first hfst).symm,hR⟩,Nat.zero_le _,hV⟩ (body:= ?_)
 rintro⟨kz,m,sm,p1,cap1,ch1,r1⟩ ⟨hcase,hm,hV1⟩
 dsimp only at hcase hm hV1⊢
 rcases hcase with⟨a,t,rfl,hat,hit,rfl,hR1⟩|⟨rfl,hR1⟩
 rotate_left
 ·repeat(first|(refine st ?_;intros)|refine G.draw [] (h:= ?_)|(refine cq hLi ?_)|(refine cq hF ?_))
  exact Dn.round ⟨i+1,p1,cap1,ch1,r1⟩ ⟨hlt,hR1,hV1⟩ (by dsimp only;omega)
 have hal:a<k:=by have:=(List.getElem?_eq_some_iff.1 hat).1;omega
 have hti:=List.mem_of_getElem? hat
 have a0:=hget a 0 _ (.int .i64 t.c0) hat rfl
 have a1:=hget a 1 _ (.int .i64 t.c1) hat rfl
 have a2:=hget a 2 _ (.int .i64 t.c2) hat rfl
 rw[Nat.add_zero] at a0
 have hmk:m<k:=by
  have:=depth_lt (l:=ts) (x:=t.c0) ⟨t,hti,rfl⟩ (m:=m) (by omega) (by rw[itA_succ,hit];exact first_end hfst)
  omega
 have e2:IntKind.wrap .i64 ((m:Int)+1)=((m+1:Nat):Int):=by rw[wrap_i64 (by omega)];omega
 have hP:=put14ct p1 r1.length cap1 r1 ch1 hV1 (by have:=hR1.len;omega) ⟨t.c0,rkV ts t.c0,0,0,0⟩
 rw[show tv ⟨t.c0,rkV ts t.c0,0,0,0⟩= .agg #[.int .i64 t.c0,.int .i64 (rkV ts t.c0),.int .i64 0,.int .i64 0,.int .i64 0] from rfl] at hP
 obtain⟨sm',hsm'⟩:∃sm',IntKind.wrap .i64 (rkV ts t.c0+t.c2)=sm':=⟨_,rfl⟩
 repeat(first|(refine st ?_;intros)|refine G.draw [] (h:= ?_)|(refine cq hLi ?_)|(refine cq hF ?_))
 refine R.call (hct:=hP) (h:= ?_)
 rintro _ _ ⟨p2,cap2,ch2,r2,rfl,rfl,hV2,hPA⟩
 try dsimp only[List.cons_append,List.nil_append]
 have hR2:=hR1.put hL hiu hfst hti hit hPA
 have hlen2:r1.length+1=r2.length:=by rw[hPA.perm.length_eq];rfl
 rw[hlen2] at hV2⊢
 have hF:=hFi t.c1
 by_cases hn1:t.c1= -1
 ·have hR3:=hR2.last hL hiu hfst hti hit hn1
  rw[hn1,fIdx_m1 hL] at hF
  rw[hn1] at a1
  repeat(first|(refine st ?_;intros)|refine G.draw [] (h:= ?_)|(refine cq hLi ?_)|(refine cq hF ?_))
  exact Dn.round ⟨-1,m+1,sm',p2,cap2,ch2,r2⟩ ⟨.inr ⟨rfl,hR3⟩,hmk,hV2⟩ (by dsimp only;rw[if_pos (by omega),if_neg (by omega)];omega)
 ·obtain⟨v,hv1,hvx⟩:=hL.im t hti hn1
  obtain⟨a',t',hfa,hat',htx⟩:=fIdx_get (fIdx_iff.2 ⟨v,hv1,hvx⟩)
  have hrk:=rk_after hL hok hti hn1 hfst hit
  have hnx:itA (paT ts) (m+1) t'.c0=u.c0:=by
   show itA (paT ts) m (paT ts t'.c0)=u.c0
   rw[htx,pa_next hL hti hn1];exact hit
  rw[hfa] at hF
  repeat(first|(refine st ?_;intros)|refine G.draw [] (h:= ?_)|(refine cq hLi ?_)|(refine cq hF ?_))
  exact Dn.round ⟨(a':Int),m+1,sm',p2,cap2,ch2,r2⟩ ⟨.inl ⟨a',t',rfl,hat',hnx,by rw[htx,hrk,hsm'],hR2⟩,hmk,hV2⟩ (by dsimp only;rw[if_neg (by omega),if_neg (by omega)];omega)
def acells (l:List Int):List Value:=l.map (Value.int .i64)
theorem acells_get {l:List Int} {i:Nat} {x:Int} (h:l[i]? =some x):(acells l)[i]? =some (.int .i64 x):=by unfold acells;rw[List.getElem?_map,h];rfl
theorem acells_set (l:List Int) (i:Nat) (x:Int):(acells l).set i (.int .i64 x)=acells (l.set i x):=by unfold acells;rw[List.map_set]
theorem acells_len (l:List Int):(acells l).length=l.length:=by simp[acells]
structure AtOk (got:List T5) (i:Nat) (A:List Int):Prop where
 len:A.length=300
 at_:∀k t,k<i→got[k]? =some t→A[t.c0.toNat]? =some t.c1
theorem AtOk.zero (got:List T5):AtOk got 0 (List.replicate 300 0):=⟨List.length_replicate,fun k t h=>absurd h (Nat.not_lt_zero _)⟩
theorem AtOk.put {got:List T5} {i:Nat} {A:List Int} (h:AtOk got i A) (hs:got.Pairwise fun a c=>a.c0<c.c0) (hp:∀t∈got,0≤t.c0∧t.c0<300) {t:T5} (ht:got[i]? =some t):AtOk got (i+1) (A.set t.c0.toNat t.c1):=by
 refine⟨by rw[List.length_set];exact h.len,fun k u hk hu=> ?_⟩
 have h1:=hp t (List.mem_of_getElem? ht)
 have h2:=hp u (List.mem_of_getElem? hu)
 by_cases hki:k=i
 ·subst hki
  rw[ht] at hu;cases hu
  rw[List.getElem?_set_self (by rw[h.len];omega)]
 ·obtain⟨i1,rfl⟩:=List.getElem?_eq_some_iff.1 hu
  obtain⟨i2,rfl⟩:=List.getElem?_eq_some_iff.1 ht
  have h3:=List.pairwise_iff_getElem.1 hs k i i1 i2 (by omega)
  rw[List.getElem?_set_ne (by omega)]
  exact h.at_ k _ (by omega) (List.getElem?_eq_getElem i1)
theorem AtOk.all {got:List T5} {A:List Int} (h:AtOk got got.length A) {t:T5} (ht:t∈got):A[t.c0.toNat]? =some t.c1:=by
 obtain⟨k,hk,rfl⟩:=List.mem_iff_getElem.1 ht
 exact h.at_ k _ hk (List.getElem?_eq_getElem hk)
theorem ranks_rise {l:List T5} (h:OkL l) (hok:∀t∈l,okT 3 t):(ranksF l).Pairwise fun a c=>a.c0<c.c0:=by
 rw[ranksF_is h hok,List.pairwise_map]
 exact h.toPreL.all.imp fun hh=>hh
theorem ranks_has {l:List T5} (h:OkL l) (hok:∀t∈l,okT 3 t) {t:T5} (ht:t∈l):(⟨t.c0,rkV l t.c0,0,0,0⟩:T5)∈ranksF l:=by
 rw[ranksF_is h hok]
 exact List.mem_map.2 ⟨⟨t.c0,0,0,0,0⟩,allF_mem.2 ⟨t,ht,rfl⟩,rfl⟩
theorem ranks_of {l:List T5} (h:OkL l) (hok:∀t∈l,okT 3 t) {z:T5} (hz:z∈ranksF l):∃t∈l,t.c0=z.c0:=by
 rw[ranksF_is h hok] at hz
 obtain⟨e,he,rfl⟩:=List.mem_map.1 hz
 obtain⟨t,ht,rfl⟩:=allF_mem.1 he
 exact⟨t,ht,rfl⟩
theorem Chn.fst {el:Nat→Int} {l:List T5} (h:Chn el l) {k:Nat} {t:T5} (ht:l[k]? =some t) (hf:k=0∨∃u,l[k-1]? =some u∧u.c1≠t.c0):aheadT l t.c0=none:=by
 have hk:=(List.getElem?_eq_some_iff.1 ht).1
 cases ha:aheadT l t.c0 with
 |none=>rfl
 |some u=>
  exfalso
  obtain⟨hu,hc,hx⟩:=aheadT_of ha
  obtain⟨i,hi⟩:=List.mem_iff_getElem?.1 hu
  have hil:=(List.getElem?_eq_some_iff.1 hi).1
  rcases h.c1 i u hi with h1|⟨h1,h2⟩
  ·exact hx (hc.symm.trans h1)
  ·have h3:=h.c0 k t ht
   have:=h.inj (i+1) k h1 hk (by rw[←h2,hc,h3])
   rcases hf with rfl|⟨w,hw,hn⟩
   ·omega
   ·have e:k-1=i:=by omega
    rw[e,hi] at hw;cases hw
    exact hn hc
theorem Chn.nxt {el:Nat→Int} {l:List T5} (h:Chn el l) (hok:∀t∈l,okT 3 t) {k:Nat} {t u:T5} (ht:l[k]? =some t) (hu:l[k-1]? =some u) (he:u.c1=t.c0):IntKind.wrap .i64 (rkV l u.c0+u.c2)=rkV l t.c0:=by
 have h1:=h.c0 k t ht
 have h2:=h.pos k
 rw[←he]
 exact(rk_next h.okl h.ends hok (List.mem_of_getElem? hu) (by omega)).symm
end Go.Proofs.YtjoicjgfgkpdjaaGreat
namespace Go.Proofs.YtjoicjgfgkpdjaaGreat
open Go.ChangeShapes Go.WideShapes Go.ChangeAt Go.RowKit Go.SL Go.Tup Go.Spc
theorem lit_u8 {x:Int} (h:(Lit.int .u8 x).wf=true):0≤x∧x<256:=by
 simp[Lit.wf,IntKind.min,IntKind.max,IntKind.bits,IntKind.signed] at h
 omega
theorem open_bytesR {H:Type} {enc:TypeId×Value→H} {P:Program} {w:World} {base:Nat} {t E:TypeId} {v:Value} {d:DataW H} {ps:List MemPlace} (ht:P.underlying t=some (.slice E)) (he:P.underlying E=some (.int .u8)) (hcE:P.cellsOf E=1)
  (h:DataW.Trod enc P w 0 (fun _=>true) true t v d ps) (hok:Value.okWide P w .any base t v):
  ∃p n cap xs c,v= .slice p n cap∧Rw u8cl 1 p n xs c∧(∀x∈xs,x<256)∧n≤maxLen∧ChIn w c∧Ch1 c:=by
 obtain⟨a,len,cap,rfl⟩:=okWide_slice ht hok
 obtain⟨fuel,h⟩:=h
 rcases Deep.open_slice ht h with⟨h0,_⟩|⟨a',len',cap',m,n,D,Pl,h0,hb,hl,hm,hmm,_,hx⟩
 ·simp[Value.cells] at h0
  obtain⟨rfl,rfl,rfl⟩:=h0
  exact⟨none,0,0,[],[],rfl,⟨rfl,.inl ⟨rfl,rfl⟩⟩,by simp,by decide,by simp[ChIn],.inl rfl⟩
 ·simp[Value.cells] at h0
  obtain⟨rfl,rfl,rfl⟩:=h0
  by_cases hz:len=0
  ·subst hz
   exact⟨some a',0,cap,[],[],rfl,⟨rfl,.inl ⟨rfl,rfl⟩⟩,by simp,by decide,by simp[ChIn],.inl rfl⟩
  ·simp only[if_true] at hmm
   subst hmm
   obtain⟨xs,c,h1,h2,h3,h4⟩:=open_rowsR (f:=u8cl) (k:=1) u8cl_len (by omega) (Pr:=fun x=>x<256) (w:=w) (ad:=a') (len:=len) (by omega) (fun i hi=>by
    obtain⟨cs',h1,h2⟩:=hx i (by omega)
    rw[hcE] at h1
    obtain⟨x,hx1,_,hx3⟩:=DataW.trod_int he h2
    have hx4:=lit_u8 hx3
    refine⟨x.toNat,by omega,fun j hj=> ?_⟩
    obtain rfl:j=0:=by omega
    simp only[World.cells?,Nat.zero_le,if_true] at h1
    have h5:=mapM_some_get h1 0 0 (by simp)
    have h6:(a'.add (i*1)).add 0=a'.add (i*1+0):=by
     obtain⟨b,o,s⟩:=a'
     simp[Addr.add]
    rw[←h6,h5,hx1]
    have h7:((x.toNat:Nat):Int)=x:=by omega
    unfold u8cl
    rw[h7])
   exact⟨_,len,_,xs,c,rfl,h1,h2,by omega,h3,h4⟩
end Go.Proofs.YtjoicjgfgkpdjaaGreat
