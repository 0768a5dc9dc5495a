/-
  Parts of the proof, put together: ReachAll0, ReachAll. No condition.
-/
import Derived.Test.YtjoicjgfgkpdjaaGreatF25
set_option linter.unusedVariables false
set_option linter.unusedSimpArgs false
set_option linter.unnecessarySimpa false
set_option maxHeartbeats 4000000
namespace Go.Proofs.YtjoicjgfgkpdjaaGreat
open Go.SL Go.Spc Go.Tup Go.Srt
def eachQ (i:Nat):List T5:=rangeT (fun i=>⟨(i:Int),(i:Int),(i:Int),0,0⟩) i
def allQ (m:Nat):List T5:=eachQ m++[⟨999,0,((m-1:Nat):Int),0,0⟩]
theorem eachQ_mem {i:Nat} {t:T5} (h:t∈eachQ i):∃j,j<i∧t=⟨(j:Int),(j:Int),(j:Int),0,0⟩:=by
 unfold eachQ rangeT at h
 obtain⟨j,hj,rfl⟩:=List.mem_map.1 h
 exact⟨j,List.mem_range.1 hj,rfl⟩
theorem allQ_len (m:Nat):(allQ m).length=m+1:=by simp[allQ,eachQ,rangeT]
theorem allQ_ok {m:Nat} (h0:0<m) (h:m≤200):(allQ m).Pairwise (fun a c=>a.c0<c.c0)∧(∀t∈allQ m,okQ m t)∧∀t∈allQ m,okT 3 t:=by
 unfold allQ
 refine⟨?_,?_,?_⟩
 ·rw[List.pairwise_append]
  refine⟨?_,by simp,?_⟩
  ·unfold eachQ rangeT
   rw[List.pairwise_map]
   exact List.pairwise_lt_range.imp fun h=>by dsimp only;omega
  ·intro t ht u hu
   obtain⟨j,hj,rfl⟩:=eachQ_mem ht
   simp only[List.mem_singleton] at hu;subst hu
   dsimp only;omega
 ·intro t ht
  rcases List.mem_append.1 ht with ht|ht
  ·obtain⟨j,hj,rfl⟩:=eachQ_mem ht
   unfold okQ;dsimp only;omega
  ·simp only[List.mem_singleton] at ht;subst ht
   unfold okQ;dsimp only;omega
 ·intro t ht
  rcases List.mem_append.1 ht with ht|ht
  ·obtain⟨j,hj,rfl⟩:=eachQ_mem ht
   exact okT3 ⟨by omega,by omega⟩ ⟨by omega,by omega⟩ ⟨by omega,by omega⟩
  ·simp only[List.mem_singleton] at ht;subst ht
   exact okT3 ⟨by decide,by decide⟩ in_0 ⟨by omega,by omega⟩
structure RaX where
 i:Nat
 p:Option Addr
 cap:Nat
 ch:Chunk
theorem ReachAll_ct (p:Option Addr) (m cap:Nat) (xs:List Int) (c:Chunk) (hv:Rw icl 1 p m xs c) (hxi:∀x∈xs,inI64 x) (hm:m≤maxLen):
  CtQ Tryz.prog 4 [.slice p m cap] [c] (.bool true):=by
 have hflv:∀f:Fl,flv f= .agg #[.int .i64 (f.first:Int),.int .i64 (f.blocks:Int),.int .i64 (f.width:Int),.int .i64 (f.count:Int)]:=fun _=>rfl
 have hAw:=awake18ct
 have hl:=hv.1
 have hmx:m≤9223372036854775807:=hm
 have hWk:Ct Tryz.prog 15 [.int .i64 9] [] fun v H'=>
  ∃bw bd ba bs cd ca cs,v=pv bw∧H'=[wrow bw bd ba bs,cd,ca,cs]∧Wc bd ba bs (wk0 10 9000 90) cd ca cs:=work18ct 9 (by omega)
 by_cases hm0:m=0
 ·subst hm0
  refine Ct.intro Tryz.func4 rfl Tryz.ntmps4 (nle rfl) fun w0=> ?_;dsimp only[argSlots,Nat.reduceAdd]
  repeat(first|(refine st ?_;intros)|refine G.draw [] (h:= ?_)|(refine cq hAw ?_))
  (refine Dn.post (Hr:=[c]) Tryz.results4 (hR:= ?_);exact⟨rfl,rfl⟩)
 by_cases h200:m≤200
 rotate_left
 ·refine Ct.intro Tryz.func4 rfl Tryz.ntmps4 (nle rfl) fun w0=> ?_;dsimp only[argSlots,Nat.reduceAdd]
  repeat(first|(refine st ?_;intros)|refine G.draw [] (h:= ?_)|(refine cq hAw ?_))
  (refine Dn.post (Hr:=[c]) Tryz.results4 (hR:= ?_);exact⟨rfl,rfl⟩)
 have hCol:=column18ct p m cap xs c hv (by omega)
 obtain⟨hinc,hoq,hok2⟩:=allQ_ok (m:=m) (by omega) h200
 have hokq:okQs m (allQ m):=⟨hoq,hinc.imp fun h=>by omega⟩
 refine Ct.intro Tryz.func4 rfl Tryz.ntmps4 (nle rfl) fun w0=> ?_;dsimp only[argSlots,Nat.reduceAdd]
 repeat(first|(refine st ?_;intros)|refine G.draw [] (h:= ?_)|(refine cq hAw ?_))
 refine R.call (hct:=hWk) (h:= ?_)
 rintro _ _ ⟨bw,bd,ba,bs,cd,ca,cs,rfl,rfl,hW⟩
 try dsimp only[List.cons_append,List.nil_append]
 repeat(first|(refine st ?_;intros)|refine G.draw [] (h:= ?_)|(refine cq hAw ?_))
 refine G.loop (X:=RaX) (fun x=>x.i≤m∧Vec 38 5 x.p x.i x.cap (flat (eachQ x.i)) x.ch) (fun x=>[(5,.int .i64 (x.i:Int)),(4,.slice x.p x.i x.cap),(3,pv bw),(0,.slice p m cap)]) (fun x=>[x.ch,c,wrow bw bd ba bs,cd,ca,cs]) (fun x=>m-x.i) ⟨0,none,0,[]⟩ ⟨Nat.zero_le _,Vec.nil _ _⟩ (by repeat(first|exact trivial|refine⟨rfl,?_⟩)) (by repeat(first|exact Split.nil|(apply Split.cons;·(first|exact Take.nil|(repeat(first|exact Take.here|apply Take.there)))))) ?_
 rintro⟨i,q,qc,ch⟩ ⟨hi,hV⟩
 dsimp only at hi hV⊢
 have hmi:i+1≤maxLen:=by simp only[maxLen];omega
 by_cases hlt:i<m
 ·have hsn:flat (eachQ (i+1))=flat (eachQ i)++[.int .i64 (i:Int),.int .i64 (i:Int),.int .i64 (i:Int),.int .i64 0,.int .i64 0]:=by
   unfold eachQ;rw[rangeT_succ,flat_append];rfl
  have e3:IntKind.wrap .i64 ((i:Int)+1)=((i+1:Nat):Int):=by rw[wrap_i64 (by omega)];omega
  repeat(first|(refine st ?_;intros)|refine G.draw [] (h:= ?_)|(refine cq hAw ?_))
  rename_i p' cap' c' hV'
  have hV3:Vec 38 5 p' (i+1) cap' (flat (eachQ (i+1))) c':=by rw[hsn];exact hV'
  refine Dn.round ⟨i+1,p',cap',c'⟩ ⟨hlt,hV3⟩ (by dsimp only;omega)
 obtain rfl:i=m:=by omega
 have e6:IntKind.wrap .i64 ((i:Int)-1)=((i-1:Nat):Int):=by rw[wrap_i64 (by omega)];omega
 repeat(first|(refine st ?_;intros)|refine G.draw [] (h:= ?_)|(refine cq hAw ?_))
 rename_i p' cap' c' hV'
 have hV3:Vec 38 5 p' (i+1) cap' (flat (allQ i)) c':=by unfold allQ;rw[flat_append];exact hV'
 clear hV' hV
 refine R.call (hct:=hCol) (h:= ?_)
 rintro _ _ ⟨pq,qc0,chv,rfl,rfl,hVv⟩
 try dsimp only[List.cons_append,List.nil_append]
 have hnb1:nblocks 10 1 i≤i:=nblocks_le (holds_pos (by omega) (by omega) (by omega))
 have hLy:=Lay_k bw bd ba bs _ cd ca cs hW 1 (by omega) (by omega) pq i qc0 _ chv (RV.vec hVv) (by omega) (colT_ok hxi) (by show 10≤90-0;omega) rfl (Nat.zero_le _) (by rw[big0];show nblocks 10 1 i≤_;omega)
 rw[show(wk0 10 9000 (90)).δ.size=10 from rfl] at hLy
 repeat(first|(refine st ?_;intros)|refine G.draw [] (h:= ?_)|(refine cq hAw ?_))
 refine R.call (hct:=hLy) (h:= ?_)
 rintro _ _ ⟨cd1,ca1,cs1,W1,f,rfl,rfl,hW1,hE1,hK1,hg1,hl1,hf1,hc1,hb1,hfo1⟩
 try dsimp only[List.cons_append,List.nil_append]
 have hsz1:W1.δ.size=10:=hE1.size
 have hrm1:W1.α.room=90:=hE1.room
 have hus1:W1.α.used=0:=used_eq hW hW1 hg1
 have hbg1:=hE1.big
 have hac1:=hE1.acts.2
 rw[big0] at hbg1
 rw[show(wk0 10 9000 (90)).δ.acts=0 from rfl] at hac1
 rw[hflv]
 have hnb2:nblocks 10 3 (i+1)≤(i+1):=nblocks_le (holds_pos (by omega) (by omega) (by omega))
 have hLy2:=Lay_k bw bd ba bs W1 cd1 ca1 cs1 hW1 3 (by omega) (by omega) p' (i+1) cap' _ c' (RV.vec hV3) (by omega) hok2 (by omega) (hE1.fault rfl) (by omega) (by rw[hsz1];omega)
 rw[hsz1] at hLy2
 repeat(first|(refine st ?_;intros)|refine G.draw [] (h:= ?_)|(refine cq hAw ?_))
 refine R.call (hct:=hLy2) (h:= ?_)
 rintro _ _ ⟨cd2,ca2,cs2,W2,g,rfl,rfl,hW2,hE2,hK2,hg2,hl2,hf2,hc2,hb2,hfo2⟩
 try dsimp only[List.cons_append,List.nil_append]
 obtain⟨h2,hf0⟩:=two_lay (wa:=1) (wb:=3) (na:=i) (nb:=(i+1)) hW hW1 hE1 hg1 hl1 hf1 hc1 hb1 hfo1 hW2 hE2 hK2 hg2 hl2 hf2 hc2 hb2 hfo2
 rw[hflv]
 have hT:=Least_two bw bd ba bs 90 (by omega) W2 cd2 ca2 cs2 hW2 f g _ _ h2 (by rw[colT_len];omega) (by rw[allQ_len];omega)
 rw[hflv,hflv] at hT
 repeat(first|(refine st ?_;intros)|refine G.draw [] (h:= ?_)|(refine cq hAw ?_))
 refine R.call (hct:=hT) (h:= ?_)
 rintro _ _ ⟨x,e1,cd3,ca3,cs3,W3,rfl,rfl,hW3,hus3,hrm3,hn3,hsz3,hac3,hfl3,hc⟩
 dsimp only[List.cons_append,List.nil_append]
 rw[colT_len,hl] at hc
 rcases hc with⟨rfl,_,hin3,hxw,hxc,hl3⟩|⟨_,_,_,⟨_,h6⟩|⟨_,h6⟩⟩
 rotate_left
 ·exact absurd hf0 h6
 ·exact absurd hokq h6
 have hxl:(colT xs).length=i:=by rw[colT_len];exact hl
 have hlf:leastF (colT xs) (allQ i)=(allQ i).map (ansQ (colT xs)):=leastF_inc (fun t ht=>(okT_cols (colT_ok hxi t ht)).1) (fun q hm=>(okT_cols (hok2 q hm)).1) (by rw[hxl];exact hokq) hinc
 have hxc2:x.count=i+1:=by rw[hxc,hlf,List.length_map,allQ_len]
 obtain⟨LvX,hfoX,hsubX⟩:=hin3
 have hLi:=List_ct bw bd ba bs W3 cd3 ca3 cs3 hW3 x _ LvX hfoX hsubX (by omega) (hfl3 hf0) (by omega) (by omega)
 rw[hflv x,hxc2] at hLi
 rw[hflv x,hxc2]
 repeat(first|(refine st ?_;intros)|refine G.draw [] (h:= ?_)|(refine cq hAw ?_))
 refine R.call (hct:=hLi) (h:= ?_)
 rintro _ _ ⟨cd4,ca4,W4,po,oc,cho,rfl,rfl,hW4,hE4,hd4,hl4,hg4,hVo⟩
 try dsimp only[List.cons_append,List.nil_append]
 have hvals:∀j,(hj:j<i)→at0 (colT xs) j=xs[j]'(by omega):=fun j hj=>at0get (t:=⟨xs[j]'(by omega),0,0,0,0⟩) (by simp[colT,List.getElem?_eq_getElem (show j<xs.length by omega)])
 have hlist:(allQ i).map (ansQ (colT xs))=rangeT (fun j=>⟨(j:Int),at0 (colT xs) j,0,0,0⟩) i++[⟨999,rmin (at0 (colT xs)) 0 (i-1),0,0,0⟩]:=by
  unfold allQ eachQ rangeT
  rw[List.map_append,List.map_map]
  congr 1
  ·refine List.map_congr_left fun j hj=> ?_
   show ansQ _ _=_
   unfold ansQ;dsimp only
   have:((j:Int)-(j:Int)).toNat=0:=by omega
   rw[this,Int.toNat_natCast];rfl
 rw[hlf,hlist] at hVo
 have hRo:=(RV.rw (RV.vec hVo))
 obtain⟨ob,ooff,ocs,oT,ofz,hpo,hco,hcutO,hgetO⟩:=hRo.pos tcells_len (by omega)
 subst hpo hco
 obtain⟨vb,voff,vc,vT,vf,rfl,rfl,_,hget⟩:=hv.pos icl_len (by omega)
 have hgl:=hgetO i 1 ⟨999,rmin (at0 (colT xs)) 0 (i-1),0,0,0⟩ (.int .i64 (rmin (at0 (colT xs)) 0 (i-1))) (by rw[List.getElem?_append_right (by rw[rangeT_len];omega),rangeT_len];simp) rfl
 have hcj:∀j,j<i→(ocs.drop (ooff+j*5)).take 5=[.int .i64 (j:Int),.int .i64 (at0 (colT xs) j),.int .i64 0,.int .i64 0,.int .i64 0]:=fun j hj=>
  hcutO j ⟨(j:Int),at0 (colT xs) j,0,0,0⟩ (by rw[List.getElem?_append_left (by rw[rangeT_len];omega)];exact rangeT_get hj)
 have hvj:∀j,j<i→vc[voff+j]? =some (.int .i64 (at0 (colT xs) j)):=fun j hj=>by
  have h1:=hget j 0 _ _ (List.getElem?_eq_getElem (show j<xs.length by omega)) rfl
  rw[Nat.add_zero,Nat.mul_one] at h1
  rw[h1,hvals j hj]
 have hle:∀j,j<i→rmin (at0 (colT xs)) 0 (i-1)≤at0 (colT xs) j:=fun j hj=>by
  have:=rmin_le (at0 (colT xs)) 0 (i-1) j (by omega)
  rwa[Nat.zero_add] at this
 obtain⟨jm,hjm,hmn⟩:=rmin_at (at0 (colT xs)) 0 (i-1)
 rw[Nat.zero_add] at hmn
 generalize rmin (at0 (colT xs)) 0 (i-1)=lm at*
 generalize hav:at0 (colT xs)=av at*
 have e8:IntKind.wrap .i64 ((i:Int)+1)=((i+1:Nat):Int):=by rw[wrap_i64 (by omega)];omega
 repeat(first|(refine st ?_;intros)|refine G.draw [] (h:= ?_)|(refine cq hAw ?_))
 refine G.loop (X:=Nat×Bool) (fun x=>x.1≤i∧(x.2=true↔∃j,j<x.1∧av j=lm)) (fun x=>[(16,.int .i64 (x.1:Int)),(15,.bool x.2),(14,.int .i64 lm),(12,.slice (some ⟨ob,ooff,none⟩) (i+1) oc),(0,.slice (some ⟨vb,voff,none⟩) i cap)])
  (fun _=>[[(ob,rowf ocs oT ofz)],[(vb,rowf vc vT vf)]]) (fun x=>i-x.1) (0,false) ⟨Nat.zero_le _,by simp⟩ (body:= ?_)
 rintro⟨k,met⟩ ⟨hk,hmet⟩
 dsimp only at hk hmet⊢
 by_cases hki:k<i
 ·have c1:=hcj k hki
  have c2:=hvj k hki
  have c3:=hle k hki
  have e9:IntKind.wrap .i64 ((k:Int)+1)=((k+1:Nat):Int):=by rw[wrap_i64 (by omega)];omega
  have hstep:∀j,j<k+1∧av j=lm↔(j<k∧av j=lm)∨(j=k∧av k=lm):=fun j=>by
   constructor
   ·rintro⟨h1,h2⟩
    by_cases hjk:j=k
    ·subst hjk;exact .inr ⟨rfl,h2⟩
    ·exact .inl ⟨by omega,h2⟩
   ·rintro(⟨h1,h2⟩|⟨rfl,h2⟩)
    ·exact⟨by omega,h2⟩
    ·exact⟨by omega,h2⟩
  cases met with
  |true=>
   obtain⟨j0,hj0,hj1⟩:=hmet.1 rfl
   repeat(first|(refine st ?_;intros)|refine G.draw [] (h:= ?_)|(refine cq hAw ?_))
   refine Dn.round (k+1,true) ⟨hki,by simp only[true_iff];exact⟨j0,by omega,hj1⟩⟩ (by dsimp only;omega)
  |false=>
   by_cases hkl:av k=lm
   ·have hd:dec (av k=lm)=true:=dec_true hkl
    repeat(first|(refine st ?_;intros)|refine G.draw [] (h:= ?_)|(refine cq hAw ?_))
    rw[hd]
    refine Dn.round (k+1,true) ⟨hki,by simp only[true_iff];exact⟨k,by omega,hkl⟩⟩ (by dsimp only;omega)
   ·have hd:dec (av k=lm)=false:=dec_false hkl
    repeat(first|(refine st ?_;intros)|refine G.draw [] (h:= ?_)|(refine cq hAw ?_))
    rw[hd]
    refine Dn.round (k+1,false) ⟨hki,by
     simp only[Bool.false_eq_true,false_iff]
     rintro⟨j,hj⟩
     rcases(hstep j).1 hj with h|h
     ·have:=hmet.2 ⟨j,h⟩;cases this
     ·exact hkl h.2⟩ (by dsimp only;omega)
 ·obtain rfl:k=i:=by omega
  have hb:met=true:=hmet.2 ⟨jm,by omega,hmn.symm⟩
  subst hb
  repeat(first|(refine st ?_;intros)|refine G.draw [] (h:= ?_)|(refine cq hAw ?_))
  (refine Dn.post (Hr:=[[(vb,rowf vc vT vf)]]) Tryz.results4 (hR:= ?_);exact⟨rfl,rfl⟩)
end Go.Proofs.YtjoicjgfgkpdjaaGreat
namespace Go.Proofs.YtjoicjgfgkpdjaaGreat
open Go.ChangeShapes Go.WideShapes Go.ChangeAt Go.RowKit Go.SL Go.Tup
set_option maxRecDepth 100000 in
theorem ReachAll_lifted (os:Os) (started:os.Started) (H:Type) (enc:TypeId×Value→H):
  ReturnsInHanded {} Tryz.checked os 4 .any (Rows.reachAllSpec.pre6 enc Tryz.prog Tryz.f4 Rows.reachAllRow.domain false) (Rows.reachAllSpec.post enc Tryz.prog Tryz.f4 false true false false):=by
 refine returnsInHanded_of_change (C:=Tryz.checked) own started (by kernel_rfl) Tryz.func4
  (ChangeSpec.witness6 (enc:=enc) (C:=Tryz.checked) false ⟨#[],#[.slice none 0 0],[]⟩ 8 (by kernel_rfl) (by kernel_rfl) (by kernel_rfl) (by kernel_rfl)) ?_
 intro W base args ds gs before hval0 hW hcnd _
 have hval:∀(j:Nat) t v,Tryz.f4.params[j]? =some t→args[j]? =some v→Value.okWide Tryz.prog W .any base t v:=hval0
 have hW':=hW
 obtain⟨p,q,hA0,hV,rfl,hfz,hnd⟩:=hW
 have hA:DataW.TrodAll enc Tryz.prog W 0 (fun _=>true) true Tryz.f4.params.toList args.toList ds p:=hA0
 rw[Tryz.params4] at hA hval
 obtain⟨rfl,rfl⟩:=trodVars_none hV
 obtain⟨v0,d0,rfl,rfl,h0⟩:=trodAll_one hA
 obtain⟨p,n,cap,xs,ch,rfl,hv,hin,hm,hc,hs⟩:=open_intsR Tryz.underlying35 Tryz.underlying2 (by kernel_rfl) h0 (hval 0 _ v0 rfl rfl)
 clear hA0 hval0
 refine(law_calls1 hc hs.nodup (ReachAll_ct p n cap xs ch hv hin hm)).mono fun e W' ⟨he,hw⟩=> ?_
 subst he
 exact⟨_,rfl,lawPost hW' rfl rfl (by kernel_rfl) laidOut (by decide+kernel) rfl hw⟩
theorem ReachAll_holds:Rows.ReachAllSaid:=
 OpenClaim.holds_of_wide 4 Tryz.f4 rfl rfl rfl rfl rfl rfl rfl ⟨rfl,rfl,rfl,rfl,rfl⟩ rfl rfl rfl rfl rfl (by kernel_rfl) Tryz.func4 (by kernel_rfl)
  (of_decide_eq_true (by kernel_rfl)) (by unfold Func.isWrapper;first|(rw[if_pos (by decide+kernel)];kernel_rfl)|(rw[if_neg (by decide+kernel)];exact⟨rfl,rfl⟩))
  (fun os started H enc _=>ReachAll_lifted os started H enc)
end Go.Proofs.YtjoicjgfgkpdjaaGreat
