/-
  Parts of the proof, put together: RankOrder0, RankOrder. No condition.
-/
import Derived.Test.YtjoicjgfgkpdjaaGreatI25
set_option linter.unusedVariables false
set_option linter.unusedSimpArgs false
set_option linter.unnecessarySimpa false
set_option maxHeartbeats 4000000
namespace Go.Proofs.YtjoicjgfgkpdjaaGreat
open Go.SL Go.Spc Go.Tup Go.Srt
def turnI (n b i:Nat):Nat:=(n-1-i+b)%n
def turnT (ts:List T5) (b:Nat):List T5:=(List.range ts.length).map fun i=>(ts[turnI ts.length b i]?).getD ⟨0,0,0,0,0⟩
theorem turn_perm (ts:List T5) (b:Nat):ts.Perm (turnT ts b):=by
 have hnd:((List.range ts.length).map (turnI ts.length b)).Nodup:=by
  refine List.pairwise_map.2 ?_
  rw[List.pairwise_iff_getElem]
  intro i j hi hj hij he
  rw[List.length_range] at hi hj
  simp only[List.getElem_range] at he
  unfold turnI at he
  have h1:=Nat.sub_mod_eq_zero_of_mod_eq he
  rw[Nat.mod_eq_of_lt (by omega)] at h1
  omega
 have hsub:(List.range ts.length).map (turnI ts.length b)⊆List.range ts.length:=by
  intro x hx
  obtain⟨i,hi,rfl⟩:=List.mem_map.1 hx
  have:=List.mem_range.1 hi
  exact List.mem_range.2 (Nat.mod_lt _ (by omega))
 have hp:((List.range ts.length).map (turnI ts.length b)).Perm (List.range ts.length):=by
  rw[List.perm_iff_count]
  intro x
  have h1:=List.nodup_iff_count.1 hnd x
  have h2:=List.nodup_iff_count.1 (List.nodup_range (n:=ts.length)) x
  by_cases hx:x∈(List.range ts.length).map (turnI ts.length b)
  ·have h3:=List.count_pos_iff.2 hx
   have h4:=List.count_pos_iff.2 (hsub hx)
   omega
  ·by_cases hy:x∈List.range ts.length
   ·have h3:(x::(List.range ts.length).map (turnI ts.length b)).Nodup:=List.nodup_cons.2 ⟨hx,hnd⟩
    have h4:=h3.length_le_of_subset (l₂:=List.range ts.length) (fun z hz=>by
     rcases List.mem_cons.1 hz with rfl|hz
     ·exact hy
     ·exact hsub hz)
    simp only[List.length_cons,List.length_map,List.length_range] at h4
    omega
   ·have h3:List.count x ((List.range ts.length).map (turnI ts.length b))=0:=List.count_eq_zero.2 hx
    have h4:List.count x (List.range ts.length)=0:=List.count_eq_zero.2 hy
    omega
 have h1:turnT ts b=((List.range ts.length).map (turnI ts.length b)).map fun j=>(ts[j]?).getD ⟨0,0,0,0,0⟩:=by
  unfold turnT;rw[List.map_map];rfl
 have h2:(List.range ts.length).map (fun j=>(ts[j]?).getD ⟨0,0,0,0,0⟩)=ts:=by
  refine List.ext_getElem (by simp) fun i hi hj=> ?_
  simp only[List.getElem_map,List.getElem_range]
  rw[List.getElem?_eq_getElem hj];rfl
 rw[h1]
 exact((hp.map _).trans (List.Perm.of_eq h2)).symm
theorem turn_len (ts:List T5) (b:Nat):(turnT ts b).length=ts.length:=(turn_perm ts b).length_eq.symm
theorem Ons.mem {n ro:Nat} {W W':Wk} {fs:List Fl} {x:Fl} (h:Ons n ro W fs) (h':Ons n ro W' (fs++[x])):∀e∈W.live,e∈W'.live:=by
 refine mem_addF (f:=x) ?_
 have h2:=h'.live
 rw[addFs_app] at h2
 exact h2.trans (addF_perm h.live.symm)
structure OrX where
 i:Nat
 p:Option Addr
 cap:Nat
 ch:Chunk
theorem RankOrder_ct (p:Option Addr) (n cap:Nat) (ts:List T5) (c:Chunk) (hv:RV p n ts c) (hn:n≤maxLen) (hi:InT ts) (b:Nat) (hb:b<256):
  CtQ Tryz.prog 9 [.slice p n cap,.int .u8 (b:Int)] [c] (.bool true):=by
 have hflv:∀f:Fl,flv f= .agg #[.int .i64 (f.first:Int),.int .i64 (f.blocks:Int),.int .i64 (f.width:Int),.int .i64 (f.count:Int)]:=fun _=>rfl
 have hAw:=awake14ct
 have hl:=hv.1
 have hnx:n≤9223372036854775807:=hn
 by_cases h150:n≤150
 rotate_left
 ·refine Ct.intro Tryz.func9 rfl Tryz.ntmps9 (nle rfl) fun w0=> ?_;dsimp only[argSlots,Nat.reduceAdd]
  repeat(first|(refine st ?_;intros)|(refine cq hAw ?_)|(refine cq hAll ?_)|(refine cq hSa ?_))
  (refine Dn.post (Hr:=[c]) Tryz.results9 (hR:= ?_);exact⟨rfl,rfl⟩)
 have hAll:=All_ct p n cap ts c hv (by omega) 3
 cases hfit:ts.all (fitsB 3) with
 |false=>
  rw[hfit] at hAll
  refine Ct.intro Tryz.func9 rfl Tryz.ntmps9 (nle rfl) fun w0=> ?_;dsimp only[argSlots,Nat.reduceAdd]
  repeat(first|(refine st ?_;intros)|(refine cq hAw ?_)|(refine cq hAll ?_)|(refine cq hSa ?_))
  (refine Dn.post (Hr:=[c]) Tryz.results9 (hR:= ?_);exact⟨rfl,rfl⟩)
 |true=>
 rw[hfit] at hAll
 have hok:∀t∈ts,okT 3 t:=fun t ht=>okT_mk (hi t ht) (List.all_eq_true.1 hfit t ht)
 have hokm:∀t∈turnT ts b,okT 3 t:=fun t ht=>hok t ((turn_perm ts b).mem_iff.2 ht)
 have hml:(turnT ts b).length=n:=(turn_len ts b).trans hl
 have hWk:Ct Tryz.prog 23 [.int .i64 9] [] fun v H'=>
  ∃bw bd ba bs cd ca cs,v=pv bw∧H'=[wrow bw bd ba bs,cd,ca,cs]∧Wc bd ba bs (wk0 10 6000 90) cd ca cs:=work14ct 9 (by omega)
 refine Ct.intro Tryz.func9 rfl Tryz.ntmps9 (nle rfl) fun w0=> ?_;dsimp only[argSlots,Nat.reduceAdd]
 repeat(first|(refine st ?_;intros)|(refine cq hAw ?_)|(refine cq hAll ?_)|(refine cq hSa ?_))
 refine R.call (hct:=hWk) (h:= ?_)
 rintro _ _ ⟨bw,bd,ba,bs,cd,ca,cs,rfl,rfl,hW⟩
 try dsimp only[List.cons_append,List.nil_append]
 repeat(first|(refine st ?_;intros)|(refine cq hAw ?_)|(refine cq hAll ?_)|(refine cq hSa ?_))
 refine G.loop (X:=OrX) (fun x=>x.i≤n∧Vec 38 5 x.p x.i x.cap (flat ((turnT ts b).take x.i)) x.ch) (fun x=>[(7,.int .i64 (x.i:Int)),(6,.slice x.p x.i x.cap),(5,pv bw),(0,.slice p n cap),(1,.int .u8 (b:Int))]) (fun x=>[x.ch,c,wrow bw bd ba bs,cd,ca,cs]) (fun x=>n-x.i) ⟨0,none,0,[]⟩ ⟨Nat.zero_le _,Vec.nil _ _⟩ (by repeat(first|exact trivial|refine⟨rfl,?_⟩)) (by repeat(first|exact Split.nil|(apply Split.cons;·(first|exact Take.nil|(repeat(first|exact Take.here|apply Take.there)))))) ?_
 rintro⟨i,q,qc,ch⟩ ⟨hin,hV⟩
 dsimp only at hin hV⊢
 by_cases hlt:i<n
 ·obtain⟨b2,off2,cc2,T2,fz2,rfl,rfl,hcut2,hget2⟩:=(RV.rw hv).pos tcells_len (by omega)
  have e1:IntKind.wrap .i64 ((n:Int)-1)=((n-1:Nat):Int):=by rw[wrap_i64 (by omega)];omega
  have e2:IntKind.wrap .i64 (((n-1:Nat):Int)-(i:Int))=((n-1-i:Nat):Int):=by rw[wrap_i64 (by omega)];omega
  have e3:IntKind.wrap .i64 (((n-1-i:Nat):Int)+(b:Int))=((n-1-i+b:Nat):Int):=by rw[wrap_i64 (by omega)];omega
  have e4:IntKind.wrap .i64 (b:Int)=(b:Int):=wrap_i64 (by omega)
  have e5:IntKind.wrap .i64 ((i:Int)+1)=((i+1:Nat):Int):=by rw[wrap_i64 (by omega)];omega
  have et:((n-1-i+b:Nat):Int).tmod (n:Int)=((turnI n b i:Nat):Int):=by rw[Int.tmod_eq_emod_of_nonneg (by omega)];rfl
  have hj:turnI n b i<n:=Nat.mod_lt _ (by omega)
  have htj:ts[turnI n b i]? =some ts[turnI n b i]:=List.getElem?_eq_getElem (by omega)
  have htu:(turnT ts b)[i]? =some ts[turnI n b i]:=by
   unfold turnT
   rw[List.getElem?_map,List.getElem?_range (by omega)]
   simp only[Option.map_some,hl]
   rw[htj];rfl
  have hcq:=hcut2 _ _ htj
  have hmx:i+1≤maxLen:=by simp only[maxLen];omega
  have hsn:flat ((turnT ts b).take (i+1))=flat ((turnT ts b).take i)++tcells ts[turnI n b i]:=by
   rw[List.take_add_one,htu,flat_append]
   simp[flat]
  generalize ts[turnI n b i]=t at*
  unfold tcells at hcq hsn
  repeat(first|(refine st ?_;intros)|(refine cq hAw ?_)|(refine cq hAll ?_)|(refine cq hSa ?_))
  rw[et]
  clear et
  generalize turnI n b i=j at*
  repeat(first|(refine st ?_;intros)|(refine cq hAw ?_)|(refine cq hAll ?_)|(refine cq hSa ?_))
  rename_i p' cap' c' hV'
  have hV3:Vec 38 5 p' (i+1) cap' (flat ((turnT ts b).take (i+1))) c':=by rw[hsn];exact hV'
  refine Dn.round ⟨i+1,p',cap',c'⟩ ⟨hlt,hV3⟩ (by dsimp only;omega)
 ·obtain rfl:i=n:=by omega
  rw[List.take_of_length_le (by omega)] at hV
  have hnb:nblocks 10 3 i≤75:=Nat.le_trans nb3 (by omega)
  have hLy:=Lay_k bw bd ba bs _ cd ca cs hW 3 (by omega) (by omega) p i cap _ c hv (by omega) hok (by decide) rfl (by decide) (by rw[big0];show nblocks 10 3 i≤_;omega)
  rw[show(wk0 10 6000 90).δ.size=10 from rfl] at hLy
  repeat(first|(refine st ?_;intros)|(refine cq hAw ?_)|(refine cq hAll ?_)|(refine cq hSa ?_))
  refine R.call (hct:=hLy) (h:= ?_)
  rintro _ _ ⟨cd1,ca1,cs1,W1,f,rfl,rfl,hW1,hE1,hK1,hg1,hl1,hf1,hc1,hb1,hfo1⟩
  try dsimp only[List.cons_append,List.nil_append]
  obtain⟨hO1,hin1⟩:=(Ons.fresh 6000 90).lay hW hW1 hE1 hg1 hl1 hfo1 (by show 0+nblocks 10 3 i≤_;omega)
  have hbg1:=hE1.big
  rw[big0] at hbg1
  have hac1:=hE1.acts.2
  rw[show(wk0 10 6000 90).δ.acts=0 from rfl] at hac1
  have hfl1:W1.δ.fault= -1:=hE1.fault rfl
  rw[hflv]
  have hLy2:=Lay_k bw bd ba bs W1 cd1 ca1 cs1 hW1 3 (by omega) (by omega) q i qc _ ch (RV.vec hV) (by omega) hokm (by rw[hO1.size,hO1.room,hO1.used];decide) hfl1 (by omega) (by rw[hO1.size];omega)
  rw[hO1.size] at hLy2
  repeat(first|(refine st ?_;intros)|(refine cq hAw ?_)|(refine cq hAll ?_)|(refine cq hSa ?_))
  refine R.call (hct:=hLy2) (h:= ?_)
  rintro _ _ ⟨cd2,ca2,cs2,W2,g,rfl,rfl,hW2,hE2,hK2,hg2,hl2,hf2,hc2,hb2,hfo2⟩
  try dsimp only[List.cons_append,List.nil_append]
  obtain⟨hO2,hin2⟩:=hO1.lay hW1 hW2 hE2 hg2 hl2 hfo2 (by omega)
  have hin1:=hin1.stay hE2.size hK2 (mem_addF hl2)
  have hac2:=hE2.acts.2
  have hfl2:W2.δ.fault= -1:=hE2.fault hfl1
  have hsT:sortT 75≤404:=by decide+kernel
  have hT:=Ranks_ons bw bd ba bs 90 (by omega) W2 cd2 ca2 cs2 hW2 f _ _ hin1 hf1 (hc1.trans hl.symm) hO2 150 75 404 (by omega) (by omega) (by omega) (by omega) hsT (by omega) (by simp[sumB,hb1,hb2];omega) (by omega)
  rw[hflv] at hT
  rw[hflv]
  repeat(first|(refine st ?_;intros)|(refine cq hAw ?_)|(refine cq hAll ?_)|(refine cq hSa ?_))
  refine R.call (hct:=hT) (h:= ?_)
  rintro _ _ ⟨x,e,cd3,ca3,cs3,W3,rfl,rfl,hW3,hac3,hfl3,hbg3,hK3,hc⟩
  dsimp only[List.cons_append,List.nil_append]
  unfold rankA at hac3
  obtain⟨hpe,hpr⟩:=ranks_perm (by omega) hok (turn_perm ts b)
  have hfl3':=hfl3 hfl2
  rcases hc with⟨rfl,her,hinX,hxw,hxc,hO3⟩|⟨_,rfl,hO3,⟨_,h6⟩|⟨k,hk,rfl⟩⟩
  rotate_left
  ·exact absurd hfl2 h6
  ·have hk3:k=3:=by
    rcases errR_3 ts with h|h
    ·rw[h] at hk;cases hk
    ·rw[h] at hk;cases hk;rfl
   subst hk3
   have hin2:=hin2.stay (hO3.size.trans hO2.size.symm) hK3 (fun e he=>hO3.live.mem_iff.2 (hO2.live.mem_iff.1 he))
   have hT2:=Ranks_ons bw bd ba bs 90 (by omega) W3 cd3 ca3 cs3 hW3 g _ _ hin2 hf2 (hc2.trans hml.symm) hO3 150 75 404 (by omega) (by omega) (by omega) (by omega) hsT (by omega) (by simp[sumB,hb1,hb2];omega) (by omega)
   rw[hflv] at hT2
   rw[hflv]
   repeat(first|(refine st ?_;intros)|(refine cq hAw ?_)|(refine cq hAll ?_)|(refine cq hSa ?_))
   refine R.call (hct:=hT2) (h:= ?_)
   rintro _ _ ⟨y,e2,cd4,ca4,cs4,W4,rfl,rfl,hW4,hac4,hfl4,hbg4,hK4,hc2'⟩
   dsimp only[List.cons_append,List.nil_append]
   rcases hc2' with⟨_,her2,_⟩|⟨_,rfl,_,⟨_,h6⟩|⟨k2,hk2,rfl⟩⟩
   ·rw[←hpe,hk] at her2;cases her2
   ·exact absurd hfl3' h6
   ·rw[←hpe,hk] at hk2
    simp only[Option.some.injEq] at hk2
    subst hk2
    rw[hflv]
    repeat(first|(refine st ?_;intros)|(refine cq hAw ?_)|(refine cq hAll ?_)|(refine cq hSa ?_))
    (refine Dn.post (Hr:=[c]) Tryz.results9 (hR:= ?_);exact⟨congrArg Value.bool (dec_true rfl),rfl⟩)
  obtain⟨LvX,hfoX,hsubX⟩:=hinX
  have hxb:x.blocks≤150:=by
   rw[hfoX.blk]
   refine Nat.le_trans (nblocks_le (holds_pos ?_ hfoX.w1 hfoX.w2)) ?_
   ·rw[hO3.size];omega
   ·rw[hxc,ranksF_len];omega
  have hin2:=hin2.stay (hO3.size.trans hO2.size.symm) hK3 (hO2.mem hO3)
  have hT2:=Ranks_ons bw bd ba bs 90 (by omega) W3 cd3 ca3 cs3 hW3 g _ _ hin2 hf2 (hc2.trans hml.symm) hO3 150 75 404 (by omega) (by omega) (by omega) (by omega) hsT (by omega) (by simp[sumB,hb1,hb2];omega) (by omega)
  rw[hflv] at hT2
  rw[hflv]
  repeat(first|(refine st ?_;intros)|(refine cq hAw ?_)|(refine cq hAll ?_)|(refine cq hSa ?_))
  refine R.call (hct:=hT2) (h:= ?_)
  rintro _ _ ⟨y,e2,cd4,ca4,cs4,W4,rfl,rfl,hW4,hac4,hfl4,hbg4,hK4,hc2'⟩
  dsimp only[List.cons_append,List.nil_append]
  unfold rankA at hac4
  have hfl4':=hfl4 hfl3'
  rcases hc2' with⟨rfl,her2,hinY,hyw,hyc,hO4⟩|⟨_,rfl,_,⟨_,h6⟩|⟨k2,hk2,rfl⟩⟩
  rotate_left
  ·exact absurd hfl3' h6
  ·rw[←hpe,her] at hk2;cases hk2
  have hinX:=FileIn.stay (x:=(x,ranksF ts)) ⟨LvX,hfoX,hsubX⟩ (hO4.size.trans hO3.size.symm) hK4 (hO3.mem hO4)
  obtain⟨LvX4,hfoX4,hsubX4⟩:=hinX
  have hxc2:x.count=i:=by rw[hxc,ranksF_len];exact hl
  have hyc2:y.count=i:=by rw[hyc,ranksF_len];exact hml
  have hLi:=List_ct bw bd ba bs W4 cd4 ca4 cs4 hW4 x (ranksF ts) LvX4 hfoX4 hsubX4 (by rw[hO4.size,hO4.room,hO4.used];decide) hfl4' (by omega) (by omega)
  rw[hflv,hxc2] at hLi
  rw[hflv,hxc2]
  repeat(first|(refine st ?_;intros)|(refine cq hAw ?_)|(refine cq hAll ?_)|(refine cq hSa ?_))
  refine R.call (hct:=hLi) (h:= ?_)
  rintro _ _ ⟨cd5,ca5,W5,po,oc,cho,rfl,rfl,hW5,hE5,hd5,hl5,hg5,hVo⟩
  try dsimp only[List.cons_append,List.nil_append]
  obtain⟨LvY,hfoY,hsubY⟩:=hinY
  have hac5:=hE5.acts.2
  have hnb5:nblocks W4.δ.size x.width i≤i:=nblocks_le (holds_pos (by rw[hO4.size];omega) (by omega) (by omega))
  have hLi2:=List_ct bw bd ba bs W5 cd5 ca5 cs4 hW5 y (ranksF (turnT ts b)) LvY (by rw[hd5,hE5.size];exact hfoY) (by rw[hl5];exact hsubY) (by rw[hE5.size,hE5.room,used_eq hW4 hW5 hg5,hO4.size,hO4.room,hO4.used];decide) (hE5.fault hfl4') (by omega) (by omega)
  rw[hflv,hyc2] at hLi2
  rw[hyc2]
  repeat(first|(refine st ?_;intros)|(refine cq hAw ?_)|(refine cq hAll ?_)|(refine cq hSa ?_))
  refine R.call (hct:=hLi2) (h:= ?_)
  rintro _ _ ⟨cd6,ca6,W6,po2,oc2,cho2,rfl,rfl,hW6,hE6,hd6,hl6,hg6,hVo2⟩
  try dsimp only[List.cons_append,List.nil_append]
  have hSa:=Same_ct po i oc _ cho (RV.vec hVo) (by omega) po2 i oc2 _ cho2 (RV.vec hVo2)
  rw[decide_eq_true (hpr her)] at hSa
  repeat(first|(refine st ?_;intros)|(refine cq hAw ?_)|(refine cq hAll ?_)|(refine cq hSa ?_))
  (refine Dn.post (Hr:=[c]) Tryz.results9 (hR:= ?_);exact⟨rfl,rfl⟩)
end Go.Proofs.YtjoicjgfgkpdjaaGreat
namespace Go.Proofs.YtjoicjgfgkpdjaaGreat
open Go.ChangeShapes Go.WideShapes Go.ChangeAt Go.RowKit Go.SL Go.Tup
set_option maxRecDepth 100000 in
theorem RankOrder_lifted (os:Os) (started:os.Started) (H:Type) (enc:TypeId×Value→H):
  ReturnsInHanded {} Tryz.checked os 9 .any (Rows.rankOrderSpec.pre6 enc Tryz.prog Tryz.f9 Rows.rankOrderRow.domain false) (Rows.rankOrderSpec.post enc Tryz.prog Tryz.f9 false true false false):=by
 refine returnsInHanded_of_change (C:=Tryz.checked) own started (by kernel_rfl) Tryz.func9
  (ChangeSpec.witness6 (enc:=enc) (C:=Tryz.checked) false ⟨#[],#[.slice none 0 0,.int .u8 0],[]⟩ 8 (by kernel_rfl) (by kernel_rfl) (by kernel_rfl) (by kernel_rfl)) ?_
 intro W base args ds gs before hval0 hW hcnd _
 have hval:∀(j:Nat) t v,Tryz.f9.params[j]? =some t→args[j]? =some v→Value.okWide Tryz.prog W .any base t v:=hval0
 have hW':=hW
 obtain⟨p,q,hA0,hV,rfl,hfz,hnd⟩:=hW
 have hA:DataW.TrodAll enc Tryz.prog W 0 (fun _=>true) true Tryz.f9.params.toList args.toList ds p:=hA0
 rw[Tryz.params9] at hA hval
 obtain⟨rfl,rfl⟩:=trodVars_none hV
 obtain⟨v0,v1,d0,d1,p0,p1,rfl,rfl,rfl,h0,h1⟩:=trodAll_two hA
 obtain⟨p,n,cap,ts,ch,rfl,hv,hin,hm,hc,hnd'⟩:=open_tuplesR Tryz.underlying36 Tryz.underlying38 Tryz.underlying2 (by kernel_rfl) (by kernel_rfl) h0 (hval 0 _ v0 rfl rfl)
 obtain⟨e1,he1,rfl⟩:=openNat8 Tryz.underlying5 (hval 1 _ v1 rfl rfl)
 clear hA0 hval0
 refine(law_calls1 hc hnd' (RankOrder_ct p n cap ts ch hv hm hin e1 he1)).mono fun e W' ⟨he,hw⟩=> ?_
 subst he
 exact⟨_,rfl,lawPost hW' rfl rfl (by kernel_rfl) laidOut (by decide+kernel) rfl hw⟩
theorem RankOrder_holds:Rows.RankOrderSaid:=
 OpenClaim.holds_of_wide 9 Tryz.f9 rfl rfl rfl rfl rfl rfl rfl ⟨rfl,rfl,rfl,rfl,rfl⟩ rfl rfl rfl rfl rfl (by kernel_rfl) Tryz.func9 (by kernel_rfl)
  (of_decide_eq_true (by kernel_rfl)) (by unfold Func.isWrapper;first|(rw[if_pos (by decide+kernel)];kernel_rfl)|(rw[if_neg (by decide+kernel)];exact⟨rfl,rfl⟩))
  (fun os started H enc _=>RankOrder_lifted os started H enc)
end Go.Proofs.YtjoicjgfgkpdjaaGreat
