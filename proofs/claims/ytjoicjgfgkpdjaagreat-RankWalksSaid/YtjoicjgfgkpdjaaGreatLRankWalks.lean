/-
  Parts of the proof, put together: RankWalks0, RankWalks. No condition.
-/
import Derived.Test.YtjoicjgfgkpdjaaGreatJ26
set_option linter.unusedVariables false
set_option linter.unusedSimpArgs false
set_option linter.unnecessarySimpa false
set_option maxHeartbeats 4000000
namespace Go.Proofs.YtjoicjgfgkpdjaaGreat
open Go.SL Go.Spc Go.Tup Go.Srt
instance zero300:ZeroV Tryz.prog 66 (acells (List.replicate 300 0)):=⟨.agg Tryz.zeroCells66,(by show Tryz.zeroCells66=_;kernel_rfl),Tryz.zeroValue66⟩
structure RwX where
 i:Nat
 A:List Int
theorem RankWalks_ct (p1:Option Addr) (n1 cap1:Nat) (ss:List Nat) (c1:Chunk) (hv1:Rw u8cl 1 p1 n1 ss c1) (hs8:∀s∈ss,s<256) (hm1:n1≤maxLen) (b:Nat) (hb:b<65536) (p2:Option Addr) (n2 cap2:Nat) (ws:List Int) (c2:Chunk) (hv2:Rw icl 1 p2 n2 ws c2) (hwi:∀w∈ws,inI64 w) (hm2:n2≤maxLen)
  (A rA1 rA2:Chunk) (hA1:A.Perm (c1++rA1)) (hA2:A.Perm (c2++rA2)):
  CtQ Tryz.prog 12 [.slice p1 n1 cap1,.int .u16 (b:Int),.slice p2 n2 cap2] [A] (.bool true):=by
 have hflv:∀f:Fl,flv f= .agg #[.int .i64 (f.first:Int),.int .i64 (f.blocks:Int),.int .i64 (f.width:Int),.int .i64 (f.count:Int)]:=fun _=>rfl
 have hAw:=awake14ct
 have hmx1:n1≤9223372036854775807:=hm1
 have hmx2:n2≤9223372036854775807:=hm2
 by_cases h4:n1≤4
 rotate_left
 ·refine Ct.intro Tryz.func12 rfl Tryz.ntmps12 (nle rfl) fun w0=> ?_;dsimp only[argSlots,Nat.reduceAdd]
  repeat(first|(refine st ?_;intros)|refine G.draw [] (h:= ?_)|(refine cq hAw ?_)|(refine cq hCl ?_))
  (refine Dn.post (Hr:=[A]) Tryz.results12 (hR:= ?_);exact⟨rfl,rfl⟩)
 by_cases h300:n2≤300
 rotate_left
 ·refine Ct.intro Tryz.func12 rfl Tryz.ntmps12 (nle rfl) fun w0=> ?_;dsimp only[argSlots,Nat.reduceAdd]
  repeat(first|(refine st ?_;intros)|refine G.draw [] (h:= ?_)|(refine cq hAw ?_)|(refine cq hCl ?_))
  (refine Dn.post (Hr:=[A]) Tryz.results12 (hR:= ?_);exact⟨rfl,rfl⟩)
 have hWk:Ct Tryz.prog 23 [.int .i64 9] [] fun v H'=>
  ∃bw bd ba bs cd ca cs,v=pv bw∧H'=[wrow bw bd ba bs,cd,ca,cs]∧Wc bd ba bs (wk0 10 6000 90) cd ca cs:=work14ct 9 (by omega)
 have hal:allS ss≤236:=by
  have:=allS_le ss
  rw[hv1.1] at this
  omega
 have hCh:=chains_ct p1 n1 cap1 ss c1 hv1 h4 hs8 b hb p2 n2 cap2 ws c2 hv2 h300 A rA1 rA2 hA1 hA2
 refine Ct.intro Tryz.func12 rfl Tryz.ntmps12 (nle rfl) fun w0=> ?_;dsimp only[argSlots,Nat.reduceAdd]
 repeat(first|(refine st ?_;intros)|refine G.draw [] (h:= ?_)|(refine cq hAw ?_)|(refine cq hCl ?_))
 refine R.call (hct:=hWk) (h:= ?_)
 rintro _ _ ⟨bw,bd,ba,bs,cd,ca,cs,rfl,rfl,hW⟩
 try dsimp only[List.cons_append,List.nil_append]
 repeat(first|(refine st ?_;intros)|refine G.draw [] (h:= ?_)|(refine cq hAw ?_)|(refine cq hCl ?_))
 refine R.call (hct:=hCh) (h:= ?_)
 rintro _ _ ⟨q,qc,ch,p,sp,rfl,rfl,hV,hp1,hp2,hp3,hp4,hp5⟩
 try dsimp only[List.cons_append,List.nil_append]
 have her:=chL_err (ws:=ws) hp1 hp2 hp3 hp4 hp5 hwi
 have hok:=chL_ok (sp:=sp) (ws:=ws) (ss:=ss) (by omega:0<p) hp2 hwi
 have hln:=chL_len (elN p sp) ws 0 ss
 have hchn:=chn_is ws ss hp1 hp3 hp4 hp5
 have hel:∀t∈chL (elN p sp) ws 0 ss,0≤t.c0∧t.c0<300:=fun t ht=>by
  obtain⟨k,hk⟩:=List.mem_iff_getElem?.1 ht
  rw[hchn.c0 k t hk]
  have h1:=elN_lt (sp:=sp) (n:=k) (show 0<p by omega)
  have h2:0≤elN p sp k:=hchn.pos k
  omega
 generalize chL (elN p sp) ws 0 ss=ts at*
 generalize allS ss=n at*
 generalize elN p sp=el at*
 clear hp1 hp3 hp4 hp5 hA1 hA2 hv1 hv2 hs8 hwi hCh
 have hokl:=hchn.okl
 have hnb:nblocks 10 3 n≤118:=Nat.le_trans nb3 (by omega)
 have hLy:=Lay_k bw bd ba bs _ cd ca cs hW 3 (by omega) (by omega) q n qc _ ch (RV.vec hV) (by omega) hok (by decide) rfl (by decide) (by rw[big0];show nblocks 10 3 n≤_;omega)
 rw[show(wk0 10 6000 90).δ.size=10 from rfl] at hLy
 repeat(first|(refine st ?_;intros)|refine G.draw [] (h:= ?_)|(refine cq hAw ?_)|(refine cq hCl ?_))
 refine R.call (hct:=hLy) (h:= ?_)
 rintro _ _ ⟨cd1,ca1,cs1,W1,f,rfl,rfl,hW1,hE1,hK1,hg1,hl1,hf1,hc1,hb1,hfo1⟩
 try dsimp only[List.cons_append,List.nil_append]
 obtain⟨hO1,hin1⟩:=(Ons.fresh 6000 90).lay hW hW1 hE1 hg1 hl1 hfo1 (by show 0+nblocks 10 3 n≤_;omega)
 have hac1:=hE1.acts.2
 rw[show(wk0 10 6000 90).δ.acts=0 from rfl] at hac1
 have hfl1:W1.δ.fault= -1:=hE1.fault rfl
 rw[hflv]
 have hT:=Ranks_ons bw bd ba bs 90 (by omega) W1 cd1 ca1 cs1 hW1 f ts _ hin1 hf1 (hc1.trans hln.symm) hO1 236 118 632 (by omega) (by omega) (by omega) (by omega) (by decide+kernel) (by omega) (by simp[sumB,hb1];omega) (by omega)
 rw[hflv] at hT
 repeat(first|(refine st ?_;intros)|refine G.draw [] (h:= ?_)|(refine cq hAw ?_)|(refine cq hCl ?_))
 rename_i bf
 refine R.call (hct:=hT) (h:= ?_)
 rintro _ _ ⟨x,e1,cd3,ca3,cs3,W3,rfl,rfl,hW3,hac3,hfl3,hbg3,hK3,hc⟩
 dsimp only[List.cons_append,List.nil_append]
 unfold rankA at hac3
 have hfl3':=hfl3 hfl1
 rcases hc with⟨rfl,_,hinX,hxw,hxc,hO3⟩|⟨_,_,_,⟨_,h6⟩|⟨k,h6,_⟩⟩
 rotate_left
 ·exact absurd hfl1 h6
 ·rw[her] at h6;cases h6
 obtain⟨LvX,hfoX,hsubX⟩:=hinX
 have hxc2:x.count=n:=by rw[hxc,ranksF_len,hln]
 have hLi:=List_ct bw bd ba bs W3 cd3 ca3 cs3 hW3 x (ranksF ts) LvX hfoX hsubX (by rw[hO3.size,hO3.room,hO3.used];decide) hfl3' (by omega) (by omega)
 rw[hflv x,hxc2] at hLi
 rw[hflv x,hxc2]
 repeat(first|(refine st ?_;intros)|refine G.draw [] (h:= ?_)|(refine cq hAw ?_)|(refine cq hCl ?_))
 rename_i bx
 refine R.call (hct:=hLi) (h:= ?_)
 rintro _ _ ⟨cd4,ca4,W4,po,oc,cho,rfl,rfl,hW4,hE4,hd4,hl4,hg4,hVo⟩
 try dsimp only[List.cons_append,List.nil_append]
 have ht:=free_sumN (fs:=[f,x]) hW4 (by rw[hl4];exact hO3.live) (hE4.n.trans hO3.n)
 have hCl:∀b':Nat,CtQ Tryz.prog 32 [pv bw,.slice (some ⟨b',0,none⟩) 2 2] [wrow bw bd ba bs,ca4,cs3,[(b',row [.int .i64 (f.first:Int),.int .i64 (f.blocks:Int),.int .i64 (f.width:Int),.int .i64 (f.count:Int),.int .i64 (x.first:Int),.int .i64 (x.blocks:Int),.int .i64 (x.width:Int),.int .i64 (n:Int)] 27)]] (.bool true):=fun b'=>
  clean14ct bw bd ba bs W4 ca4 cs3 hW4.ar hW4.sp (some ⟨b',0,none⟩) 2 2 [f,x] _ ⟨rfl,.inr ⟨b',0,_,_,_,rfl,rfl,by simp[fl4,hxc2]⟩⟩ (by omega) ((used_eq hW3 hW4 hg4).trans hO3.used) ht
 have hrs:=ranks_rise hokl hok
 have hrh:=fun t (h:t∈ts)=>ranks_has hokl hok h
 have hrp:∀z∈ranksF ts,0≤z.c0∧z.c0<300:=fun z hz=>by
  obtain⟨t,ht,he⟩:=ranks_of hokl hok hz
  rw[←he];exact hel t ht
 have hgl:(ranksF ts).length=n:=by rw[ranksF_len,hln]
 have hrvo:=RV.vec hVo
 have hrv:=RV.vec hV
 generalize hgot:ranksF ts=got at*
 repeat(first|(refine st ?_;intros)|refine G.draw [] (h:= ?_)|(refine cq hAw ?_)|(refine cq hCl ?_))
 rename_i ba2
 refine G.loop (X:=RwX) (fun x=>x.i≤n∧AtOk got x.i x.A) (fun x=>[(16,.int .i64 (x.i:Int)),(15,pv ba2),(13,.slice po n oc),(8,.slice q n qc),(11,pv bx),(9,pv bf),(7,pv bw)])
  (fun y=>[[(ba2,row (acells y.A) 66)],cho,ch,A,wrow bw bd ba bs,cd4,ca4,cs3,[(bx,row [.int .i64 (x.first:Int),.int .i64 (x.blocks:Int),.int .i64 (x.width:Int),.int .i64 (n:Int)] 27)],[(bf,row [.int .i64 (f.first:Int),.int .i64 (f.blocks:Int),.int .i64 (f.width:Int),.int .i64 (f.count:Int)] 27)]]) (fun x=>n-x.i) ⟨0,List.replicate 300 0⟩ ⟨Nat.zero_le _,AtOk.zero got⟩ (body:= ?_)
 rintro⟨i,Ar⟩ ⟨hi,hAt⟩
 dsimp only at hi hAt⊢
 by_cases hlt:i<n
 ·obtain⟨b2,off2,cc2,T2,fz2,rfl,rfl,_,hget⟩:=(RV.rw hrvo).pos tcells_len (by omega)
  have hit:got[i]? =some got[i]:=List.getElem?_eq_getElem (by omega)
  have q0:=hget i 0 _ (.int .i64 (got[i]).c0) hit rfl
  have q1:=hget i 1 _ (.int .i64 (got[i]).c1) hit rfl
  rw[Nat.add_zero] at q0
  have e1:IntKind.wrap .i64 ((i:Int)+1)=((i+1:Nat):Int):=by rw[wrap_i64 (by omega)];omega
  have hpu:=hAt.put hrs hrp hit
  have hp0:=hrp _ (List.mem_of_getElem? hit)
  have hpr:0<i→∃u,got[i-1]? =some u∧u.c0<(got[i]).c0:=fun h0=>by
   refine⟨got[i-1],List.getElem?_eq_getElem (by omega),?_⟩
   exact List.pairwise_iff_getElem.1 hrs (i-1) i (by omega) (by omega) (by omega)
  generalize got[i]=t at*
  have hset:(acells Ar).set t.c0.toNat (.int .i64 t.c1)=acells (Ar.set t.c0.toNat t.c1):=acells_set _ _ _
  have hlen:t.c0.toNat<(acells Ar).length:=by rw[acells_len,hAt.len];omega
  obtain⟨j,hj⟩:∃j,t.c0.toNat=j:=⟨_,rfl⟩
  rw[hj] at hset hlen hpu
  by_cases h0:i=0
  ·subst h0
   repeat(first|(refine st ?_;intros)|refine G.draw [] (h:= ?_)|(refine cq hAw ?_)|(refine cq hCl ?_))
   exact Dn.round ⟨0+1,Ar.set j t.c1⟩ ⟨hlt,hpu⟩ (by dsimp only;omega)
  ·obtain⟨u,hu,hut⟩:=hpr (by omega)
   have q2:=hget (i-1) 0 _ (.int .i64 u.c0) hu rfl
   rw[Nat.add_zero] at q2
   have e2:IntKind.wrap .i64 ((i:Int)-1)=((i-1:Nat):Int):=by rw[wrap_i64 (by omega)];omega
   repeat(first|(refine st ?_;intros)|refine G.draw [] (h:= ?_)|(refine cq hAw ?_)|(refine cq hCl ?_))
   exact Dn.round ⟨i+1,Ar.set j t.c1⟩ ⟨hlt,hpu⟩ (by dsimp only;omega)
 obtain rfl:i=n:=by omega
 have hAll:=fun t (h:t∈ts)=>AtOk.all (by rw[hgl];exact hAt) (hrh t h)
 have hAl:=hAt.len
 dsimp only at hAll
 clear hAt hrs hrp hlt
 repeat(first|(refine st ?_;intros)|refine G.draw [] (h:= ?_)|(refine cq hAw ?_)|(refine cq hCl ?_))
 refine G.loop (X:=Nat) (fun k=>k≤i) (fun k=>[(17,.int .i64 (k:Int)),(15,pv ba2),(8,.slice q i qc),(11,pv bx),(9,pv bf),(7,pv bw)])
  (fun _=>[[(ba2,row (acells Ar) 66)],cho,ch,A,wrow bw bd ba bs,cd4,ca4,cs3,[(bx,row [.int .i64 (x.first:Int),.int .i64 (x.blocks:Int),.int .i64 (x.width:Int),.int .i64 (i:Int)] 27)],[(bf,row [.int .i64 (f.first:Int),.int .i64 (f.blocks:Int),.int .i64 (f.width:Int),.int .i64 (f.count:Int)] 27)]]) (fun k=>i-k) 0 (Nat.zero_le _) (body:= ?_)
 intro k hk
 by_cases hlt:k<i
 rotate_left
 ·obtain rfl:k=i:=by omega
  repeat(first|(refine st ?_;intros)|refine G.draw [] (h:= ?_)|(refine cq hAw ?_)|(refine cq hCl ?_))
  (refine Dn.post (Hr:=[A]) Tryz.results12 (hR:= ?_);exact⟨rfl,rfl⟩)
 obtain⟨b2,off2,cc2,T2,fz2,rfl,rfl,_,hget⟩:=(RV.rw hrv).pos tcells_len (by omega)
 have hkt:ts[k]? =some ts[k]:=List.getElem?_eq_getElem (by omega)
 have q0:=hget k 0 _ (.int .i64 (ts[k]).c0) hkt rfl
 rw[Nat.add_zero] at q0
 have e1:IntKind.wrap .i64 ((k:Int)+1)=((k+1:Nat):Int):=by rw[wrap_i64 (by omega)];omega
 have hmt:=List.mem_of_getElem? hkt
 have htp:=hel _ hmt
 have hta:=acells_get (hAll _ hmt)
 have hpr:k≠0→∃u,ts[k-1]? =some u:=fun h0=>⟨ts[k-1],List.getElem?_eq_getElem (by omega)⟩
 generalize ts[k]=t at*
 obtain⟨j,hj⟩:∃j,t.c0.toNat=j:=⟨_,rfl⟩
 rw[hj] at hta
 by_cases h0:k=0
 ·subst h0
  rw[rk_first (hchn.fst hkt (.inl rfl))] at hta
  repeat(first|(refine st ?_;intros)|refine G.draw [] (h:= ?_)|(refine cq hAw ?_)|(refine cq hCl ?_))
  exact Dn.round (0+1) hlt (by omega)
 obtain⟨u,hu⟩:=hpr h0
 have q1:=hget (k-1) 1 _ (.int .i64 u.c1) hu rfl
 have e2:IntKind.wrap .i64 ((k:Int)-1)=((k-1:Nat):Int):=by rw[wrap_i64 (by omega)];omega
 by_cases hut:u.c1=t.c0
 rotate_left
 ·rw[rk_first (hchn.fst hkt (.inr ⟨u,hu,hut⟩))] at hta
  repeat(first|(refine st ?_;intros)|refine G.draw [] (h:= ?_)|(refine cq hAw ?_)|(refine cq hCl ?_))
  exact Dn.round (k+1) hlt (by omega)
 ·have hmu:=List.mem_of_getElem? hu
  have hup:=hel _ hmu
  have hua:=acells_get (hAll _ hmu)
  have q2:=hget (k-1) 0 _ (.int .i64 u.c0) hu rfl
  have q3:=hget (k-1) 2 _ (.int .i64 u.c2) hu rfl
  rw[Nat.add_zero] at q2
  obtain⟨ju,hju⟩:∃j,u.c0.toNat=j:=⟨_,rfl⟩
  rw[hju] at hua
  have e3:=hchn.nxt hok hkt hu hut
  generalize rkV ts t.c0=rt at*
  generalize rkV ts u.c0=ru at*
  repeat(first|(refine st ?_;intros)|refine G.draw [] (h:= ?_)|(refine cq hAw ?_)|(refine cq hCl ?_))
  exact Dn.round (k+1) hlt (by omega)
end Go.Proofs.YtjoicjgfgkpdjaaGreat
namespace Go.Proofs.YtjoicjgfgkpdjaaGreat
open Go.ChangeShapes Go.WideShapes Go.ChangeAt Go.RowKit Go.SL Go.Tup
set_option maxRecDepth 100000 in
theorem RankWalks_lifted (os:Os) (started:os.Started) (H:Type) (enc:TypeId×Value→H):
  ReturnsInHanded {} Tryz.checked os 12 .any (Rows.rankWalksSpec.pre6 enc Tryz.prog Tryz.f12 Rows.rankWalksRow.domain false) (Rows.rankWalksSpec.post enc Tryz.prog Tryz.f12 false true false false):=by
 refine returnsInHanded_of_change (C:=Tryz.checked) own started (by kernel_rfl) Tryz.func12
  (ChangeSpec.witness6 (enc:=enc) (C:=Tryz.checked) false ⟨#[],#[.slice none 0 0,.int .u16 0,.slice none 0 0],[]⟩ 8 (by kernel_rfl) (by kernel_rfl) (by kernel_rfl) (by kernel_rfl)) ?_
 intro W base args ds gs before hval0 hW hcnd _
 have hval:∀(j:Nat) t v,Tryz.f12.params[j]? =some t→args[j]? =some v→Value.okWide Tryz.prog W .any base t v:=hval0
 have hW':=hW
 obtain⟨p,q,hA0,hV,rfl,hfz,hnd⟩:=hW
 have hA:DataW.TrodAll enc Tryz.prog W 0 (fun _=>true) true Tryz.f12.params.toList args.toList ds p:=hA0
 rw[Tryz.params12] at hA hval
 obtain⟨rfl,rfl⟩:=trodVars_none hV
 obtain⟨v0,v1,v2,d0,d1,d2,p0,p1,p2,rfl,rfl,rfl,h0,h1,h2⟩:=trodAll_three hA
 obtain⟨p0s,n0,cap0,xs0,ch0,rfl,hv0,hin0,hm0,hc0,hs0⟩:=open_bytesR Tryz.underlying63 Tryz.underlying5 (by kernel_rfl) h0 (hval 0 _ v0 rfl rfl)
 obtain⟨e1,he1,rfl⟩:=openNat16 Tryz.underlying46 (hval 1 _ v1 rfl rfl)
 obtain⟨p2s,n2,cap2,xs2,ch2,rfl,hv2,hin2,hm2,hc2,hs2⟩:=open_intsR Tryz.underlying35 Tryz.underlying2 (by kernel_rfl) h2 (hval 2 _ v2 rfl rfl)
 obtain⟨A,hcA,hndA,⟨rA,hAa⟩,⟨rB,hAb⟩⟩:=two_ch hc0 hc2 hs0 hs2
 clear hA0 hval0
 refine(law_calls1 hcA hndA (RankWalks_ct p0s n0 cap0 xs0 ch0 hv0 hin0 hm0 e1 he1 p2s n2 cap2 xs2 ch2 hv2 hin2 hm2 A rA rB hAa hAb)).mono fun e W' ⟨he,hw⟩=> ?_
 subst he
 exact⟨_,rfl,lawPost hW' rfl rfl (by kernel_rfl) laidOut (by decide+kernel) rfl hw⟩
theorem RankWalks_holds:Rows.RankWalksSaid:=
 OpenClaim.holds_of_wide 12 Tryz.f12 rfl rfl rfl rfl rfl rfl rfl ⟨rfl,rfl,rfl,rfl,rfl⟩ rfl rfl rfl rfl rfl (by kernel_rfl) Tryz.func12 (by kernel_rfl)
  (of_decide_eq_true (by kernel_rfl)) (by unfold Func.isWrapper;first|(rw[if_pos (by decide+kernel)];kernel_rfl)|(rw[if_neg (by decide+kernel)];exact⟨rfl,rfl⟩))
  (fun os started H enc _=>RankWalks_lifted os started H enc)
end Go.Proofs.YtjoicjgfgkpdjaaGreat
