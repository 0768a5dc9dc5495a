/-
  Parts of the proof, put together: ReachFaults0, ReachFaults. No condition.
-/
import Derived.Test.YtjoicjgfgkpdjaaGreatF25
set_option linter.unusedVariables false
set_option linter.unusedSimpArgs false
set_option linter.unnecessarySimpa false
set_option maxHeartbeats 4000000
namespace Go.Proofs.YtjoicjgfgkpdjaaGreat
open Go.SL Go.Spc Go.Tup Go.Srt
theorem ReachFaults_ct (p:Option Addr) (m cap:Nat) (xs:List Int) (c:Chunk) (hv:Rw icl 1 p m xs c) (hxi:∀x∈xs,inI64 x) (hm:m≤maxLen) (e:Nat) (he:e<65536):
  CtQ Tryz.prog 6 [.slice p m cap,.int .u16 (e:Int)] [c] (.bool true):=by
 have hflv:∀f:Fl,flv f= .agg #[.int .i64 (f.first:Int),.int .i64 (f.blocks:Int),.int .i64 (f.width:Int),.int .i64 (f.count:Int)]:=fun _=>rfl
 have hAw:=awake18ct
 have hl:=hv.1
 have hmx:m≤9223372036854775807:=hm
 have hWk:Ct Tryz.prog 15 [.int .i64 9] [] fun v H'=>
  ∃bw bd ba bs cd ca cs,v=pv bw∧H'=[wrow bw bd ba bs,cd,ca,cs]∧Wc bd ba bs (wk0 10 9000 90) cd ca cs:=work18ct 9 (by omega)
 have e4:IntKind.wrap .i64 ((e%1000:Nat):Int)=((e%1000:Nat):Int):=wrap_i64 (by omega)
 have e5:(e:Int).tmod 1000=((e%1000:Nat):Int):=by rw[Int.tmod_eq_emod_of_nonneg (by omega)];omega
 by_cases h0:m=0
 ·subst h0
  refine Ct.intro Tryz.func6 rfl Tryz.ntmps6 (nle rfl) fun w0=> ?_;dsimp only[argSlots,Nat.reduceAdd]
  repeat(first|(refine st ?_;intros)|(refine cq hAw ?_)|(refine cq hWD ?_)|(refine cq hCl ?_))
  (refine Dn.post (Hr:=[c]) Tryz.results6 (hR:= ?_);exact⟨rfl,rfl⟩)
 by_cases h100:m≤100
 rotate_left
 ·refine Ct.intro Tryz.func6 rfl Tryz.ntmps6 (nle rfl) fun w0=> ?_;dsimp only[argSlots,Nat.reduceAdd]
  repeat(first|(refine st ?_;intros)|(refine cq hAw ?_)|(refine cq hWD ?_)|(refine cq hCl ?_))
  (refine Dn.post (Hr:=[c]) Tryz.results6 (hR:= ?_);exact⟨rfl,rfl⟩)
 have hCol:=column18ct p m cap xs c hv (by omega)
 have e6:IntKind.wrap .i64 ((m:Int)-1)=((m-1:Nat):Int):=by rw[wrap_i64 (by omega)];omega
 have e7:IntKind.wrap .i64 ((m:Int).tdiv 2)=((m/2:Nat):Int):=by rw[Int.tdiv_eq_ediv_of_nonneg (by omega),wrap_i64 (by omega)];omega
 refine Ct.intro Tryz.func6 rfl Tryz.ntmps6 (nle rfl) fun w0=> ?_;dsimp only[argSlots,Nat.reduceAdd]
 repeat(first|(refine st ?_;intros)|(refine cq hAw ?_)|(refine cq hWD ?_)|(refine cq hCl ?_))
 refine R.call (hct:=hWk) (h:= ?_)
 rintro _ _ ⟨bw,bd,ba,bs,cd,ca,cs,rfl,rfl,hW⟩
 try dsimp only[List.cons_append,List.nil_append]
 have hWD:=WDevice_ct bw bd ba bs
 repeat(first|(refine st ?_;intros)|(refine cq hAw ?_)|(refine cq hWD ?_)|(refine cq hCl ?_))
 refine R.call (hct:=hCol) (h:= ?_)
 rintro _ _ ⟨pq,qc0,chv,rfl,rfl,hVv⟩
 try dsimp only[List.cons_append,List.nil_append]
 have hnb1:nblocks 10 1 m≤m:=nblocks_le (holds_pos (by omega) (by omega) (by omega))
 have hLy:=Lay_k bw bd ba bs _ cd ca cs hW 1 (by omega) (by omega) pq m qc0 _ chv (RV.vec hVv) (by omega) (colT_ok hxi) (by show 10≤90-0;omega) rfl (Nat.zero_le _) (by rw[big0];show nblocks 10 1 m≤_;omega)
 rw[show(wk0 10 9000 (90)).δ.size=10 from rfl] at hLy
 repeat(first|(refine st ?_;intros)|(refine cq hAw ?_)|(refine cq hWD ?_)|(refine cq hCl ?_))
 refine R.call (hct:=hLy) (h:= ?_)
 rintro _ _ ⟨cd1,ca1,cs1,W1,f,rfl,rfl,hW1,hE1,hK1,hg1,hl1,hf1,hc1,hb1,hfo1⟩
 try dsimp only[List.cons_append,List.nil_append]
 have hsz1:W1.δ.size=10:=hE1.size
 have hrm1:W1.α.room=90:=hE1.room
 have hus1:W1.α.used=0:=used_eq hW hW1 hg1
 have hbg1:=hE1.big
 have hac1:=hE1.acts.2
 rw[big0] at hbg1
 rw[show(wk0 10 9000 (90)).δ.acts=0 from rfl] at hac1
 rw[hflv]
 repeat(first|(refine st ?_;intros)|(refine cq hAw ?_)|(refine cq hWD ?_)|(refine cq hCl ?_))
 rename_i bl
 have hRV2:RV (some ⟨bl,0,none⟩) 2 [⟨0,0,((m-1:Nat):Int),0,0⟩,⟨5,((m/2:Nat):Int),((m/2:Nat):Int),0,0⟩] [(bl,row [.int .i64 0,.int .i64 0,.int .i64 ((m-1:Nat):Int),.int .i64 0,.int .i64 0,.int .i64 5,.int .i64 ((m/2:Nat):Int),.int .i64 ((m/2:Nat):Int),.int .i64 0,.int .i64 0] 38)]:=⟨rfl,.inr ⟨bl,0,_,_,_,rfl,rfl,rfl⟩⟩
 have hok2:∀t∈([⟨0,0,((m-1:Nat):Int),0,0⟩,⟨5,((m/2:Nat):Int),((m/2:Nat):Int),0,0⟩]:List T5),okT 3 t:=by
  intro t ht
  simp only[List.mem_cons,List.not_mem_nil,or_false] at ht
  rcases ht with rfl|rfl
  ·exact okT3 in_0 in_0 ⟨by omega,by omega⟩
  ·exact okT3 ⟨by decide,by decide⟩ ⟨by omega,by omega⟩ ⟨by omega,by omega⟩
 have hnb2:nblocks 10 3 2≤2:=nblocks_le (holds_pos (by omega) (by omega) (by omega))
 have hLy2:=Lay_k bw bd ba bs W1 cd1 ca1 cs1 hW1 3 (by omega) (by omega) _ 2 2 _ _ hRV2 (by omega) hok2 (by omega) (hE1.fault rfl) (by omega) (by rw[hsz1];omega)
 rw[hsz1] at hLy2
 refine R.call (hct:=hLy2) (h:= ?_)
 rintro _ _ ⟨cd2,ca2,cs2,W2,g,rfl,rfl,hW2,hE2,hK2,hg2,hl2,hf2,hc2,hb2,hfo2⟩
 try dsimp only[List.cons_append,List.nil_append]
 obtain⟨h2,hf0⟩:=two_lay (wa:=1) (wb:=3) (na:=m) (nb:=2) hW hW1 hE1 hg1 hl1 hf1 hc1 hb1 hfo1 hW2 hE2 hK2 hg2 hl2 hf2 hc2 hb2 hfo2
 rw[hflv]
 have hSF:=SetFault_ct bd W2.δ cd2 hW2.dev ((e%1000:Nat):Int) (by omega)
 repeat(first|(refine st ?_;intros)|(refine cq hAw ?_)|(refine cq hWD ?_)|(refine cq hCl ?_))
 refine R.call (hct:=hSF) (h:= ?_)
 rintro _ _ ⟨cdf,rfl,rfl,hdf⟩
 try dsimp only[List.cons_append,List.nil_append]
 have hWf:=hW2.flt hdf
 have hT:=Least_two bw bd ba bs 90 (by omega) (W2.flt ((e%1000:Nat):Int)) cdf ca2 cs2 hWf f g _ _ (h2.flt _) (by rw[colT_len];omega) (by simp)
 rw[hflv,hflv] at hT
 repeat(first|(refine st ?_;intros)|(refine cq hAw ?_)|(refine cq hWD ?_)|(refine cq hCl ?_))
 refine R.call (hct:=hT) (h:= ?_)
 rintro _ _ ⟨x,e1,cd3,ca3,cs3,W3,rfl,rfl,hW3,hus3,hrm3,hn3,hsz3,hac3,hfl3,hc⟩
 dsimp only[List.cons_append,List.nil_append]
 have hokq:okQs (colT xs).length [⟨0,0,((m-1:Nat):Int),0,0⟩,⟨5,((m/2:Nat):Int),((m/2:Nat):Int),0,0⟩]:=by
  rw[colT_len,hl]
  refine⟨?_,by simp⟩
  intro q hq
  simp only[List.mem_cons,List.not_mem_nil,or_false] at hq
  rcases hq with rfl|rfl
  ·unfold okQ;dsimp only;omega
  ·unfold okQ;dsimp only;omega
 have hCl:∀b':Nat,total W3.σ.free+sumB [f,g,x]=9000→CtQ Tryz.prog 27 [pv bw,.slice (some ⟨b',0,none⟩) 3 3] [wrow bw bd ba bs,ca3,cs3,[(b',row [.int .i64 (f.first:Int),.int .i64 (f.blocks:Int),.int .i64 (f.width:Int),.int .i64 (f.count:Int),.int .i64 (g.first:Int),.int .i64 (g.blocks:Int),.int .i64 (g.width:Int),.int .i64 (g.count:Int),.int .i64 (x.first:Int),.int .i64 (x.blocks:Int),.int .i64 (x.width:Int),.int .i64 (x.count:Int)] 27)]] (.bool true):=fun b' ht=>
  clean18ct bw bd ba bs W3 ca3 cs3 hW3.ar hW3.sp (some ⟨b',0,none⟩) 3 3 [f,g,x] _ ⟨rfl,.inr ⟨b',0,_,_,_,rfl,rfl,rfl⟩⟩ (by omega) hus3 ht
 rcases hc with⟨rfl,_,_,_,_,hl3⟩|⟨_,rfl,hl3,⟨rfl,_⟩|⟨_,h6⟩⟩
 ·have ht:=free_sum (fs:=[f,g,x]) hW3 hl3 hn3
  rw[hflv]
  repeat(first|(refine st ?_;intros)|(refine cq hAw ?_)|(refine cq hWD ?_)|(refine cq hCl ?_))
  (refine Dn.post (Hr:=[c]) Tryz.results6 (hR:= ?_);exact⟨rfl,rfl⟩)
 ·have ht0:=free_sum (fs:=[f,g]) hW3 hl3 hn3
  have ht:total W3.σ.free+sumB [f,g,⟨0,0,0,0⟩]=9000:=by
   rw[←ht0];simp[sumB]
  rw[hflv]
  repeat(first|(refine st ?_;intros)|(refine cq hAw ?_)|(refine cq hWD ?_)|(refine cq hCl ?_))
  (refine Dn.post (Hr:=[c]) Tryz.results6 (hR:= ?_);exact⟨rfl,rfl⟩)
 ·exact absurd hokq h6
end Go.Proofs.YtjoicjgfgkpdjaaGreat
namespace Go.Proofs.YtjoicjgfgkpdjaaGreat
open Go.ChangeShapes Go.WideShapes Go.ChangeAt Go.RowKit Go.SL Go.Tup
set_option maxRecDepth 100000 in
theorem ReachFaults_lifted (os:Os) (started:os.Started) (H:Type) (enc:TypeId×Value→H):
  ReturnsInHanded {} Tryz.checked os 6 .any (Rows.reachFaultsSpec.pre6 enc Tryz.prog Tryz.f6 Rows.reachFaultsRow.domain false) (Rows.reachFaultsSpec.post enc Tryz.prog Tryz.f6 false true false false):=by
 refine returnsInHanded_of_change (C:=Tryz.checked) own started (by kernel_rfl) Tryz.func6
  (ChangeSpec.witness6 (enc:=enc) (C:=Tryz.checked) false ⟨#[],#[.slice none 0 0,.int .u16 0],[]⟩ 8 (by kernel_rfl) (by kernel_rfl) (by kernel_rfl) (by kernel_rfl)) ?_
 intro W base args ds gs before hval0 hW hcnd _
 have hval:∀(j:Nat) t v,Tryz.f6.params[j]? =some t→args[j]? =some v→Value.okWide Tryz.prog W .any base t v:=hval0
 have hW':=hW
 obtain⟨p,q,hA0,hV,rfl,hfz,hnd⟩:=hW
 have hA:DataW.TrodAll enc Tryz.prog W 0 (fun _=>true) true Tryz.f6.params.toList args.toList ds p:=hA0
 rw[Tryz.params6] at hA hval
 obtain⟨rfl,rfl⟩:=trodVars_none hV
 obtain⟨v0,v1,d0,d1,p0,p1,rfl,rfl,rfl,h0,h1⟩:=trodAll_two hA
 obtain⟨p,n,cap,xs,ch,rfl,hv,hin,hm,hc,hs⟩:=open_intsR Tryz.underlying35 Tryz.underlying2 (by kernel_rfl) h0 (hval 0 _ v0 rfl rfl)
 obtain⟨e1,he1,rfl⟩:=openNat16 Tryz.underlying46 (hval 1 _ v1 rfl rfl)
 clear hA0 hval0
 refine(law_calls1 hc hs.nodup (ReachFaults_ct p n cap xs ch hv hin hm e1 he1)).mono fun e W' ⟨he,hw⟩=> ?_
 subst he
 exact⟨_,rfl,lawPost hW' rfl rfl (by kernel_rfl) laidOut (by decide+kernel) rfl hw⟩
theorem ReachFaults_holds:Rows.ReachFaultsSaid:=
 OpenClaim.holds_of_wide 6 Tryz.f6 rfl rfl rfl rfl rfl rfl rfl ⟨rfl,rfl,rfl,rfl,rfl⟩ rfl rfl rfl rfl rfl (by kernel_rfl) Tryz.func6 (by kernel_rfl)
  (of_decide_eq_true (by kernel_rfl)) (by unfold Func.isWrapper;first|(rw[if_pos (by decide+kernel)];kernel_rfl)|(rw[if_neg (by decide+kernel)];exact⟨rfl,rfl⟩))
  (fun os started H enc _=>ReachFaults_lifted os started H enc)
end Go.Proofs.YtjoicjgfgkpdjaaGreat
