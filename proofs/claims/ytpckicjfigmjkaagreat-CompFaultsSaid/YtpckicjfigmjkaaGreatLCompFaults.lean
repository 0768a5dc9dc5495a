/-
  Parts of the proof, put together: CompFaults0, CompFaults. No condition.
-/
import Derived.Test.YtpckicjfigmjkaaGreatJ30
set_option linter.unusedVariables false
set_option linter.unusedSimpArgs false
set_option linter.unnecessarySimpa false
set_option maxHeartbeats 4000000
namespace Go.Proofs.YtpckicjfigmjkaaGreat
open Go.SL Go.Spc Go.Tup Go.Srt Go.Gr
theorem CompFaults_ct (n:Int) (p:Option Addr) (m cap:Nat) (es:List IE) (c:Chunk) (hv:Rw ecl 2 p m es c) (hm:m≤maxLen) (e:Nat) (he:e<65536):
  CtQ Tryz.prog 12 [gv n p m cap,.int .u16 (e:Int)] [c] (.bool true):=by
 have hflv:∀f:Fl,flv f= .agg #[.int .i64 (f.first:Int),.int .i64 (f.blocks:Int),.int .i64 (f.width:Int),.int .i64 (f.count:Int)]:=fun _=>rfl
 have hAw:=awake15ct
 have hFo:=Formed03ct n p m cap es c hv hm
 have hFe:=Few03ct n p m cap 30 40 hm
 have hel:=hv.1
 have hWk:Ct Tryz.prog 15 [.int .i64 10] [] fun v H'=>
  ∃bw bd ba bs cd ca cs,v=pv bw∧H'=[wrow bw bd ba bs,cd,ca,cs]∧Wc bd ba bs (wk0 10 9000 100) cd ca cs:=work15ct 10 (by omega)
 have e4:IntKind.wrap .i64 ((e:Int).tmod 4000)=((e%4000:Nat):Int):=by rw[Int.tmod_eq_emod_of_nonneg (by omega),wrap_i64 (by omega)];omega
 have e5:(e:Int).tmod 4000=((e%4000:Nat):Int):=by rw[Int.tmod_eq_emod_of_nonneg (by omega)];omega
 unfold gv at hFo hFe⊢
 cases hfm:formedB n es with
 |false=>
  rw[hfm] at hFo
  refine Ct.intro Tryz.func12 rfl Tryz.ntmps12 (nle rfl) fun w0=> ?_;dsimp only[argSlots,Nat.reduceAdd]
  repeat(first|(refine st ?_;intros)|(refine cq hAw ?_)|(refine cq hFo ?_)|(refine cq hFe ?_)|(refine cq hWD ?_)|(refine cq hSa ?_)|(refine cq hCl ?_))
  (refine Dn.post (Hr:=[c]) Tryz.results12 (hR:= ?_);exact⟨rfl,rfl⟩)
 |true=>
 rw[hfm] at hFo
 by_cases hfew:n≤30∧(m:Int)≤40
 rotate_left
 ·rw[dec_false hfew] at hFe
  refine Ct.intro Tryz.func12 rfl Tryz.ntmps12 (nle rfl) fun w0=> ?_;dsimp only[argSlots,Nat.reduceAdd]
  repeat(first|(refine st ?_;intros)|(refine cq hAw ?_)|(refine cq hFo ?_)|(refine cq hFe ?_)|(refine cq hWD ?_)|(refine cq hSa ?_)|(refine cq hCl ?_))
  (refine Dn.post (Hr:=[c]) Tryz.results12 (hR:= ?_);exact⟨rfl,rfl⟩)
 rw[dec_true hfew] at hFe
 obtain⟨h0,hin⟩:=formed_in hfm
 obtain⟨N,rfl⟩:∃N:Nat,n=(N:Int):=⟨n.toNat,by omega⟩
 have hTu:=tuples15ct N p m cap es c hv (by omega)
 unfold gv at hTu
 have hok:=edT3all (N:=N) (by omega) (by omega) hin
 have hed:=edT3ok hin
 refine Ct.intro Tryz.func12 rfl Tryz.ntmps12 (nle rfl) fun w0=> ?_;dsimp only[argSlots,Nat.reduceAdd]
 repeat(first|(refine st ?_;intros)|(refine cq hAw ?_)|(refine cq hFo ?_)|(refine cq hFe ?_)|(refine cq hWD ?_)|(refine cq hSa ?_)|(refine cq hCl ?_))
 refine R.call (hct:=hWk) (h:= ?_)
 rintro _ _ ⟨bw,bd,ba,bs,cd,ca,cs,rfl,rfl,hW⟩
 try dsimp only[List.cons_append,List.nil_append]
 have hWD:=WDevice_ct bw bd ba bs
 repeat(first|(refine st ?_;intros)|(refine cq hAw ?_)|(refine cq hFo ?_)|(refine cq hFe ?_)|(refine cq hWD ?_)|(refine cq hSa ?_)|(refine cq hCl ?_))
 refine R.call (hct:=hTu) (h:= ?_)
 rintro _ _ ⟨q,qc,ch,rfl,rfl,hV⟩
 try dsimp only[List.cons_append,List.nil_append]
 have hlt:(edT3 es).length=m:=(edT3len es).trans hel
 generalize edT3 es=ts at*
 have hnb:nblocks 10 3 m≤20:=Nat.le_trans nb3 (by omega)
 have hLy:=Lay_k bw bd ba bs _ cd ca cs hW 3 (by omega) (by omega) q m qc _ ch (RV.vec hV) (by omega) hok (by decide) rfl (by decide) (by rw[big0];show nblocks 10 3 m≤_;omega)
 rw[show(wk0 10 9000 100).δ.size=10 from rfl] at hLy
 repeat(first|(refine st ?_;intros)|(refine cq hAw ?_)|(refine cq hFo ?_)|(refine cq hFe ?_)|(refine cq hWD ?_)|(refine cq hSa ?_)|(refine cq hCl ?_))
 refine R.call (hct:=hLy) (h:= ?_)
 rintro _ _ ⟨cd1,ca1,cs1,W1,f,rfl,rfl,hW1,hE1,hK1,hg1,hl1,hf1,hc1,hb1,hfo1⟩
 try dsimp only[List.cons_append,List.nil_append]
 obtain⟨hO1,hin1⟩:=(Ons.fresh 9000 100).lay hW hW1 hE1 hg1 hl1 hfo1 (by show 0+nblocks 10 3 m≤_;omega)
 have hac1:=hE1.acts.2
 rw[show(wk0 10 9000 100).δ.acts=0 from rfl] at hac1
 rw[hflv]
 have hSF:=SetFault_ct bd W1.δ cd1 hW1.dev ((e%4000:Nat):Int) (by omega)
 repeat(first|(refine st ?_;intros)|(refine cq hAw ?_)|(refine cq hFo ?_)|(refine cq hFe ?_)|(refine cq hWD ?_)|(refine cq hSa ?_)|(refine cq hCl ?_))
 refine R.call (hct:=hSF) (h:= ?_)
 rintro _ _ ⟨cdf,rfl,rfl,hdf⟩
 try dsimp only[List.cons_append,List.nil_append]
 have hWf:=hW1.flt hdf
 have hT:=Components_ons bw bd ba bs 100 (by omega) (W1.flt ((e%4000:Nat):Int)) cdf ca1 cs1 hWf N f ts _ hin1 hf1 (hc1.trans hlt.symm) (hO1.flt _) 40 220 (by omega) (by omega) (by omega) (by omega) (by decide+kernel) (by simp[sumB,hb1];omega) (by show W1.δ.acts≤_;omega)
 rw[hflv] at hT
 repeat(first|(refine st ?_;intros)|(refine cq hAw ?_)|(refine cq hFo ?_)|(refine cq hFe ?_)|(refine cq hWD ?_)|(refine cq hSa ?_)|(refine cq hCl ?_))
 refine R.call (hct:=hT) (h:= ?_)
 rintro _ _ ⟨x,y,e1,cd3,ca3,cs3,W3,rfl,rfl,hW3,hac3,hfl3,hK3,hmem,hc⟩
 dsimp only[List.cons_append,List.nil_append]
 unfold compA at hac3
 have hac3:W3.δ.acts≤W1.δ.acts+300000000:=hac3
 have hSF2:=SetFault_ct bd W3.δ cd3 hW3.dev (-1) (by decide)
 have hO3:∃gs,Ons 9000 100 W3 gs:=by
  rcases hc with⟨_,_,_,_,_,hO3⟩|⟨_,_,_,hO3,_⟩
  ·exact⟨_,hO3⟩
  ·exact⟨_,hO3⟩
 obtain⟨gs,hO3⟩:=hO3
 have hin3:FileIn W3 (f,ts):=FileIn.stay (W:=W1.flt ((e%4000:Nat):Int)) hin1 (hO3.size.trans hO1.size.symm) hK3 hmem
 obtain⟨Lv,hfo3,hsub3⟩:=hin3
 rw[hflv x,hflv y]
 repeat(first|(refine st ?_;intros)|(refine cq hAw ?_)|(refine cq hFo ?_)|(refine cq hFe ?_)|(refine cq hWD ?_)|(refine cq hSa ?_)|(refine cq hCl ?_))
 refine R.call (hct:=hSF2) (h:= ?_)
 rintro _ _ ⟨cdg,rfl,rfl,hdg⟩
 try dsimp only[List.cons_append,List.nil_append]
 have hWg:=hW3.flt hdg
 have hLi:=List_ct bw bd ba bs (W3.flt (-1)) cdg ca3 cs3 hWg f ts Lv hfo3 hsub3 (by show W3.δ.size≤W3.α.room-W3.α.used;rw[hO3.size,hO3.room,hO3.used];decide) rfl (by show W3.δ.acts≤_;omega) (by omega)
 rw[hflv,hc1] at hLi
 rw[hc1]
 repeat(first|(refine st ?_;intros)|(refine cq hAw ?_)|(refine cq hFo ?_)|(refine cq hFe ?_)|(refine cq hWD ?_)|(refine cq hSa ?_)|(refine cq hCl ?_))
 refine R.call (hct:=hLi) (h:= ?_)
 rintro _ _ ⟨cd5,ca5,W5,po,oc,cho,rfl,rfl,hW5,hE5,hd5,hl5,hg5,hVo⟩
 try dsimp only[List.cons_append,List.nil_append]
 have hSa:=Same_ct po m oc _ cho (RV.vec hVo) (by omega) q m qc _ ch (RV.vec hV)
 rw[decide_eq_true rfl] at hSa
 have hus5:W5.α.used=0:=(used_eq hWg hW5 hg5).trans hO3.used
 have hCl:∀b':Nat,total W5.σ.free+sumB [f,x,y]=9000→CtQ Tryz.prog 33 [pv bw,.slice (some ⟨b',0,none⟩) 3 3] [wrow bw bd ba bs,ca5,cs3,[(b',row [.int .i64 (f.first:Int),.int .i64 (f.blocks:Int),.int .i64 (f.width:Int),.int .i64 (m:Int),.int .i64 (x.first:Int),.int .i64 (x.blocks:Int),.int .i64 (x.width:Int),.int .i64 (x.count:Int),.int .i64 (y.first:Int),.int .i64 (y.blocks:Int),.int .i64 (y.width:Int),.int .i64 (y.count:Int)] 26)]] (.bool true):=fun b' ht=>
  clean15ct bw bd ba bs W5 ca5 cs3 hW5.ar hW5.sp (some ⟨b',0,none⟩) 3 3 [f,x,y] _ ⟨rfl,.inr ⟨b',0,_,_,_,rfl,rfl,by simp[fl4,hc1]⟩⟩ (by omega) hus5 ht
 rcases hc with⟨rfl,_,_,_,_,hO4⟩|⟨_,rfl,rfl,hO4,⟨rfl,_⟩|⟨h6,_⟩⟩
 ·have ht:=free_sum (fs:=[f,x,y]) hW5 (by rw[hl5];exact hO4.live) (hE5.n.trans hO4.n)
  repeat(first|(refine st ?_;intros)|(refine cq hAw ?_)|(refine cq hFo ?_)|(refine cq hFe ?_)|(refine cq hWD ?_)|(refine cq hSa ?_)|(refine cq hCl ?_))
  (refine Dn.post (Hr:=[c]) Tryz.results12 (hR:= ?_);exact⟨rfl,rfl⟩)
 ·have ht0:=free_sum (fs:=[f]) hW5 (by rw[hl5];exact hO4.live) (hE5.n.trans hO4.n)
  have ht:total W5.σ.free+sumB [f,⟨0,0,0,0⟩,⟨0,0,0,0⟩]=9000:=by
   rw[←ht0];simp[sumB]
  have z1:((⟨0,0,0,0⟩:Fl).first:Int)=0:=rfl
  have z3:((⟨0,0,0,0⟩:Fl).width:Int)=0:=rfl
  have z4:((⟨0,0,0,0⟩:Fl).count:Int)=0:=rfl
  rw[z1]
  simp only[z1,z3,z4] at hCl
  repeat(first|(refine st ?_;intros)|(refine cq hAw ?_)|(refine cq hFo ?_)|(refine cq hFe ?_)|(refine cq hWD ?_)|(refine cq hSa ?_)|(refine cq hCl ?_))
  refine R.neq4 (hx:=rfl) (hy:=rfl) (hc:=rfl) (hn:=nle rfl) (h:= ?_)
  repeat(first|(refine st ?_;intros)|(refine cq hAw ?_)|(refine cq hFo ?_)|(refine cq hFe ?_)|(refine cq hWD ?_)|(refine cq hSa ?_)|(refine cq hCl ?_))
  refine R.neq4 (hx:=rfl) (hy:=rfl) (hc:=rfl) (hn:=nle rfl) (h:= ?_)
  repeat(first|(refine st ?_;intros)|(refine cq hAw ?_)|(refine cq hFo ?_)|(refine cq hFe ?_)|(refine cq hWD ?_)|(refine cq hSa ?_)|(refine cq hCl ?_))
  (refine Dn.post (Hr:=[c]) Tryz.results12 (hR:= ?_);exact⟨rfl,rfl⟩)
 ·exact absurd hed h6
end Go.Proofs.YtpckicjfigmjkaaGreat
namespace Go.Proofs.YtpckicjfigmjkaaGreat
open Go.ChangeShapes Go.WideShapes Go.ChangeAt Go.RowKit Go.SL Go.Tup
set_option maxRecDepth 100000 in
theorem CompFaults_lifted (os:Os) (started:os.Started) (H:Type) (enc:TypeId×Value→H):
  ReturnsInHanded {} Tryz.checked os 12 .any (Rows.compFaultsSpec.pre6 enc Tryz.prog Tryz.f12 Rows.compFaultsRow.domain false) (Rows.compFaultsSpec.post enc Tryz.prog Tryz.f12 false true false false):=by
 refine returnsInHanded_of_change (C:=Tryz.checked) own started (by kernel_rfl) Tryz.func12
  (ChangeSpec.witness6 (enc:=enc) (C:=Tryz.checked) false ⟨#[],#[.agg #[.int .i64 0,.slice none 0 0],.int .u16 0],[]⟩ 8 (by kernel_rfl) (by kernel_rfl) (by kernel_rfl) (by kernel_rfl)) ?_
 intro W base args ds gs before hval0 hW hcnd _
 have hval:∀(j:Nat) t v,Tryz.f12.params[j]? =some t→args[j]? =some v→Value.okWide Tryz.prog W .any base t v:=hval0
 have hW':=hW
 obtain⟨p,q,hA0,hV,rfl,hfz,hnd⟩:=hW
 have hA:DataW.TrodAll enc Tryz.prog W 0 (fun _=>true) true Tryz.f12.params.toList args.toList ds p:=hA0
 rw[Tryz.params12] at hA hval
 obtain⟨rfl,rfl⟩:=trodVars_none hV
 obtain⟨v0,v1,d0,d1,p0,p1,rfl,rfl,rfl,h0,h1⟩:=trodAll_two hA
 obtain⟨n,p,m,cap,es,ch,rfl,hv,hm,hc,hnd'⟩:=open_graphR Tryz.underlying40 Tryz.underlying3 Tryz.underlying38 Tryz.underlying51 Tryz.underlying3 Tryz.underlying3 rfl rfl (by kernel_rfl) (by kernel_rfl) (by kernel_rfl) (by kernel_rfl) rfl rfl (by kernel_rfl) (by kernel_rfl) h0 (hval 0 _ v0 rfl rfl)
 obtain⟨e1,he1,rfl⟩:=openNat16 Tryz.underlying71 (hval 1 _ v1 rfl rfl)
 clear hA0 hval0
 refine(law_calls1 hc hnd' (CompFaults_ct n p m cap es ch hv hm e1 he1)).mono fun e W' ⟨he,hw⟩=> ?_
 subst he
 exact⟨_,rfl,lawPost hW' rfl rfl (by kernel_rfl) laidOut (by decide+kernel) rfl hw⟩
theorem CompFaults_holds:Rows.CompFaultsSaid:=
 OpenClaim.holds_of_wide 12 Tryz.f12 rfl rfl rfl rfl rfl rfl rfl ⟨rfl,rfl,rfl,rfl,rfl⟩ rfl rfl rfl rfl rfl (by kernel_rfl) Tryz.func12 (by kernel_rfl)
  (of_decide_eq_true (by kernel_rfl)) (by unfold Func.isWrapper;first|(rw[if_pos (by decide+kernel)];kernel_rfl)|(rw[if_neg (by decide+kernel)];exact⟨rfl,rfl⟩))
  (fun os started H enc _=>CompFaults_lifted os started H enc)
end Go.Proofs.YtpckicjfigmjkaaGreat
