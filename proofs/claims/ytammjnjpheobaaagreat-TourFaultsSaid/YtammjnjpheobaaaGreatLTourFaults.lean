/-
  Parts of the proof, put together: TourFaults0, TourFaults. No condition.
-/
import Derived.Test.YtammjnjpheobaaaGreatK30
set_option linter.unusedVariables false
set_option linter.unusedSimpArgs false
set_option linter.unnecessarySimpa false
set_option maxHeartbeats 4000000
namespace Go.Proofs.YtammjnjpheobaaaGreat
open Go.SL Go.Spc Go.Tup Go.Srt Go.Gr
theorem TourFaults_ct (n:Int) (p:Option Addr) (m cap:Nat) (es:List IE) (c:Chunk) (hv:Rw ecl 2 p m es c) (hm:m≤maxLen) (e:Nat) (he:e<65536):
  CtQ Tryz.prog 6 [gv n p m cap,.int .u16 (e:Int)] [c] (.bool true):=by
 have hflv:∀f:Fl,flv f= .agg #[.int .i64 (f.first:Int),.int .i64 (f.blocks:Int),.int .i64 (f.width:Int),.int .i64 (f.count:Int)]:=fun _=>rfl
 have hAw:=awake16ct
 have hFo:=Formed03ct n p m cap es c hv hm
 have hFe:=Few03ct n p m cap 30 40 hm
 have hel:=hv.1
 have hWk:Ct Tryz.prog 14 [.int .i64 9] [] fun v H'=>
  ∃bw bd ba bs cd ca cs,v=pv bw∧H'=[wrow bw bd ba bs,cd,ca,cs]∧Wc bd ba bs (wk0 10 9000 90) cd ca cs:=work16ct 9 (by omega)
 have e4:IntKind.wrap .i64 ((e:Int).tmod 3000)=((e%3000:Nat):Int):=by rw[Int.tmod_eq_emod_of_nonneg (by omega),wrap_i64 (by omega)];omega
 have e5:(e:Int).tmod 3000=((e%3000:Nat):Int):=by rw[Int.tmod_eq_emod_of_nonneg (by omega)];omega
 unfold gv at hFo hFe⊢
 cases hfm:formedB n es with
 |false=>
  rw[hfm] at hFo
  refine Ct.intro Tryz.func6 rfl Tryz.ntmps6 (nle rfl) fun w0=> ?_;dsimp only[argSlots,Nat.reduceAdd]
  repeat(first|(refine st ?_;intros)|(refine cq hAw ?_)|(refine cq hFo ?_)|(refine cq hFe ?_)|(refine cq hWD ?_)|(refine cq hCl ?_))
  (refine Dn.post (Hr:=[c]) Tryz.results6 (hR:= ?_);exact⟨rfl,rfl⟩)
 |true=>
 rw[hfm] at hFo
 by_cases hfew:n≤30∧(m:Int)≤40
 rotate_left
 ·rw[dec_false hfew] at hFe
  refine Ct.intro Tryz.func6 rfl Tryz.ntmps6 (nle rfl) fun w0=> ?_;dsimp only[argSlots,Nat.reduceAdd]
  repeat(first|(refine st ?_;intros)|(refine cq hAw ?_)|(refine cq hFo ?_)|(refine cq hFe ?_)|(refine cq hWD ?_)|(refine cq hCl ?_))
  (refine Dn.post (Hr:=[c]) Tryz.results6 (hR:= ?_);exact⟨rfl,rfl⟩)
 rw[dec_true hfew] at hFe
 obtain⟨h0,hin⟩:=formed_in hfm
 obtain⟨N,rfl⟩:∃N:Nat,n=(N:Int):=⟨n.toNat,by omega⟩
 refine Ct.intro Tryz.func6 rfl Tryz.ntmps6 (nle rfl) fun w0=> ?_;dsimp only[argSlots,Nat.reduceAdd]
 repeat(first|(refine st ?_;intros)|(refine cq hAw ?_)|(refine cq hFo ?_)|(refine cq hFe ?_)|(refine cq hWD ?_)|(refine cq hCl ?_))
 refine R.call (hct:=hWk) (h:= ?_)
 rintro _ _ ⟨bw,bd,ba,bs,cd,ca,cs,rfl,rfl,hW⟩
 try dsimp only[List.cons_append,List.nil_append]
 have hWD:=WDevice_ct bw bd ba bs
 have hLa:=laid16ct bw bd ba bs 90 (by omega) cd ca cs hW N (by omega) p m cap es c hv (by omega) hin
 unfold gv at hLa
 repeat(first|(refine st ?_;intros)|(refine cq hAw ?_)|(refine cq hFo ?_)|(refine cq hFe ?_)|(refine cq hWD ?_)|(refine cq hCl ?_))
 refine R.call (hct:=hLa) (h:= ?_)
 rintro _ _ ⟨cd1,ca1,cs1,W,f,h,lab,fl,rfl,rfl,hW1,hL,hfl1⟩
 try dsimp only[List.cons_append,List.nil_append]
 obtain⟨r,b,hpa⟩:=parts_of hL.labs hL.fors
 have hSF:=SetFault_ct bd W.δ cd1 hW1.dev ((e%3000:Nat):Int) (by omega)
 rw[hflv,hflv]
 repeat(first|(refine st ?_;intros)|(refine cq hAw ?_)|(refine cq hFo ?_)|(refine cq hFe ?_)|(refine cq hWD ?_)|(refine cq hCl ?_))
 refine R.call (hct:=hSF) (h:= ?_)
 rintro _ _ ⟨cd2,rfl,rfl,hdf⟩
 try dsimp only[List.cons_append,List.nil_append]
 have hW2:=hW1.flt hdf
 have hT:=Tours_laid bw bd ba bs 90 (by omega) N (by omega) es (by omega) hin (W.flt ((e%3000:Nat):Int)) cd2 ca1 cs1 hW2 f h lab fl (hL.flt _) hpa
 rw[hflv,hflv] at hT
 repeat(first|(refine st ?_;intros)|(refine cq hAw ?_)|(refine cq hFo ?_)|(refine cq hFe ?_)|(refine cq hWD ?_)|(refine cq hCl ?_))
 refine R.call (hct:=hT) (h:= ?_)
 rintro _ _ ⟨x,er,cd3,ca3,cs3,W3,rfl,rfl,hW3,hs3,hr3,hu3,hn3,ha3,hf3,hc⟩
 dsimp only[List.cons_append,List.nil_append]
 have hCl:∀b':Nat,total W3.σ.free+sumB [f,h,x]=9000→CtQ Tryz.prog 26 [pv bw,.slice (some ⟨b',0,none⟩) 3 3] [wrow bw bd ba bs,ca3,cs3,[(b',row [.int .i64 (f.first:Int),.int .i64 (f.blocks:Int),.int .i64 (f.width:Int),.int .i64 (f.count:Int),.int .i64 (h.first:Int),.int .i64 (h.blocks:Int),.int .i64 (h.width:Int),.int .i64 (h.count:Int),.int .i64 (x.first:Int),.int .i64 (x.blocks:Int),.int .i64 (x.width:Int),.int .i64 (x.count:Int)] 27)]] (.bool true):=fun b' ht=>
  clean16ct bw bd ba bs W3 ca3 cs3 hW3.ar hW3.sp (some ⟨b',0,none⟩) 3 3 [f,h,x] _ ⟨rfl,.inr ⟨b',0,_,_,_,rfl,rfl,rfl⟩⟩ (by omega) hu3 ht
 rcases hc with⟨rfl,_,_,_,hl3⟩|⟨rfl,rfl,_,hl3⟩
 ·have ht:=free_sum (fs:=[f,h,x]) hW3 hl3 hn3
  rw[hflv]
  repeat(first|(refine st ?_;intros)|(refine cq hAw ?_)|(refine cq hFo ?_)|(refine cq hFe ?_)|(refine cq hWD ?_)|(refine cq hCl ?_))
  (refine Dn.post (Hr:=[c]) Tryz.results6 (hR:= ?_);exact⟨rfl,rfl⟩)
 ·have ht0:=free_sum (fs:=[f,h]) hW3 hl3 hn3
  have ht:total W3.σ.free+sumB [f,h,⟨0,0,0,0⟩]=9000:=by
   rw[←ht0];simp[sumB]
  rw[hflv]
  repeat(first|(refine st ?_;intros)|(refine cq hAw ?_)|(refine cq hFo ?_)|(refine cq hFe ?_)|(refine cq hWD ?_)|(refine cq hCl ?_))
  (refine Dn.post (Hr:=[c]) Tryz.results6 (hR:= ?_);exact⟨rfl,rfl⟩)
end Go.Proofs.YtammjnjpheobaaaGreat
namespace Go.Proofs.YtammjnjpheobaaaGreat
open Go.ChangeShapes Go.WideShapes Go.ChangeAt Go.RowKit Go.SL Go.Tup
set_option maxRecDepth 100000 in
theorem TourFaults_lifted (os:Os) (started:os.Started) (H:Type) (enc:TypeId×Value→H):
  ReturnsInHanded {} Tryz.checked os 6 .any (Rows.tourFaultsSpec.pre6 enc Tryz.prog Tryz.f6 Rows.tourFaultsRow.domain false) (Rows.tourFaultsSpec.post enc Tryz.prog Tryz.f6 false true false false):=by
 refine returnsInHanded_of_change (C:=Tryz.checked) own started (by kernel_rfl) Tryz.func6
  (ChangeSpec.witness6 (enc:=enc) (C:=Tryz.checked) false ⟨#[],#[.agg #[.int .i64 0,.slice none 0 0],.int .u16 0],[]⟩ 8 (by kernel_rfl) (by kernel_rfl) (by kernel_rfl) (by kernel_rfl)) ?_
 intro W base args ds gs before hval0 hW hcnd _
 have hval:∀(j:Nat) t v,Tryz.f6.params[j]? =some t→args[j]? =some v→Value.okWide Tryz.prog W .any base t v:=hval0
 have hW':=hW
 obtain⟨p,q,hA0,hV,rfl,hfz,hnd⟩:=hW
 have hA:DataW.TrodAll enc Tryz.prog W 0 (fun _=>true) true Tryz.f6.params.toList args.toList ds p:=hA0
 rw[Tryz.params6] at hA hval
 obtain⟨rfl,rfl⟩:=trodVars_none hV
 obtain⟨v0,v1,d0,d1,p0,p1,rfl,rfl,rfl,h0,h1⟩:=trodAll_two hA
 obtain⟨n,p,m,cap,es,ch,rfl,hv,hm,hc,hnd'⟩:=open_graphR Tryz.underlying37 Tryz.underlying3 Tryz.underlying35 Tryz.underlying51 Tryz.underlying3 Tryz.underlying3 rfl rfl (by kernel_rfl) (by kernel_rfl) (by kernel_rfl) (by kernel_rfl) rfl rfl (by kernel_rfl) (by kernel_rfl) h0 (hval 0 _ v0 rfl rfl)
 obtain⟨e1,he1,rfl⟩:=openNat16 Tryz.underlying56 (hval 1 _ v1 rfl rfl)
 clear hA0 hval0
 refine(law_calls1 hc hnd' (TourFaults_ct n p m cap es ch hv hm e1 he1)).mono fun e W' ⟨he,hw⟩=> ?_
 subst he
 exact⟨_,rfl,lawPost hW' rfl rfl (by kernel_rfl) laidOut (by decide+kernel) rfl hw⟩
theorem TourFaults_holds:Rows.TourFaultsSaid:=
 OpenClaim.holds_of_wide 6 Tryz.f6 rfl rfl rfl rfl rfl rfl rfl ⟨rfl,rfl,rfl,rfl,rfl⟩ rfl rfl rfl rfl rfl (by kernel_rfl) Tryz.func6 (by kernel_rfl)
  (of_decide_eq_true (by kernel_rfl)) (by unfold Func.isWrapper;first|(rw[if_pos (by decide+kernel)];kernel_rfl)|(rw[if_neg (by decide+kernel)];exact⟨rfl,rfl⟩))
  (fun os started H enc _=>TourFaults_lifted os started H enc)
end Go.Proofs.YtammjnjpheobaaaGreat
