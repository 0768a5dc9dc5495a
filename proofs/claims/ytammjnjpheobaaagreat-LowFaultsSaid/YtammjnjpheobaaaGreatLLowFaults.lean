/-
  Parts of the proof, put together: LowFaults0, LowFaults. No condition.
-/
import Derived.Test.YtammjnjpheobaaaGreatL15
set_option linter.unusedVariables false
set_option linter.unusedSimpArgs false
set_option linter.unnecessarySimpa false
set_option maxHeartbeats 4000000
open Go.Proofs.Tryz renaming prog→AC,underlying3→CS,checked→DL
open Int renaming tmod_eq_emod_of_nonneg→CW
open List renaming cons_append→AA,nil_append→AB
open Nat renaming reduceAdd→AD
namespace Go.Proofs.YtammjnjpheobaaaGreat
open Go.SL Go.Spc Go.Tup Go.Srt Go.Gr
theorem aWc (n:Int) (p:Option Addr) (m cap:Nat) (es:List IE) (c:aAc) (hv:Rw ecl 2 p m es c) (hm:m≤maxLen) (e:Nat) (he:e<65536):
  CtQ AC 11 [gv n p m cap,.int .u16 (e:Int)] [c] (.bool true):=by
 have hflv:∀f:Fl,flv f= .agg #[.int .i64 (f.first:Int),.int .i64 (f.blocks:Int),.int .i64 (f.width:Int),.int .i64 (f.count:Int)]:=fun _=>rfl
 have hAw:=aIz
 have hFo:=aRa n p m cap es c hv hm
 have hFe:=bGc n p m cap 20 30 hm
 have hel:=hv.1
 have hWk:Ct AC 28 [.int .i64 9] [] fun v H'=>
  ∃bw bd ba bs cd ca cs,v=pv bw∧H'=[aAh bw bd ba bs,cd,ca,cs]∧Wc bd ba bs (wk0 10 9000 90) cd ca cs:=aJk 9 (by omega)
 have e4:IntKind.wrap .i64 ((e:Int).tmod 2000)=((e%2000:Nat):Int):=by rw[CW (by omega),aAd (by omega)];omega
 have e5:(e:Int).tmod 2000=((e%2000:Nat):Int):=by rw[CW (by omega)];omega
 unfold gv at hFo hFe⊢
 cases hfm:aCc n es with
 |false=>
  rw[hfm] at hFo
  refine Ct.intro Tryz.func11 rfl Tryz.ntmps11 (nle rfl) fun w0=> ?_;dsimp only[aAa,AD]
  repeat(first|(refine st ?_;intros)|(refine cq hAw ?_)|(refine cq hFo ?_)|(refine cq hFe ?_)|(refine cq hWD ?_)|(refine cq hCl ?_))
  (refine Dn.post (Hr:=[c]) Tryz.results11 (hR:= ?_);exact⟨rfl,rfl⟩)
 |true=>
 rw[hfm] at hFo
 by_cases hfew:n≤20∧(m:Int)≤30
 rotate_left
 ·rw[aCm hfew] at hFe
  refine Ct.intro Tryz.func11 rfl Tryz.ntmps11 (nle rfl) fun w0=> ?_;dsimp only[aAa,AD]
  repeat(first|(refine st ?_;intros)|(refine cq hAw ?_)|(refine cq hFo ?_)|(refine cq hFe ?_)|(refine cq hWD ?_)|(refine cq hCl ?_))
  (refine Dn.post (Hr:=[c]) Tryz.results11 (hR:= ?_);exact⟨rfl,rfl⟩)
 rw[aBq hfew] at hFe
 obtain⟨h0,hin⟩:=aLc hfm
 obtain⟨N,rfl⟩:∃N:Nat,n=(N:Int):=⟨n.toNat,by omega⟩
 have hOf:=aVz N (by omega) p m cap es c hv (by omega) hin
 have hO0:=Ons.fresh 9000 90
 have hg0:big (wk0 10 9000 90).σ.free=9000:=big0 10 9000 90
 unfold gv at hOf
 refine Ct.intro Tryz.func11 rfl Tryz.ntmps11 (nle rfl) fun w0=> ?_;dsimp only[aAa,AD]
 repeat(first|(refine st ?_;intros)|(refine cq hAw ?_)|(refine cq hFo ?_)|(refine cq hFe ?_)|(refine cq hWD ?_)|(refine cq hCl ?_))
 refine R.call (hct:=hWk) (h:= ?_)
 rintro _ _ ⟨bw,bd,ba,bs,cd,ca,cs,rfl,rfl,hW⟩
 try dsimp only[AA,AB]
 have hWD:=aGs bw bd ba bs
 repeat(first|(refine st ?_;intros)|(refine cq hAw ?_)|(refine cq hFo ?_)|(refine cq hFe ?_)|(refine cq hWD ?_)|(refine cq hCl ?_))
 refine R.call (hct:=hOf) (h:= ?_)
 rintro _ _ ⟨pe,ke,ce,pl,kl,cl,pf,nf,kf,cf,pt,nt,kt,ct,pz,kz,cz,lab,fl,r,b,tl,l,rfl,rfl,hOk⟩
 try dsimp only[AA,AB]
 have hP:=hOk.parts
 have hT:=hOk.tab
 have hle:=hP.for_le hin
 have hnf:(aCq (edT es) fl).length=nf:=hOk.f.1
 have hL1:=aHv (bw:=bw) (cap:=kz) (by omega) hW hO0 rfl (Nat.zero_le _) 5 (by omega) (by omega) hOk.o (by omega) (hT.okT (by omega)) (by omega)
 repeat(first|(refine st ?_;intros)|(refine cq hAw ?_)|(refine cq hFo ?_)|(refine cq hFe ?_)|(refine cq hWD ?_)|(refine cq hCl ?_))
 refine R.call (hct:=hL1) (h:= ?_)
 rintro _ _ ⟨cd1,ca1,cs1,W1,f1,rfl,rfl,hW1,hO1,hi1,w1,c1,ft1,a1,b1,k1⟩
 try dsimp only[AA,AB]
 rw[show(wk0 10 9000 90).δ.acts=0 from rfl] at a1
 have hL2:=aHv (bw:=bw) (cap:=kf) (by omega) hW1 hO1 ft1 (by omega) 3 (by omega) (by omega) hOk.f (by omega) (aNm hin (by omega) (by omega) fl) (by omega)
 rw[hflv]
 repeat(first|(refine st ?_;intros)|(refine cq hAw ?_)|(refine cq hFo ?_)|(refine cq hFe ?_)|(refine cq hWD ?_)|(refine cq hCl ?_))
 refine R.call (hct:=hL2) (h:= ?_)
 rintro _ _ ⟨cd2,ca2,cs2,W2,f2,rfl,rfl,hW2,hO2,hi2,w2,c2,ft2,a2,b2,k2⟩
 try dsimp only[AA,AB]
 have hL3:=aHv (bw:=bw) (cap:=ke) (by omega) hW2 hO2 ft2 (by omega) 3 (by omega) (by omega) hOk.e (by omega) (aPf hin (by omega) (by omega)) (by omega)
 rw[hel] at hL3
 rw[hflv]
 repeat(first|(refine st ?_;intros)|(refine cq hAw ?_)|(refine cq hFo ?_)|(refine cq hFe ?_)|(refine cq hWD ?_)|(refine cq hCl ?_))
 refine R.call (hct:=hL3) (h:= ?_)
 rintro _ _ ⟨cd3,ca3,cs3,W3,f3,rfl,rfl,hW3,hO3,hi3,w3,c3,ft3,a3,b3,k3⟩
 try dsimp only[AA,AB]
 have hSF:=aYg bd W3.δ cd3 hW3.dev ((e%2000:Nat):Int) (by omega)
 rw[hflv]
 repeat(first|(refine st ?_;intros)|(refine cq hAw ?_)|(refine cq hFo ?_)|(refine cq hFe ?_)|(refine cq hWD ?_)|(refine cq hCl ?_))
 refine R.call (hct:=hSF) (h:= ?_)
 rintro _ _ ⟨cd4,rfl,rfl,hdf⟩
 try dsimp only[AA,AB]
 have hW4:=hW3.flt hdf
 have hLo:=aVy bw bd ba bs 90 (by omega) N (by omega) es (by omega) hin (W3.flt ((e%2000:Nat):Int)) cd4 ca3 cs3 hW4 f1 f2 f3 (hO3.flt _) hP hT (k3 _ (k2 _ hi1)) (k3 _ hi2) hi3 w1 w2 w3 (by show W3.δ.acts≤300000;omega)
 rw[hflv,hflv,hflv] at hLo
 repeat(first|(refine st ?_;intros)|(refine cq hAw ?_)|(refine cq hFo ?_)|(refine cq hFe ?_)|(refine cq hWD ?_)|(refine cq hCl ?_))
 refine R.call (hct:=hLo) (h:= ?_)
 rintro _ _ ⟨x,er,cd5,ca5,cs5,W5,rfl,rfl,hW5,hu5,hn5,ha5,hf5,hc⟩
 dsimp only[AA,AB]
 have hCl:∀b':Nat,aBb W5.σ.free+aTc [f1,f2,f3,x]=9000→CtQ AC 35 [pv bw,.slice (some ⟨b',0,none⟩) 4 4] [aAh bw bd ba bs,ca5,cs5,[(b',row [.int .i64 (f1.first:Int),.int .i64 (f1.blocks:Int),.int .i64 (f1.width:Int),.int .i64 (f1.count:Int),.int .i64 (f2.first:Int),.int .i64 (f2.blocks:Int),.int .i64 (f2.width:Int),.int .i64 (f2.count:Int),.int .i64 (f3.first:Int),.int .i64 (f3.blocks:Int),.int .i64 (f3.width:Int),.int .i64 (f3.count:Int),.int .i64 (x.first:Int),.int .i64 (x.blocks:Int),.int .i64 (x.width:Int),.int .i64 (x.count:Int)] 27)]] (.bool true):=fun b' ht=>
  aWa bw bd ba bs W5 ca5 cs5 hW5.ar hW5.sp (some ⟨b',0,none⟩) 4 4 [f1,f2,f3,x] _ ⟨rfl,.inr ⟨b',0,_,_,_,rfl,rfl,rfl⟩⟩ (by omega) hu5 ht
 rcases hc with⟨rfl,_,_,_,hO5⟩|⟨rfl,rfl,_,hl5⟩
 ·have ht:=aSy (fs:=[f1,f2,f3,x]) hW5 hO5.live hn5
  rw[hflv]
  repeat(first|(refine st ?_;intros)|(refine cq hAw ?_)|(refine cq hFo ?_)|(refine cq hFe ?_)|(refine cq hWD ?_)|(refine cq hCl ?_))
  (refine Dn.post (Hr:=[c]) Tryz.results11 (hR:= ?_);exact⟨rfl,rfl⟩)
 ·have ht0:=aSy (fs:=[f1,f2,f3]) hW5 hl5 hn5
  have ht:aBb W5.σ.free+aTc [f1,f2,f3,⟨0,0,0,0⟩]=9000:=by
   rw[←ht0];simp[aTc]
  rw[hflv]
  repeat(first|(refine st ?_;intros)|(refine cq hAw ?_)|(refine cq hFo ?_)|(refine cq hFe ?_)|(refine cq hWD ?_)|(refine cq hCl ?_))
  (refine Dn.post (Hr:=[c]) Tryz.results11 (hR:= ?_);exact⟨rfl,rfl⟩)
open Go.ChangeShapes Go.WideShapes Go.ChangeAt Go.RowKit
set_option maxRecDepth 100000 in
theorem LowFaults_lifted (os:Os) (started:os.Started) (H:Type) (enc:TypeId×Value→H):
  ReturnsInHanded {} DL os 11 .any (Rows.lowFaultsSpec.pre6 enc AC Tryz.f11 Rows.lowFaultsRow.domain false) (Rows.lowFaultsSpec.post enc AC Tryz.f11 false true false false):=by
 refine returnsInHanded_of_change (C:=DL) own started (by kernel_rfl) Tryz.func11
  (ChangeSpec.witness6 (enc:=enc) (C:=DL) false ⟨#[],#[.agg #[.int .i64 0,.slice none 0 0],.int .u16 0],[]⟩ 8 (by kernel_rfl) (by kernel_rfl) (by kernel_rfl) (by kernel_rfl)) ?_
 intro W base args ds gs before hval0 hW hcnd _
 have hval:∀(j:Nat) t v,Tryz.f11.params[j]? =some t→args[j]? =some v→Value.okWide AC W .any base t v:=hval0
 have hW':=hW
 obtain⟨p,q,hA0,hV,rfl,hfz,hnd⟩:=hW
 have hA:DataW.TrodAll enc AC W 0 (fun _=>true) true Tryz.f11.params.toList args.toList ds p:=hA0
 rw[Tryz.params11] at hA hval
 obtain⟨rfl,rfl⟩:=trodVars_none hV
 obtain⟨v0,v1,d0,d1,p0,p1,rfl,rfl,rfl,h0,h1⟩:=trodAll_two hA
 obtain⟨n,p,m,cap,es,ch,rfl,hv,hm,hc,hnd'⟩:=aHw Tryz.underlying37 CS Tryz.underlying35 Tryz.underlying51 CS CS rfl rfl (by kernel_rfl) (by kernel_rfl) (by kernel_rfl) (by kernel_rfl) rfl rfl (by kernel_rfl) (by kernel_rfl) h0 (hval 0 _ v0 rfl rfl)
 obtain⟨e1,he1,rfl⟩:=bHh Tryz.underlying56 (hval 1 _ v1 rfl rfl)
 clear hA0 hval0
 refine(aJl hc hnd' (aWc n p m cap es ch hv hm e1 he1)).mono fun e W' ⟨he,hw⟩=> ?_
 subst he
 exact⟨_,rfl,aPi hW' rfl rfl (by kernel_rfl) aPh (by decide+kernel) rfl hw⟩
theorem LowFaults_holds:Rows.LowFaultsSaid:=
 OpenClaim.holds_of_wide 11 Tryz.f11 rfl rfl rfl rfl rfl rfl rfl ⟨rfl,rfl,rfl,rfl,rfl⟩ rfl rfl rfl rfl rfl (by kernel_rfl) Tryz.func11 (by kernel_rfl)
  (of_decide_eq_true (by kernel_rfl)) (by unfold Func.isWrapper;first|(rw[if_pos (by decide+kernel)];kernel_rfl)|(rw[if_neg (by decide+kernel)];exact⟨rfl,rfl⟩))
  (fun os started H enc _=>LowFaults_lifted os started H enc)
end Go.Proofs.YtammjnjpheobaaaGreat
