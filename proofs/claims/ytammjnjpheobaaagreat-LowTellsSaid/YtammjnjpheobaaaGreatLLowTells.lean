/-
  Parts of the proof, put together: LowTells0, LowTells. No condition.
-/
import Derived.Test.YtammjnjpheobaaaGreatL15
set_option linter.unusedVariables false
set_option linter.unusedSimpArgs false
set_option linter.unnecessarySimpa false
set_option maxHeartbeats 4000000
open Bool renaming true_and→DO
open Go.IntKind renaming wrap→AH
open Go.Proofs.Tryz renaming prog→AC,underlying3→CS,checked→DL
open List renaming cons_append→AA,nil_append→AB
open Nat renaming reduceAdd→AD
namespace Go.Proofs.YtammjnjpheobaaaGreat
open Go.SL Go.Spc Go.Tup Go.Srt Go.Gr
theorem aYv (n:Int) (p:Option Addr) (m cap:Nat) (es:List IE) (c:aAc) (hv:Rw ecl 2 p m es c) (hm:m≤maxLen) (e:Nat) (he:e<256):
  CtQ AC 12 [gv n p m cap,.int .u8 (e:Int)] [c] (.bool true):=by
 have hAw:=aIz
 have hel:=hv.1
 have hSm:=aPj n p m cap es c hv hm
 obtain⟨k,hk⟩:∃k:Nat,k=e%33:=⟨_,rfl⟩
 have e5:(e:Int).tmod 33=(k:Int):=by rw[Int.tmod_eq_emod_of_nonneg (by omega)];omega
 have e4:AH .i64 ((e:Int).tmod 33)=(k:Int):=by rw[e5];exact aAd (by omega)
 have e6:AH .i64 (8+(k:Int))=((8+k:Nat):Int):=by rw[aAd (by omega)];omega
 have hk33:k<33:=by omega
 clear hk
 have hWk:Ct AC 28 [.int .i64 ((8+k:Nat):Int)] [] fun v H'=>
  ∃bw bd ba bs cd ca cs,v=pv bw∧H'=[aAh bw bd ba bs,cd,ca,cs]∧Wc bd ba bs (wk0 10 9000 (10*(8+k))) cd ca cs:=aJk (8+k) (by omega)
 by_cases hs:aCc n es=true∧n≤40∧(m:Int)≤70
 rotate_left
 ·have hSm:=hSm false (by
   cases hfm:aCc n es with
   |false=>rfl
   |true=>rw[DO,decide_eq_false fun h=>hs ⟨hfm,h⟩])
  unfold gv at hSm⊢
  refine Ct.intro Tryz.func12 rfl Tryz.ntmps12 (nle rfl) fun w0=> ?_;dsimp only[aAa,AD]
  repeat(first|(refine st ?_;intros)|(refine cq hAw ?_)|(refine cq hSm ?_)|(refine cq hCl ?_)|(refine cq hSa ?_))
  (refine Dn.post (Hr:=[c]) Tryz.results12 (hR:= ?_);exact⟨rfl,rfl⟩)
 obtain⟨hfm,hfew⟩:=hs
 have hSm:=hSm true (by rw[hfm,DO,decide_eq_true hfew])
 obtain⟨h0,hin⟩:=aLc hfm
 obtain⟨N,rfl⟩:∃N:Nat,n=(N:Int):=⟨n.toNat,by omega⟩
 have hLo:=fun bw bd ba bs cd ca cs hW=>aNn bw bd ba bs (10*(8+k)) (by omega) cd ca cs hW N (by omega) p m cap es c hv (by omega) hin
 have hOf:=aVz N (by omega) p m cap es c hv (by omega) hin
 unfold gv at hSm hLo hOf⊢
 refine Ct.intro Tryz.func12 rfl Tryz.ntmps12 (nle rfl) fun w0=> ?_;dsimp only[aAa,AD]
 repeat(first|(refine st ?_;intros)|(refine cq hAw ?_)|(refine cq hSm ?_)|(refine cq hCl ?_)|(refine cq hSa ?_))
 refine R.call (hct:=hWk) (h:= ?_)
 rintro _ _ ⟨bw,bd,ba,bs,cd,ca,cs,rfl,rfl,hW⟩
 try dsimp only[AA,AB]
 have hLo:=hLo bw bd ba bs cd ca cs hW
 repeat(first|(refine st ?_;intros)|(refine cq hAw ?_)|(refine cq hSm ?_)|(refine cq hCl ?_)|(refine cq hSa ?_))
 refine R.call (hct:=hLo) (h:= ?_)
 rintro _ _ ⟨cd1,ca1,cs1,W1,po,oc,co,bq,qs,fs,lab,fl,r,b,tl,l,o,rfl,rfl,hW1,hqs,hO1,hVo,hP,hT,hLw,hls⟩
 try dsimp only[AA,AB]
 repeat(first|(refine st ?_;intros)|(refine cq hAw ?_)|(refine cq hSm ?_)|(refine cq hCl ?_)|(refine cq hSa ?_))
 refine R.call (hct:=hOf) (h:= ?_)
 rintro _ _ ⟨pe,ke,ce,pl,kl,cl,pf,nf,kf,cf,pt,nt,kt,ct,pz,kz,cz,lab2,fl2,r2,b2,tl2,l2,rfl,rfl,hOk⟩
 try dsimp only[AA,AB]
 obtain⟨rfl,rfl⟩:=hOk.parts.uniq hP
 obtain rfl:=aSz hP.fors hOk.parts.fors
 obtain rfl:l=l2:=hls.symm.trans hOk.lis
 have hLr:=bKf N (by omega) es (by omega) hin pe ke ce pl N kl pf nf kf cf pt nt kt pz kz cz hOk.e hOk.f hOk.o hP hT
 rw[hel] at hLr
 repeat(first|(refine st ?_;intros)|(refine cq hAw ?_)|(refine cq hSm ?_)|(refine cq hCl ?_)|(refine cq hSa ?_))
 refine R.call (hct:=hLr) (h:= ?_)
 rintro _ _ ⟨bx,o2,rfl,rfl,hLw2⟩
 try dsimp only[AA,AB]
 obtain rfl:=hLw.uniq hT hLw2
 have hSa:=bNc po N oc o co (RV.vec hVo) (by omega) (some ⟨bx,0,none⟩) N N o _ (RV.row hLw.len)
 rw[decide_eq_true rfl] at hSa
 have hCl:=aWa bw bd ba bs W1 ca1 cs1 hW1.ar hW1.sp (some ⟨bq,0,none⟩) 4 4 fs qs hqs (by omega) hO1.used (aSy hW1 hO1.live hO1.n)
 repeat(first|(refine st ?_;intros)|(refine cq hAw ?_)|(refine cq hSm ?_)|(refine cq hCl ?_)|(refine cq hSa ?_))
 (refine Dn.post (Hr:=[c]) Tryz.results12 (hR:= ?_);exact⟨rfl,rfl⟩)
open Go.ChangeShapes Go.WideShapes Go.ChangeAt Go.RowKit
set_option maxRecDepth 100000 in
theorem LowTells_lifted (os:Os) (started:os.Started) (H:Type) (enc:TypeId×Value→H):
  ReturnsInHanded {} DL os 12 .any (Rows.lowTellsSpec.pre6 enc AC Tryz.f12 Rows.lowTellsRow.domain false) (Rows.lowTellsSpec.post enc AC Tryz.f12 false true false false):=by
 refine returnsInHanded_of_change (C:=DL) own started (by kernel_rfl) Tryz.func12
  (ChangeSpec.witness6 (enc:=enc) (C:=DL) false ⟨#[],#[.agg #[.int .i64 0,.slice none 0 0],.int .u8 0],[]⟩ 8 (by kernel_rfl) (by kernel_rfl) (by kernel_rfl) (by kernel_rfl)) ?_
 intro W base args ds gs before hval0 hW hcnd _
 have hval:∀(j:Nat) t v,Tryz.f12.params[j]? =some t→args[j]? =some v→Value.okWide AC W .any base t v:=hval0
 have hW':=hW
 obtain⟨p,q,hA0,hV,rfl,hfz,hnd⟩:=hW
 have hA:DataW.TrodAll enc AC W 0 (fun _=>true) true Tryz.f12.params.toList args.toList ds p:=hA0
 rw[Tryz.params12] at hA hval
 obtain⟨rfl,rfl⟩:=trodVars_none hV
 obtain⟨v0,v1,d0,d1,p0,p1,rfl,rfl,rfl,h0,h1⟩:=trodAll_two hA
 obtain⟨n,p,m,cap,es,ch,rfl,hv,hm,hc,hnd'⟩:=aHw Tryz.underlying37 CS Tryz.underlying35 Tryz.underlying51 CS CS rfl rfl (by kernel_rfl) (by kernel_rfl) (by kernel_rfl) (by kernel_rfl) rfl rfl (by kernel_rfl) (by kernel_rfl) h0 (hval 0 _ v0 rfl rfl)
 obtain⟨e1,he1,rfl⟩:=aNo Tryz.underlying5 (hval 1 _ v1 rfl rfl)
 clear hA0 hval0
 refine(aJl hc hnd' (aYv n p m cap es ch hv hm e1 he1)).mono fun e W' ⟨he,hw⟩=> ?_
 subst he
 exact⟨_,rfl,aPi hW' rfl rfl (by kernel_rfl) aPh (by decide+kernel) rfl hw⟩
theorem LowTells_holds:Rows.LowTellsSaid:=
 OpenClaim.holds_of_wide 12 Tryz.f12 rfl rfl rfl rfl rfl rfl rfl ⟨rfl,rfl,rfl,rfl,rfl⟩ rfl rfl rfl rfl rfl (by kernel_rfl) Tryz.func12 (by kernel_rfl)
  (of_decide_eq_true (by kernel_rfl)) (by unfold Func.isWrapper;first|(rw[if_pos (by decide+kernel)];kernel_rfl)|(rw[if_neg (by decide+kernel)];exact⟨rfl,rfl⟩))
  (fun os started H enc _=>LowTells_lifted os started H enc)
end Go.Proofs.YtammjnjpheobaaaGreat
