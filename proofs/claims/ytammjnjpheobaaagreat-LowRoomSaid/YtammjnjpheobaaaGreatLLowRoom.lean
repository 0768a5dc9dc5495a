/-
  Parts of the proof, put together: LowRoom0, LowRoom. No condition.
-/
import Derived.Test.YtammjnjpheobaaaGreatL15
set_option linter.unusedVariables false
set_option linter.unusedSimpArgs false
set_option linter.unnecessarySimpa false
set_option maxHeartbeats 4000000
open Go.IntKind renaming wrap→AH
open Go.Proofs.Tryz renaming prog→AC,checked→DL
open Int renaming tmod_eq_emod_of_nonneg→CW
open List renaming cons_append→AA,nil_append→AB
namespace Go.Proofs.YtammjnjpheobaaaGreat
open Go.SL Go.Spc Go.Tup Go.Srt
theorem bCh (r:Nat) (hr:r<256) (a0 a1 a2:Nat) (h0:a0<256) (h1:a1<256) (h2:a2<256):CtQ AC 7 [.int .u8 (r:Int),.agg #[.int .u8 (a0:Int),.int .u8 (a1:Int),.int .u8 (a2:Int)]] [] (.bool true):=by
 have hAw:=aIz
 have hWk:=aJk (r%12) (by omega)
 have e1:AH .i64 ((r:Int).tmod 12)=((r%12:Nat):Int):=by rw[CW (by omega),aAd (by omega)];omega
 have e2:(r:Int).tmod 12=((r%12:Nat):Int):=by rw[CW (by omega)];omega
 have e3:∀a:Nat,a<256→AH .i64 ((a:Int).tmod 5)=((a%5:Nat):Int):=fun a ha=>by rw[CW (by omega),aAd (by omega)];omega
 have e4:∀a:Nat,AH .i64 ((1:Int)+((a%5:Nat):Int))=((1+a%5:Nat):Int):=fun a=>by rw[aAd (by omega)];omega
 have f0:=e3 a0 h0;have f1:=e3 a1 h1;have f2:=e3 a2 h2;have g0:=e4 a0;have g1:=e4 a1;have g2:=e4 a2
 have hfa:∀a:Nat,flv ⟨0,0,a,0⟩= .agg #[.int .i64 0,.int .i64 0,.int .i64 (a:Int),.int .i64 0]:=fun _=>rfl
 have hz:flv ⟨0,0,0,0⟩= .agg #[.int .i64 0,.int .i64 0,.int .i64 0,.int .i64 0]:=rfl
 have hTn:CtQ AC 29 [.pointer none,.agg #[.int .i64 0,.int .i64 0,.int .i64 5,.int .i64 0],.agg #[.int .i64 0,.int .i64 0,.int .i64 3,.int .i64 0],.agg #[.int .i64 0,.int .i64 0,.int .i64 3,.int .i64 0]] [] (.tuple #[.agg #[.int .i64 0,.int .i64 0,.int .i64 0,.int .i64 0],.int .i64 1]):=bKc ⟨0,0,5,0⟩ ⟨0,0,3,0⟩ ⟨0,0,3,0⟩ rfl rfl rfl
 generalize ha:1+a0%5=a at*
 generalize hb:1+a1%5=b at*
 generalize hc:1+a2%5=c at*
 refine Ct.intro Tryz.func7 rfl Tryz.ntmps7 (nle rfl) fun w0=> ?_;dsimp only[aAa,Nat.reduceAdd]
 repeat(first|(refine st ?_;intros)|refine G.draw [] (h:= ?_)|(refine cq hAw ?_)|(refine cq hWA ?_)|(refine cq hUs ?_))
 refine R.call (hct:=hWk) (h:= ?_)
 rintro _ _ ⟨bw,bd,ba,bs,cd,ca,cs,rfl,rfl,hW⟩
 try dsimp only[AA,AB]
 have hWA:=aGt bw bd ba bs
 by_cases hw:a=5∧b=3∧c=3
 ·obtain⟨rfl,rfl,rfl⟩:=hw
  have hT:=aXx bw bd ba bs _ cd ca cs hW ⟨0,0,5,0⟩ ⟨0,0,3,0⟩ ⟨0,0,3,0⟩ [] [] [] (aLb hW.dev (by omega) (by omega)) (aLb hW.dev (by omega) (by omega)) (aLb hW.dev (by omega) (by omega)) rfl rfl rfl (by simp) (by simp) (by simp) 2 10 2 10 (by decide) (by decide) (by decide) (by decide) (by decide) (by decide+kernel) (by decide) (by decide+kernel) (by decide+kernel) (by decide) (by decide+kernel) (by decide) (by show 10*(0+9)+(8*2+0)≤9000;omega) (by show 10*(0+11)+(2*2+(8*2+0))≤9000;omega) (Nat.zero_le _)
  rw[show bOi [] [] []=none by decide+kernel] at hT
  rw[hfa,hfa] at hT
  repeat(first|(refine st ?_;intros)|refine G.draw [] (h:= ?_)|(refine cq hAw ?_)|(refine cq hWA ?_)|(refine cq hUs ?_))
  refine R.call (hct:=hT) (h:= ?_)
  rintro _ _ (⟨hrm,x,e,cd3,ca3,cs3,W3,rfl,rfl,hW3,hS3,hw3⟩|⟨hsm,rfl,ca3,α3,rfl,hW3,hg3,hr3⟩)
  ·dsimp only[AA,AB]
   obtain⟨rfl,_⟩:=aRc hS3 rfl
   have hrm2:8*10≤10*(r%12)-0:=hrm
   have hu0:W3.α.used=0:=aKb hW hW3 hS3.gs
   have hfx:flv x= .agg #[.int .i64 (x.first:Int),.int .i64 (x.blocks:Int),.int .i64 (x.width:Int),.int .i64 (x.count:Int)]:=rfl
   rw[hfx]
   have hUs:=bHy ba _ ca3 hW3.ar
   rw[hu0] at hUs
   repeat(first|(refine st ?_;intros)|refine G.draw [] (h:= ?_)|(refine cq hAw ?_)|(refine cq hWA ?_)|(refine cq hUs ?_))
   refine R.call (hct:=hTn) (h:= ?_)
   rintro _ _ ⟨rfl,rfl⟩
   try dsimp only[AA,AB]
   repeat(first|(refine st ?_;intros)|refine G.draw [] (h:= ?_)|(refine cq hAw ?_)|(refine cq hWA ?_)|(refine cq hUs ?_))
   (refine Dn.post (Hr:=[]) Tryz.results7 (hR:= ?_);exact⟨congrArg Value.bool (aBq rfl),rfl⟩)
  ·dsimp only[AA,AB]
   have hrm2:10*(r%12)-0<8*10:=hsm
   have hu0:α3.used=0:=aKb hW hW3 hg3
   rw[hz]
   have hUs:=bHy ba _ ca3 hW3.ar
   rw[show({wk0 10 9000 (10*(r%12)) with α:=α3}:Wk).α.used=0 from hu0] at hUs
   repeat(first|(refine st ?_;intros)|refine G.draw [] (h:= ?_)|(refine cq hAw ?_)|(refine cq hWA ?_)|(refine cq hUs ?_))
   refine R.call (hct:=hTn) (h:= ?_)
   rintro _ _ ⟨rfl,rfl⟩
   try dsimp only[AA,AB]
   repeat(first|(refine st ?_;intros)|refine G.draw [] (h:= ?_)|(refine cq hAw ?_)|(refine cq hWA ?_)|(refine cq hUs ?_))
   (refine Dn.post (Hr:=[]) Tryz.results7 (hR:= ?_);exact⟨congrArg Value.bool (aBq rfl),rfl⟩)
 ·have hT:=bCe ⟨0,0,a,0⟩ ⟨0,0,b,0⟩ ⟨0,0,c,0⟩ hw (pv bw)
  rw[hfa,hfa,hfa,hz] at hT
  have hu0:(wk0 10 9000 (10*(r%12))).α.used=0:=rfl
  have hUs:=bHy ba _ ca hW.ar
  rw[hu0] at hUs
  by_cases ha2:a=5
  ·by_cases hb2:b=3
   ·have hb5:c≠3:=fun h=>hw ⟨ha2,hb2,h⟩
    repeat(first|(refine st ?_;intros)|refine G.draw [] (h:= ?_)|(refine cq hAw ?_)|(refine cq hWA ?_)|(refine cq hUs ?_))
    refine R.call (hct:=hT) (h:= ?_)
    rintro _ _ ⟨rfl,rfl⟩
    try dsimp only[AA,AB]
    repeat(first|(refine st ?_;intros)|refine G.draw [] (h:= ?_)|(refine cq hAw ?_)|(refine cq hWA ?_)|(refine cq hUs ?_))
    refine R.call (hct:=hTn) (h:= ?_)
    rintro _ _ ⟨rfl,rfl⟩
    try dsimp only[AA,AB]
    repeat(first|(refine st ?_;intros)|refine G.draw [] (h:= ?_)|(refine cq hAw ?_)|(refine cq hWA ?_)|(refine cq hUs ?_))
    (refine Dn.post (Hr:=[]) Tryz.results7 (hR:= ?_);exact⟨congrArg Value.bool (aBq rfl),rfl⟩)
   ·repeat(first|(refine st ?_;intros)|refine G.draw [] (h:= ?_)|(refine cq hAw ?_)|(refine cq hWA ?_)|(refine cq hUs ?_))
    refine R.call (hct:=hT) (h:= ?_)
    rintro _ _ ⟨rfl,rfl⟩
    try dsimp only[AA,AB]
    repeat(first|(refine st ?_;intros)|refine G.draw [] (h:= ?_)|(refine cq hAw ?_)|(refine cq hWA ?_)|(refine cq hUs ?_))
    refine R.call (hct:=hTn) (h:= ?_)
    rintro _ _ ⟨rfl,rfl⟩
    try dsimp only[AA,AB]
    repeat(first|(refine st ?_;intros)|refine G.draw [] (h:= ?_)|(refine cq hAw ?_)|(refine cq hWA ?_)|(refine cq hUs ?_))
    (refine Dn.post (Hr:=[]) Tryz.results7 (hR:= ?_);exact⟨congrArg Value.bool (aBq rfl),rfl⟩)
  ·repeat(first|(refine st ?_;intros)|refine G.draw [] (h:= ?_)|(refine cq hAw ?_)|(refine cq hWA ?_)|(refine cq hUs ?_))
   refine R.call (hct:=hT) (h:= ?_)
   rintro _ _ ⟨rfl,rfl⟩
   try dsimp only[AA,AB]
   repeat(first|(refine st ?_;intros)|refine G.draw [] (h:= ?_)|(refine cq hAw ?_)|(refine cq hWA ?_)|(refine cq hUs ?_))
   refine R.call (hct:=hTn) (h:= ?_)
   rintro _ _ ⟨rfl,rfl⟩
   try dsimp only[AA,AB]
   repeat(first|(refine st ?_;intros)|refine G.draw [] (h:= ?_)|(refine cq hAw ?_)|(refine cq hWA ?_)|(refine cq hUs ?_))
   (refine Dn.post (Hr:=[]) Tryz.results7 (hR:= ?_);exact⟨congrArg Value.bool (aBq rfl),rfl⟩)
open Go.ChangeShapes Go.WideShapes Go.ChangeAt Go.RowKit
set_option maxRecDepth 100000 in
theorem LowRoom_lifted (os:Os) (started:os.Started) (H:Type) (enc:TypeId×Value→H):
  ReturnsInHanded {} DL os 7 .any (Rows.lowRoomSpec.pre6 enc AC Tryz.f7 Rows.lowRoomRow.domain false) (Rows.lowRoomSpec.post enc AC Tryz.f7 false true false false):=by
 refine returnsInHanded_of_change (C:=DL) own started (by kernel_rfl) Tryz.func7
  (ChangeSpec.witness6 (enc:=enc) (C:=DL) false ⟨#[],#[.int .u8 0,.agg #[.int .u8 0,.int .u8 0,.int .u8 0]],[]⟩ 8 (by kernel_rfl) (by kernel_rfl) (by kernel_rfl) (by kernel_rfl)) ?_
 intro W base args ds gs before hval0 hW hcnd _
 have hval:∀(j:Nat) t v,Tryz.f7.params[j]? =some t→args[j]? =some v→Value.okWide AC W .any base t v:=hval0
 have hW':=hW
 obtain⟨p,q,hA0,hV,rfl,hfz,hnd⟩:=hW
 have hA:DataW.TrodAll enc AC W 0 (fun _=>true) true Tryz.f7.params.toList args.toList ds p:=hA0
 rw[Tryz.params7] at hA hval
 obtain⟨rfl,rfl⟩:=trodVars_none hV
 obtain⟨v0,v1,d0,d1,p0,p1,rfl,rfl,rfl,h0,h1⟩:=trodAll_two hA
 obtain⟨e0,he0,rfl⟩:=aNo Tryz.underlying5 (hval 0 _ v0 rfl rfl)
 obtain⟨l,hll,hlr,rfl⟩:=openU8 (n:=3) (.inr ⟨_,_,Tryz.underlying63⟩) (by kernel_rfl) (by kernel_rfl) Tryz.underlying5 (hval 1 _ v1 rfl rfl)
 obtain⟨a,l1,rfl,hl1⟩:=bHg hll
 obtain⟨b,l2,rfl,hl2⟩:=bHg hl1
 obtain⟨c,l3,rfl,hl3⟩:=bHg hl2
 obtain rfl:=List.eq_nil_of_length_eq_zero hl3
 clear hA0 hval0
 refine(bHf (bCh e0 he0 a b c (hlr a (by simp)) (hlr b (by simp)) (hlr c (by simp))) W).mono fun e W' ⟨he,hw⟩=> ?_
 subst he
 exact⟨_,rfl,aPi hW' rfl rfl (by kernel_rfl) aPh (by decide+kernel) rfl hw⟩
theorem LowRoom_holds:Rows.LowRoomSaid:=
 OpenClaim.holds_of_wide 7 Tryz.f7 rfl rfl rfl rfl rfl rfl rfl ⟨rfl,rfl,rfl,rfl,rfl⟩ rfl rfl rfl rfl rfl (by kernel_rfl) Tryz.func7 (by kernel_rfl)
  (of_decide_eq_true (by kernel_rfl)) (by unfold Func.isWrapper;first|(rw[if_pos (by decide+kernel)];kernel_rfl)|(rw[if_neg (by decide+kernel)];exact⟨rfl,rfl⟩))
  (fun os started H enc _=>LowRoom_lifted os started H enc)
end Go.Proofs.YtammjnjpheobaaaGreat
