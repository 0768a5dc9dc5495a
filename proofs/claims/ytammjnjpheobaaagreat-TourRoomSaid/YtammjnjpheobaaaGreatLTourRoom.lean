/-
  Parts of the proof, put together: TourRoom0, TourRoom. No condition.
-/
import Derived.Test.YtammjnjpheobaaaGreatK30
set_option linter.unusedVariables false
set_option linter.unusedSimpArgs false
set_option linter.unnecessarySimpa false
set_option maxHeartbeats 4000000
namespace Go.Proofs.YtammjnjpheobaaaGreat
open Go.SL Go.Spc Go.Tup Go.Srt
theorem TourRoom_ct (r:Nat) (hr:r<256) (a0 a1:Nat) (h0:a0<256) (h1:a1<256):CtQ Tryz.prog 3 [.int .u8 (r:Int),.agg #[.int .u8 (a0:Int),.int .u8 (a1:Int)]] [] (.bool true):=by
 have hAw:=awake16ct
 have hWk:=work16ct (r%12) (by omega)
 have e1:IntKind.wrap .i64 ((r:Int).tmod 12)=((r%12:Nat):Int):=by rw[Int.tmod_eq_emod_of_nonneg (by omega),wrap_i64 (by omega)];omega
 have e2:(r:Int).tmod 12=((r%12:Nat):Int):=by rw[Int.tmod_eq_emod_of_nonneg (by omega)];omega
 have e3:∀a:Nat,a<256→IntKind.wrap .i64 ((a:Int).tmod 5)=((a%5:Nat):Int):=fun a ha=>by rw[Int.tmod_eq_emod_of_nonneg (by omega),wrap_i64 (by omega)];omega
 have e4:∀a:Nat,IntKind.wrap .i64 ((1:Int)+((a%5:Nat):Int))=((1+a%5:Nat):Int):=fun a=>by rw[wrap_i64 (by omega)];omega
 have f0:=e3 a0 h0;have f1:=e3 a1 h1;have g0:=e4 a0;have g1:=e4 a1
 have hfa:∀a:Nat,flv ⟨0,0,a,0⟩= .agg #[.int .i64 0,.int .i64 0,.int .i64 (a:Int),.int .i64 0]:=fun _=>rfl
 have hz:flv ⟨0,0,0,0⟩= .agg #[.int .i64 0,.int .i64 0,.int .i64 0,.int .i64 0]:=rfl
 have hz1:flv ⟨0,1,2,0⟩= .agg #[.int .i64 0,.int .i64 1,.int .i64 2,.int .i64 0]:=rfl
 have hTn:CtQ Tryz.prog 15 [.pointer none,.agg #[.int .i64 0,.int .i64 0,.int .i64 2,.int .i64 0],.agg #[.int .i64 0,.int .i64 0,.int .i64 3,.int .i64 0]] [] (.tuple #[.agg #[.int .i64 0,.int .i64 0,.int .i64 0,.int .i64 0],.int .i64 1]):=Tours_nil ⟨0,0,2,0⟩ ⟨0,0,3,0⟩ rfl rfl
 have hTa:∀(bw bd ba bs:Nat) (W:Wk) (cd ca cs:Chunk),Wc bd ba bs W cd ca cs→W.δ.size=10→Ct Tryz.prog 15 [pv bw,.agg #[.int .i64 0,.int .i64 0,.int .i64 2,.int .i64 0],.agg #[.int .i64 0,.int .i64 0,.int .i64 3,.int .i64 9]] [wrow bw bd ba bs,cd,ca,cs] fun v H'=>∃ca' α',Wc bd ba bs {W with α:=α'} cd ca' cs∧α'.gs.Perm W.α.gs∧α'.room=W.α.room∧v= .tuple #[.agg #[.int .i64 0,.int .i64 0,.int .i64 0,.int .i64 0],.int .i64 1]∧H'=[wrow bw bd ba bs,cd,ca',cs]:=by
  intro bw bd ba bs W cd ca cs hW hs
  exact Tours_bad bw bd ba bs W cd ca cs hW ⟨0,0,2,0⟩ ⟨0,0,3,9⟩ [] (file_zero hW.dev (by omega) (by omega)) rfl rfl fun α' ca' h=>Read_arg bw bd ba bs _ cd ca' cs h ⟨0,0,3,9⟩ (by decide) (by decide) (by decide) (by show 0≠nblocks W.δ.size 3 9;rw[hs];decide)
 generalize ha:1+a0%5=a at*
 generalize hb:1+a1%5=b at*
 refine Ct.intro Tryz.func3 rfl Tryz.ntmps3 (nle rfl) fun w0=> ?_;dsimp only[argSlots,Nat.reduceAdd]
 repeat(first|(refine st ?_;intros)|refine G.draw [] (h:= ?_)|(refine cq hAw ?_)|(refine cq hWA ?_)|(refine cq hUs ?_))
 refine R.call (hct:=hWk) (h:= ?_)
 rintro _ _ ⟨bw,bd,ba,bs,cd,ca,cs,rfl,rfl,hW⟩
 try dsimp only[List.cons_append,List.nil_append]
 have hWA:=WArena_ct bw bd ba bs
 by_cases hw:a=2∧b=3
 ·obtain⟨rfl,rfl⟩:=hw
  have hT:=Tours_ct bw bd ba bs _ cd ca cs hW ⟨0,0,2,0⟩ ⟨0,0,3,0⟩ [] [] (file_zero hW.dev (by omega) (by omega)) (file_zero hW.dev (by omega) (by omega)) rfl rfl (by simp) 2 2 10 10 (by decide) (by decide) (by decide) (by decide) (by decide) (by decide) (by decide+kernel) (by decide) (by decide+kernel) (by show 10*(0+7)+(6*2+0)≤9000;omega) (by show 10*(0+12)+(11*2+0)≤9000;omega) (Nat.zero_le _)
  rw[show errR (lnkL (namL [] []))=none by decide+kernel] at hT
  rw[hfa,hfa] at hT
  repeat(first|(refine st ?_;intros)|refine G.draw [] (h:= ?_)|(refine cq hAw ?_)|(refine cq hWA ?_)|(refine cq hUs ?_))
  refine R.call (hct:=hT) (h:= ?_)
  rintro _ _ (⟨hrm,x,e,cd3,ca3,cs3,W3,rfl,rfl,hW3,hS3,hw3⟩|⟨hsm,rfl,ca3,α3,rfl,hW3,hg3,hr3⟩)
  ·dsimp only[List.cons_append,List.nil_append]
   obtain⟨rfl,_⟩:=stepped_ok hS3 rfl
   have hrm2:8*10≤10*(r%12)-0:=hrm
   have hTa3:=hTa bw bd ba bs W3 cd3 ca3 cs3 hW3 hS3.size
   have hu0:W3.α.used=0:=used_eq hW hW3 hS3.gs
   have hfx:flv x= .agg #[.int .i64 (x.first:Int),.int .i64 (x.blocks:Int),.int .i64 (x.width:Int),.int .i64 (x.count:Int)]:=rfl
   rw[hfx]
   repeat(first|(refine st ?_;intros)|refine G.draw [] (h:= ?_)|(refine cq hAw ?_)|(refine cq hWA ?_)|(refine cq hUs ?_))
   refine R.call (hct:=hTn) (h:= ?_)
   rintro _ _ ⟨rfl,rfl⟩
   try dsimp only[List.cons_append,List.nil_append]
   repeat(first|(refine st ?_;intros)|refine G.draw [] (h:= ?_)|(refine cq hAw ?_)|(refine cq hWA ?_)|(refine cq hUs ?_))
   refine R.call (hct:=hTa3) (h:= ?_)
   rintro _ _ ⟨ca9,α9,hW9,hg9,hr9,rfl,rfl⟩
   try dsimp only[List.cons_append,List.nil_append]
   have hUs:=aUsed ba _ ca9 hW9.ar
   rw[show α9.used=0 from (used_eq hW3 hW9 hg9).trans hu0] at hUs
   repeat(first|(refine st ?_;intros)|refine G.draw [] (h:= ?_)|(refine cq hAw ?_)|(refine cq hWA ?_)|(refine cq hUs ?_))
   (refine Dn.post (Hr:=[]) Tryz.results3 (hR:= ?_);exact⟨congrArg Value.bool (dec_true rfl),rfl⟩)
  ·dsimp only[List.cons_append,List.nil_append]
   have hrm2:10*(r%12)-0<8*10:=hsm
   have hTa3:=hTa bw bd ba bs _ cd ca3 cs hW3 rfl
   have hu0:α3.used=0:=used_eq hW hW3 hg3
   rw[hz]
   repeat(first|(refine st ?_;intros)|refine G.draw [] (h:= ?_)|(refine cq hAw ?_)|(refine cq hWA ?_)|(refine cq hUs ?_))
   refine R.call (hct:=hTn) (h:= ?_)
   rintro _ _ ⟨rfl,rfl⟩
   try dsimp only[List.cons_append,List.nil_append]
   repeat(first|(refine st ?_;intros)|refine G.draw [] (h:= ?_)|(refine cq hAw ?_)|(refine cq hWA ?_)|(refine cq hUs ?_))
   refine R.call (hct:=hTa3) (h:= ?_)
   rintro _ _ ⟨ca9,α9,hW9,hg9,hr9,rfl,rfl⟩
   try dsimp only[List.cons_append,List.nil_append]
   have hUs:=aUsed ba _ ca9 hW9.ar
   rw[show α9.used=0 from (used_eq hW3 hW9 hg9).trans hu0] at hUs
   repeat(first|(refine st ?_;intros)|refine G.draw [] (h:= ?_)|(refine cq hAw ?_)|(refine cq hWA ?_)|(refine cq hUs ?_))
   (refine Dn.post (Hr:=[]) Tryz.results3 (hR:= ?_);exact⟨congrArg Value.bool (dec_true rfl),rfl⟩)
 ·have hT:=Tours_width ⟨0,0,a,0⟩ ⟨0,0,b,0⟩ hw (pv bw)
  rw[hfa,hfa,hz] at hT
  have hTa3:=hTa bw bd ba bs _ cd ca cs hW rfl
  have hu0:(wk0 10 9000 (10*(r%12))).α.used=0:=rfl
  by_cases ha2:a=2
  ·have hb5:b≠3:=fun h=>hw ⟨ha2,h⟩
   repeat(first|(refine st ?_;intros)|refine G.draw [] (h:= ?_)|(refine cq hAw ?_)|(refine cq hWA ?_)|(refine cq hUs ?_))
   refine R.call (hct:=hT) (h:= ?_)
   rintro _ _ ⟨rfl,rfl⟩
   try dsimp only[List.cons_append,List.nil_append]
   repeat(first|(refine st ?_;intros)|refine G.draw [] (h:= ?_)|(refine cq hAw ?_)|(refine cq hWA ?_)|(refine cq hUs ?_))
   refine R.call (hct:=hTn) (h:= ?_)
   rintro _ _ ⟨rfl,rfl⟩
   try dsimp only[List.cons_append,List.nil_append]
   repeat(first|(refine st ?_;intros)|refine G.draw [] (h:= ?_)|(refine cq hAw ?_)|(refine cq hWA ?_)|(refine cq hUs ?_))
   refine R.call (hct:=hTa3) (h:= ?_)
   rintro _ _ ⟨ca9,α9,hW9,hg9,hr9,rfl,rfl⟩
   try dsimp only[List.cons_append,List.nil_append]
   have hUs:=aUsed ba _ ca9 hW9.ar
   rw[show α9.used=0 from (used_eq hW hW9 hg9).trans hu0] at hUs
   repeat(first|(refine st ?_;intros)|refine G.draw [] (h:= ?_)|(refine cq hAw ?_)|(refine cq hWA ?_)|(refine cq hUs ?_))
   (refine Dn.post (Hr:=[]) Tryz.results3 (hR:= ?_);exact⟨congrArg Value.bool (dec_true rfl),rfl⟩)
  ·repeat(first|(refine st ?_;intros)|refine G.draw [] (h:= ?_)|(refine cq hAw ?_)|(refine cq hWA ?_)|(refine cq hUs ?_))
   refine R.call (hct:=hT) (h:= ?_)
   rintro _ _ ⟨rfl,rfl⟩
   try dsimp only[List.cons_append,List.nil_append]
   repeat(first|(refine st ?_;intros)|refine G.draw [] (h:= ?_)|(refine cq hAw ?_)|(refine cq hWA ?_)|(refine cq hUs ?_))
   refine R.call (hct:=hTn) (h:= ?_)
   rintro _ _ ⟨rfl,rfl⟩
   try dsimp only[List.cons_append,List.nil_append]
   repeat(first|(refine st ?_;intros)|refine G.draw [] (h:= ?_)|(refine cq hAw ?_)|(refine cq hWA ?_)|(refine cq hUs ?_))
   refine R.call (hct:=hTa3) (h:= ?_)
   rintro _ _ ⟨ca9,α9,hW9,hg9,hr9,rfl,rfl⟩
   try dsimp only[List.cons_append,List.nil_append]
   have hUs:=aUsed ba _ ca9 hW9.ar
   rw[show α9.used=0 from (used_eq hW hW9 hg9).trans hu0] at hUs
   repeat(first|(refine st ?_;intros)|refine G.draw [] (h:= ?_)|(refine cq hAw ?_)|(refine cq hWA ?_)|(refine cq hUs ?_))
   (refine Dn.post (Hr:=[]) Tryz.results3 (hR:= ?_);exact⟨congrArg Value.bool (dec_true rfl),rfl⟩)
end Go.Proofs.YtammjnjpheobaaaGreat
namespace Go.Proofs.YtammjnjpheobaaaGreat
open Go.ChangeShapes Go.WideShapes Go.ChangeAt Go.RowKit Go.SL Go.Tup
set_option maxRecDepth 100000 in
theorem TourRoom_lifted (os:Os) (started:os.Started) (H:Type) (enc:TypeId×Value→H):
  ReturnsInHanded {} Tryz.checked os 3 .any (Rows.tourRoomSpec.pre6 enc Tryz.prog Tryz.f3 Rows.tourRoomRow.domain false) (Rows.tourRoomSpec.post enc Tryz.prog Tryz.f3 false true false false):=by
 refine returnsInHanded_of_change (C:=Tryz.checked) own started (by kernel_rfl) Tryz.func3
  (ChangeSpec.witness6 (enc:=enc) (C:=Tryz.checked) false ⟨#[],#[.int .u8 0,.agg #[.int .u8 0,.int .u8 0]],[]⟩ 8 (by kernel_rfl) (by kernel_rfl) (by kernel_rfl) (by kernel_rfl)) ?_
 intro W base args ds gs before hval0 hW hcnd _
 have hval:∀(j:Nat) t v,Tryz.f3.params[j]? =some t→args[j]? =some v→Value.okWide Tryz.prog W .any base t v:=hval0
 have hW':=hW
 obtain⟨p,q,hA0,hV,rfl,hfz,hnd⟩:=hW
 have hA:DataW.TrodAll enc Tryz.prog W 0 (fun _=>true) true Tryz.f3.params.toList args.toList ds p:=hA0
 rw[Tryz.params3] at hA hval
 obtain⟨rfl,rfl⟩:=trodVars_none hV
 obtain⟨v0,v1,d0,d1,p0,p1,rfl,rfl,rfl,h0,h1⟩:=trodAll_two hA
 obtain⟨e0,he0,rfl⟩:=openNat8 Tryz.underlying5 (hval 0 _ v0 rfl rfl)
 obtain⟨l,hll,hlr,rfl⟩:=openU8 (n:=2) (.inr ⟨_,_,Tryz.underlying22⟩) (by kernel_rfl) (by kernel_rfl) Tryz.underlying5 (hval 1 _ v1 rfl rfl)
 obtain⟨a,l1,rfl,hl1⟩:=uncons hll
 obtain⟨b,l2,rfl,hl2⟩:=uncons hl1
 obtain rfl:=List.eq_nil_of_length_eq_zero hl2
 clear hA0 hval0
 refine(law_calls (TourRoom_ct e0 he0 a b (hlr a (by simp)) (hlr b (by simp))) W).mono fun e W' ⟨he,hw⟩=> ?_
 subst he
 exact⟨_,rfl,lawPost hW' rfl rfl (by kernel_rfl) laidOut (by decide+kernel) rfl hw⟩
theorem TourRoom_holds:Rows.TourRoomSaid:=
 OpenClaim.holds_of_wide 3 Tryz.f3 rfl rfl rfl rfl rfl rfl rfl ⟨rfl,rfl,rfl,rfl,rfl⟩ rfl rfl rfl rfl rfl (by kernel_rfl) Tryz.func3 (by kernel_rfl)
  (of_decide_eq_true (by kernel_rfl)) (by unfold Func.isWrapper;first|(rw[if_pos (by decide+kernel)];kernel_rfl)|(rw[if_neg (by decide+kernel)];exact⟨rfl,rfl⟩))
  (fun os started H enc _=>TourRoom_lifted os started H enc)
end Go.Proofs.YtammjnjpheobaaaGreat
