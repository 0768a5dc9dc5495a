/-
  Parts of the proof, put together: CompRoom0, CompRoom. No condition.
-/
import Derived.Test.YtpckicjfigmjkaaGreatJ30
set_option linter.unusedVariables false
set_option linter.unusedSimpArgs false
set_option linter.unnecessarySimpa false
set_option maxHeartbeats 4000000
namespace Go.Proofs.YtpckicjfigmjkaaGreat
open Go.SL Go.Spc Go.Tup Go.Srt
theorem CompRoom_ct (r:Nat) (hr:r<256) (a0:Nat) (h0:a0<256) (n:Int) (hn:inI64 n):CtQ Tryz.prog 3 [.int .u8 (r:Int),.int .u8 (a0:Int),.int .i64 n] [] (.bool true):=by
 have hAw:=awake15ct
 have hWk:=work15ct (r%12) (by omega)
 have e1:IntKind.wrap .i64 ((r:Int).tmod 12)=((r%12:Nat):Int):=by rw[Int.tmod_eq_emod_of_nonneg (by omega),wrap_i64 (by omega)];omega
 have e2:(r:Int).tmod 12=((r%12:Nat):Int):=by rw[Int.tmod_eq_emod_of_nonneg (by omega)];omega
 have f0:IntKind.wrap .i64 ((a0:Int).tmod 5)=((a0%5:Nat):Int):=by rw[Int.tmod_eq_emod_of_nonneg (by omega),wrap_i64 (by omega)];omega
 have g0:IntKind.wrap .i64 ((1:Int)+((a0%5:Nat):Int))=((1+a0%5:Nat):Int):=by rw[wrap_i64 (by omega)];omega
 have hfa:∀a:Nat,flv ⟨0,0,a,0⟩= .agg #[.int .i64 0,.int .i64 0,.int .i64 (a:Int),.int .i64 0]:=fun _=>rfl
 have hz:flv ⟨0,0,0,0⟩= .agg #[.int .i64 0,.int .i64 0,.int .i64 0,.int .i64 0]:=rfl
 have hR3:∀x,CtQ Tryz.prog 16 [x,.int .i64 1073741825,.agg #[.int .i64 0,.int .i64 0,.int .i64 3,.int .i64 0]] [] (.tuple #[.agg #[.int .i64 0,.int .i64 0,.int .i64 0,.int .i64 0],.agg #[.int .i64 0,.int .i64 0,.int .i64 0,.int .i64 0],.int .i64 1]):=fun x=>Components_range 1073741825 (by omega) ⟨0,0,3,0⟩ x
 have hTn:CtQ Tryz.prog 16 [.pointer none,.int .i64 n,.agg #[.int .i64 0,.int .i64 0,.int .i64 3,.int .i64 0]] [] (.tuple #[.agg #[.int .i64 0,.int .i64 0,.int .i64 0,.int .i64 0],.agg #[.int .i64 0,.int .i64 0,.int .i64 0,.int .i64 0],.int .i64 1]):=by
  by_cases h0:n<0∨1073741824<n
  ·exact Components_range n h0 ⟨0,0,3,0⟩ _
  ·exact Components_nil n (by omega) (by omega) ⟨0,0,3,0⟩ rfl
 have hTa:∀(bw bd ba bs:Nat) (W:Wk) (cd ca cs:Chunk),Wc bd ba bs W cd ca cs→W.δ.size=10→CtQ Tryz.prog 16 [pv bw,.int .i64 5,.agg #[.int .i64 0,.int .i64 1,.int .i64 3,.int .i64 50]] [wrow bw bd ba bs,cd,ca,cs] (.tuple #[.agg #[.int .i64 0,.int .i64 0,.int .i64 0,.int .i64 0],.agg #[.int .i64 0,.int .i64 0,.int .i64 0,.int .i64 0],.int .i64 1]):=by
  intro bw bd ba bs W cd ca cs hW hs
  exact Components_arg bw bd ba bs cd ca cs 5 (by omega) (by omega) ⟨0,1,3,50⟩ rfl (Read_arg bw bd ba bs W cd ca cs hW ⟨0,1,3,50⟩ (by decide) (by decide) (by decide) (by rw[hs];decide))
 generalize ha:1+a0%5=a at*
 by_cases hn1:100<n
 ·refine Ct.intro Tryz.func3 rfl Tryz.ntmps3 (nle rfl) fun w0=> ?_;dsimp only[argSlots,Nat.reduceAdd]
  repeat(first|(refine st ?_;intros)|(refine cq hAw ?_)|(refine cq hWA ?_)|(refine cq hUs ?_))
  (refine Dn.post (Hr:=[]) Tryz.results3 (hR:= ?_);exact⟨rfl,rfl⟩)
 refine Ct.intro Tryz.func3 rfl Tryz.ntmps3 (nle rfl) fun w0=> ?_;dsimp only[argSlots,Nat.reduceAdd]
 repeat(first|(refine st ?_;intros)|(refine cq hAw ?_)|(refine cq hWA ?_)|(refine cq hUs ?_))
 refine R.call (hct:=hWk) (h:= ?_)
 rintro _ _ ⟨bw,bd,ba,bs,cd,ca,cs,rfl,rfl,hW⟩
 try dsimp only[List.cons_append,List.nil_append]
 have hWA:=WArena_ct bw bd ba bs
 by_cases hw:a=3∧0≤n
 ·obtain⟨rfl,hn0⟩:=hw
  obtain⟨N,rfl⟩:∃N:Nat,n=(N:Int):=⟨n.toNat,by omega⟩
  have hT:=Components_ct bw bd ba bs _ cd ca cs hW N ⟨0,0,3,0⟩ [] (file_zero hW.dev (by omega) (by omega)) rfl 100 540 (by decide) (by omega) (by decide) (by decide) (by decide+kernel) (by show 540*(0+9)+(8*(2*100)+0)≤9000;omega) (Nat.zero_le _)
  rw[hfa] at hT
  repeat(first|(refine st ?_;intros)|(refine cq hAw ?_)|(refine cq hWA ?_)|(refine cq hUs ?_))
  refine R.call (hct:=hT) (h:= ?_)
  rintro _ _ (⟨hrm,x,y,e,cd3,ca3,cs3,W3,rfl,rfl,hW3,hS3⟩|⟨hsm,rfl,ca3,α3,rfl,hW3,hg3,hr3⟩)
  ·dsimp only[List.cons_append,List.nil_append]
   have he0:e=0:=by
    rcases hS3.res with⟨h,_⟩|⟨_,_,_,_,⟨_,h⟩|⟨k,h,_⟩⟩
    ·exact h
    ·exact absurd rfl h
    ·unfold errC at h
     rw[if_pos ⟨by simp,by simp⟩] at h;cases h
   subst he0
   have hrm2:8*10≤10*(r%12)-0:=hrm
   have hTa3:=hTa bw bd ba bs W3 cd3 ca3 cs3 hW3 hS3.size
   have hUs:=aUsed ba _ ca3 hW3.ar
   rw[show W3.α.used=0 from used_eq hW hW3 hS3.gs] at hUs
   have hfx:∀x:Fl,flv x= .agg #[.int .i64 (x.first:Int),.int .i64 (x.blocks:Int),.int .i64 (x.width:Int),.int .i64 (x.count:Int)]:=fun _=>rfl
   rw[hfx,hfx]
   repeat(first|(refine st ?_;intros)|(refine cq hAw ?_)|(refine cq hWA ?_)|(refine cq hUs ?_))
   refine R.call (hct:=hTn) (h:= ?_)
   rintro _ _ ⟨rfl,rfl⟩
   try dsimp only[List.cons_append,List.nil_append]
   repeat(first|(refine st ?_;intros)|(refine cq hAw ?_)|(refine cq hWA ?_)|(refine cq hUs ?_))
   refine R.call (hct:=hTa3) (h:= ?_)
   rintro _ _ ⟨rfl,rfl⟩
   try dsimp only[List.cons_append,List.nil_append]
   repeat(first|(refine st ?_;intros)|(refine cq hAw ?_)|(refine cq hWA ?_)|(refine cq hUs ?_))
   refine R.call (hct:=hR3 _) (h:= ?_)
   rintro _ _ ⟨rfl,rfl⟩
   try dsimp only[List.cons_append,List.nil_append]
   repeat(first|(refine st ?_;intros)|(refine cq hAw ?_)|(refine cq hWA ?_)|(refine cq hUs ?_))
   (refine Dn.post (Hr:=[]) Tryz.results3 (hR:= ?_);exact⟨congrArg Value.bool (dec_true rfl),rfl⟩)
  ·dsimp only[List.cons_append,List.nil_append]
   have hrm2:10*(r%12)-0<8*10:=hsm
   have hTa3:=hTa bw bd ba bs _ cd ca3 cs hW3 rfl
   have hUs:=aUsed ba _ ca3 hW3.ar
   rw[show α3.used=0 from used_eq hW hW3 hg3] at hUs
   rw[hz]
   repeat(first|(refine st ?_;intros)|(refine cq hAw ?_)|(refine cq hWA ?_)|(refine cq hUs ?_))
   refine R.call (hct:=hTn) (h:= ?_)
   rintro _ _ ⟨rfl,rfl⟩
   try dsimp only[List.cons_append,List.nil_append]
   repeat(first|(refine st ?_;intros)|(refine cq hAw ?_)|(refine cq hWA ?_)|(refine cq hUs ?_))
   refine R.call (hct:=hTa3) (h:= ?_)
   rintro _ _ ⟨rfl,rfl⟩
   try dsimp only[List.cons_append,List.nil_append]
   repeat(first|(refine st ?_;intros)|(refine cq hAw ?_)|(refine cq hWA ?_)|(refine cq hUs ?_))
   refine R.call (hct:=hR3 _) (h:= ?_)
   rintro _ _ ⟨rfl,rfl⟩
   try dsimp only[List.cons_append,List.nil_append]
   repeat(first|(refine st ?_;intros)|(refine cq hAw ?_)|(refine cq hWA ?_)|(refine cq hUs ?_))
   (refine Dn.post (Hr:=[]) Tryz.results3 (hR:= ?_);exact⟨congrArg Value.bool (dec_true rfl),rfl⟩)
 ·have hT:CtQ Tryz.prog 16 [pv bw,.int .i64 n,flv ⟨0,0,a,0⟩] [] (.tuple #[flv ⟨0,0,0,0⟩,flv ⟨0,0,0,0⟩,.int .i64 1]):=by
   by_cases h3:a=3
   ·exact Components_range n (by omega) _ _
   ·exact Components_width n ⟨0,0,a,0⟩ h3 (pv bw)
  rw[hfa,hz] at hT
  have hTa3:=hTa bw bd ba bs _ cd ca cs hW rfl
  have hUs:=aUsed ba _ ca hW.ar
  rw[show(wk0 10 9000 (10*(r%12))).α.used=0 from rfl] at hUs
  repeat(first|(refine st ?_;intros)|(refine cq hAw ?_)|(refine cq hWA ?_)|(refine cq hUs ?_))
  refine R.call (hct:=hT) (h:= ?_)
  rintro _ _ ⟨rfl,rfl⟩
  try dsimp only[List.cons_append,List.nil_append]
  repeat(first|(refine st ?_;intros)|(refine cq hAw ?_)|(refine cq hWA ?_)|(refine cq hUs ?_))
  refine R.call (hct:=hTn) (h:= ?_)
  rintro _ _ ⟨rfl,rfl⟩
  try dsimp only[List.cons_append,List.nil_append]
  repeat(first|(refine st ?_;intros)|(refine cq hAw ?_)|(refine cq hWA ?_)|(refine cq hUs ?_))
  refine R.call (hct:=hTa3) (h:= ?_)
  rintro _ _ ⟨rfl,rfl⟩
  try dsimp only[List.cons_append,List.nil_append]
  repeat(first|(refine st ?_;intros)|(refine cq hAw ?_)|(refine cq hWA ?_)|(refine cq hUs ?_))
  refine R.call (hct:=hR3 _) (h:= ?_)
  rintro _ _ ⟨rfl,rfl⟩
  try dsimp only[List.cons_append,List.nil_append]
  by_cases h3:a=3
  ·subst h3
   have hn0:n<0:=by omega
   repeat(first|(refine st ?_;intros)|(refine cq hAw ?_)|(refine cq hWA ?_)|(refine cq hUs ?_))
   (refine Dn.post (Hr:=[]) Tryz.results3 (hR:= ?_);exact⟨congrArg Value.bool (dec_true rfl),rfl⟩)
  ·repeat(first|(refine st ?_;intros)|(refine cq hAw ?_)|(refine cq hWA ?_)|(refine cq hUs ?_))
   (refine Dn.post (Hr:=[]) Tryz.results3 (hR:= ?_);exact⟨congrArg Value.bool (dec_true rfl),rfl⟩)
end Go.Proofs.YtpckicjfigmjkaaGreat
namespace Go.Proofs.YtpckicjfigmjkaaGreat
open Go.ChangeShapes Go.WideShapes Go.ChangeAt Go.RowKit Go.SL Go.Tup
set_option maxRecDepth 100000 in
theorem CompRoom_lifted (os:Os) (started:os.Started) (H:Type) (enc:TypeId×Value→H):
  ReturnsInHanded {} Tryz.checked os 3 .any (Rows.compRoomSpec.pre6 enc Tryz.prog Tryz.f3 Rows.compRoomRow.domain false) (Rows.compRoomSpec.post enc Tryz.prog Tryz.f3 false true false false):=by
 refine returnsInHanded_of_change (C:=Tryz.checked) own started (by kernel_rfl) Tryz.func3
  (ChangeSpec.witness6 (enc:=enc) (C:=Tryz.checked) false ⟨#[],#[.int .u8 0,.int .u8 0,.int .i64 0],[]⟩ 8 (by kernel_rfl) (by kernel_rfl) (by kernel_rfl) (by kernel_rfl)) ?_
 intro W base args ds gs before hval0 hW hcnd _
 have hval:∀(j:Nat) t v,Tryz.f3.params[j]? =some t→args[j]? =some v→Value.okWide Tryz.prog W .any base t v:=hval0
 have hW':=hW
 obtain⟨p,q,hA0,hV,rfl,hfz,hnd⟩:=hW
 have hA:DataW.TrodAll enc Tryz.prog W 0 (fun _=>true) true Tryz.f3.params.toList args.toList ds p:=hA0
 rw[Tryz.params3] at hA hval
 obtain⟨rfl,rfl⟩:=trodVars_none hV
 obtain⟨v0,v1,v2,d0,d1,d2,p0,p1,p2,rfl,rfl,rfl,h0,h1,h2⟩:=trodAll_three hA
 obtain⟨e0,he0,rfl⟩:=openNat8 Tryz.underlying5 (hval 0 _ v0 rfl rfl)
 obtain⟨e1,he1,rfl⟩:=openNat8 Tryz.underlying5 (hval 1 _ v1 rfl rfl)
 obtain⟨e2,he2,rfl⟩:=openI64 Tryz.underlying3 (hval 2 _ v2 rfl rfl)
 clear hA0 hval0
 refine(law_calls (CompRoom_ct e0 he0 e1 he1 e2 he2) W).mono fun e W' ⟨he,hw⟩=> ?_
 subst he
 exact⟨_,rfl,lawPost hW' rfl rfl (by kernel_rfl) laidOut (by decide+kernel) rfl hw⟩
theorem CompRoom_holds:Rows.CompRoomSaid:=
 OpenClaim.holds_of_wide 3 Tryz.f3 rfl rfl rfl rfl rfl rfl rfl ⟨rfl,rfl,rfl,rfl,rfl⟩ rfl rfl rfl rfl rfl (by kernel_rfl) Tryz.func3 (by kernel_rfl)
  (of_decide_eq_true (by kernel_rfl)) (by unfold Func.isWrapper;first|(rw[if_pos (by decide+kernel)];kernel_rfl)|(rw[if_neg (by decide+kernel)];exact⟨rfl,rfl⟩))
  (fun os started H enc _=>CompRoom_lifted os started H enc)
end Go.Proofs.YtpckicjfigmjkaaGreat
