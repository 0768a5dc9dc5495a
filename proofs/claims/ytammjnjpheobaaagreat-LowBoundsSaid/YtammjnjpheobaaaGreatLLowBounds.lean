/-
  Parts of the proof, put together: LowBounds0, LowBounds. No condition.
-/
import Derived.Test.YtammjnjpheobaaaGreatL15
set_option linter.unusedVariables false
set_option linter.unusedSimpArgs false
set_option linter.unnecessarySimpa false
set_option maxHeartbeats 4000000
open Bool renaming true_and→DO
open Go.IntKind renaming wrap→AH
open Go.Proofs.Tryz renaming prog→AC,underlying3→CS,checked→DL
open List renaming cons_append→AA,nil_append→AB
open Nat renaming reduceAdd→AD
namespace Go.Proofs.YtammjnjpheobaaaGreat
open Go.SL Go.Spc Go.Tup Go.Srt Go.Gr
theorem Sub.num {N:Nat} {es:List IE} {lab:List Int} {fl:List Bool} {b:List T5} {tl:List (Nat×Fo)} {l:List T5} {v:Nat} {x:Int} (hT:aAw N es lab b tl l) (h:Out N es fl l v x):0≤x∧x<N:=by
 obtain⟨u,hu,_,rfl|⟨w,hw,_,rfl⟩⟩:=h
 ·have:=hT.bnd hu;omega
 ·have:=hT.bnd hw;omega
theorem aHy.bounds {N:Nat} {es:List IE} {lab:List Int} {fl:List Bool} {b:List T5} {tl:List (Nat×Fo)} {l o:List T5} (h:aHy N es fl l o) (hT:aAw N es lab b tl l) {v:Nat} (hv:v<N):
  ∃lo hi,o[(at5 l v).c2.toNat]? =some ⟨(at5 l v).c2,lo,hi,0,0⟩∧lo≤(at5 l v).c2∧(at5 l v).c2+(at5 l v).c3-1≤hi∧0≤lo∧hi<N∧
   ((at5 l v).c1= -1∨∃p:Nat,p<N∧(at5 l v).c1=(p:Int)∧∃lo' hi',o[(at5 l p).c2.toNat]? =some ⟨(at5 l p).c2,lo',hi',0,0⟩∧lo'≤lo∧hi≤hi'):=by
 obtain⟨lo,hi,h1,h2,h3⟩:=h.at_ v hv
 have hb:=hT.bnd hv
 obtain⟨w,hw,hwn⟩:=hT.surj (k:=((at5 l v).c2+(at5 l v).c3-1).toNat) (by omega)
 refine⟨lo,hi,h1,h2.2 _ ⟨v,hv,Sub.refl hb.2.2.1,.inl rfl⟩,?_,(Sub.num hT h2.1).1,(Sub.num hT h3.1).2,?_⟩
 ·have:=h3.2 _ ⟨w,hw,⟨by omega,by omega⟩,.inl rfl⟩
  omega
 ·rcases hT.par hv with⟨h4,_⟩|⟨p,hp,h4,_,h5,h6,_⟩
  ·exact .inl h4
  ·obtain⟨lo',hi',g1,g2,g3⟩:=h.at_ p hp
   have hup:∀x,Out N es fl l v x→Out N es fl l p x:=by
    rintro x ⟨u,hu,⟨hs1,hs2⟩,hx⟩
    exact⟨u,hu,⟨by omega,by omega⟩,hx⟩
   exact .inr ⟨p,hp,h4,lo',hi',g1,g2.2 _ (hup _ h2.1),g3.2 _ (hup _ h3.1)⟩
theorem aWd (n:Int) (p:Option Addr) (m cap:Nat) (es:List IE) (c:aAc) (hv:Rw ecl 2 p m es c) (hm:m≤maxLen):
  CtQ AC 9 [gv n p m cap] [c] (.bool true):=by
 have hAw:=aIz
 have hel:=hv.1
 have hSm:=aPj n p m cap es c hv hm
 have hWk:Ct AC 28 [.int .i64 9] [] fun v H'=>
  ∃bw bd ba bs cd ca cs,v=pv bw∧H'=[aAh bw bd ba bs,cd,ca,cs]∧Wc bd ba bs (wk0 10 9000 90) cd ca cs:=aJk 9 (by omega)
 by_cases hs:aCc n es=true∧n≤40∧(m:Int)≤70
 rotate_left
 ·have hSm:=hSm false (by
   cases hfm:aCc n es with
   |false=>rfl
   |true=>rw[DO,decide_eq_false fun h=>hs ⟨hfm,h⟩])
  unfold gv at hSm⊢
  refine Ct.intro Tryz.func9 rfl Tryz.ntmps9 (nle rfl) fun w0=> ?_;dsimp only[aAa,AD]
  repeat(first|(refine st ?_;intros)|refine G.draw [] (h:= ?_)|(refine cq hAw ?_)|(refine cq hSm ?_))
  (refine Dn.post (Hr:=[c]) Tryz.results9 (hR:= ?_);exact⟨rfl,rfl⟩)
 obtain⟨hfm,hfew⟩:=hs
 have hSm:=hSm true (by rw[hfm,DO,decide_eq_true hfew])
 obtain⟨h0,hin⟩:=aLc hfm
 obtain⟨N,rfl⟩:∃N:Nat,n=(N:Int):=⟨n.toNat,by omega⟩
 have hLo:=fun bw bd ba bs cd ca cs hW=>aNn bw bd ba bs 90 (by omega) cd ca cs hW N (by omega) p m cap es c hv (by omega) hin
 have hOf:=aVz N (by omega) p m cap es c hv (by omega) hin
 unfold gv at hSm hLo hOf⊢
 refine Ct.intro Tryz.func9 rfl Tryz.ntmps9 (nle rfl) fun w0=> ?_;dsimp only[aAa,AD]
 repeat(first|(refine st ?_;intros)|refine G.draw [] (h:= ?_)|(refine cq hAw ?_)|(refine cq hSm ?_))
 rename_i b1
 refine R.call (hct:=hWk) (h:= ?_)
 rintro _ _ ⟨bw,bd,ba,bs,cd,ca,cs,rfl,rfl,hW⟩
 try dsimp only[AA,AB]
 have hLo:=hLo bw bd ba bs cd ca cs hW
 repeat(first|(refine st ?_;intros)|refine G.draw [] (h:= ?_)|(refine cq hAw ?_)|(refine cq hSm ?_))
 refine R.call (hct:=hLo) (h:= ?_)
 rintro _ _ ⟨cd1,ca1,cs1,W1,po,oc,co,bq,qs,fs,lab,fl,r,b,tl,l,o,rfl,rfl,hW1,hqs,hO1,hVo,hP,hT,hLw,hls⟩
 try dsimp only[AA,AB]
 repeat(first|(refine st ?_;intros)|refine G.draw [] (h:= ?_)|(refine cq hAw ?_)|(refine cq hSm ?_))
 refine R.call (hct:=hOf) (h:= ?_)
 rintro _ _ ⟨pe,ke,ce,pl,kl,cl,pf,nf,kf,cf,pt,nt,kt,ct,pz,kz,cz,lab2,fl2,r2,b2,tl2,l2,rfl,rfl,hOk⟩
 try dsimp only[AA,AB]
 obtain⟨rfl,rfl⟩:=hOk.parts.uniq hP
 obtain rfl:=aSz hP.fors hOk.parts.fors
 obtain rfl:l=l2:=hls.symm.trans hOk.lis
 have hVo:=RV.vec hVo
 repeat(first|(refine st ?_;intros)|refine G.draw [] (h:= ?_)|(refine cq hAw ?_)|(refine cq hSm ?_))
 rename_i b7
 refine G.loop (X:=Nat) (fun v=>v≤N) (fun v=>[(8,.int .i64 (v:Int)),(7,pv b7),(4,.slice po N oc),(1,pv b1)])
  (fun _=>[[(b7,row [.slice pe m ke,.slice pl N kl,.slice pf nf kf,.slice pt nt kt,.slice pz N kz] 71)],[(b1,row [.int .i64 (N:Int),.slice p m cap] 37)],co,cz,c]) (fun v=>N-v) 0 (Nat.zero_le _) (body:= ?_)
 intro v hv0
 by_cases hlt:v<N
 rotate_left
 ·obtain rfl:v=N:=by omega
  repeat(first|(refine st ?_;intros)|refine G.draw [] (h:= ?_)|(refine cq hAw ?_)|(refine cq hSm ?_))
  (refine Dn.post (Hr:=[c]) Tryz.results9 (hR:= ?_);exact⟨rfl,rfl⟩)
 obtain⟨bo,ofo,cso,To,fzo,rfl,rfl,hco,hgo⟩:=(RV.rw hVo).pos aAr (by omega)
 obtain⟨bz,ofz,csz,Tz,fzz,rfl,rfl,hcz,hgz⟩:=(RV.rw hOk.o).pos aAr (by omega)
 obtain⟨lo,hi,g1,g2,g3,g4,g5,g6⟩:=hLw.bounds hT hlt
 have hll:=hT.len
 have hb:=hT.bnd hlt
 obtain⟨k,hk⟩:∃k:Nat,(at5 l v).c2=(k:Int):=⟨(at5 l v).c2.toNat,by omega⟩
 rw[show(at5 l v).c2.toNat=k by omega,hk] at g1
 have q1:(csz.drop (ofz+v*5)).take 5=[.int .i64 (at5 l v).c0,.int .i64 (at5 l v).c1,.int .i64 (at5 l v).c2,.int .i64 (at5 l v).c3,.int .i64 (at5 l v).c4]:=hcz v _ (aBs (by omega))
 have q2:(cso.drop (ofo+k*5)).take 5=[.int .i64 (k:Int),.int .i64 lo,.int .i64 hi,.int .i64 0,.int .i64 0]:=hco k _ g1
 rw[hk] at q1 hb g2 g3
 have hw1:AH .i64 ((k:Int)+(at5 l v).c3)=(k:Int)+(at5 l v).c3:=aAd (by omega)
 have hw2:AH .i64 ((k:Int)+(at5 l v).c3-1)=(k:Int)+(at5 l v).c3-1:=aAd (by omega)
 rcases g6 with h6|⟨pp,hpp,h6,lo',hi',e1,e2,e3⟩
 ·rw[h6] at q1
  repeat(first|(refine st ?_;intros)|refine G.draw [] (h:= ?_)|(refine cq hAw ?_)|(refine cq hSm ?_))
  refine Dn.round (v+1) (by omega) (by omega)
 ·obtain⟨kp,hkp⟩:∃kp:Nat,(at5 l pp).c2=(kp:Int):=⟨(at5 l pp).c2.toNat,by have:=hT.bnd hpp;omega⟩
  have hbp:=hT.bnd hpp
  rw[show(at5 l pp).c2.toNat=kp by omega,hkp] at e1
  rw[hkp] at hbp
  have q3:=hgz pp 2 _ _ (aBs (by omega)) rfl
  rw[hkp] at q3
  have q4:cso[ofo+kp*5+1]? =some (.int .i64 lo'):=hgo kp 1 _ _ e1 rfl
  have q5:cso[ofo+kp*5+2]? =some (.int .i64 hi'):=hgo kp 2 _ _ e1 rfl
  rw[h6] at q1
  repeat(first|(refine st ?_;intros)|refine G.draw [] (h:= ?_)|(refine cq hAw ?_)|(refine cq hSm ?_))
  refine Dn.round (v+1) (by omega) (by omega)
open Go.ChangeShapes Go.WideShapes Go.ChangeAt Go.RowKit
set_option maxRecDepth 100000 in
theorem LowBounds_lifted (os:Os) (started:os.Started) (H:Type) (enc:TypeId×Value→H):
  ReturnsInHanded {} DL os 9 .any (Rows.lowBoundsSpec.pre6 enc AC Tryz.f9 Rows.lowBoundsRow.domain false) (Rows.lowBoundsSpec.post enc AC Tryz.f9 false true false false):=by
 refine returnsInHanded_of_change (C:=DL) own started (by kernel_rfl) Tryz.func9
  (ChangeSpec.witness6 (enc:=enc) (C:=DL) false ⟨#[],#[.agg #[.int .i64 0,.slice none 0 0]],[]⟩ 8 (by kernel_rfl) (by kernel_rfl) (by kernel_rfl) (by kernel_rfl)) ?_
 intro W base args ds gs before hval0 hW hcnd _
 have hval:∀(j:Nat) t v,Tryz.f9.params[j]? =some t→args[j]? =some v→Value.okWide AC W .any base t v:=hval0
 have hW':=hW
 obtain⟨p,q,hA0,hV,rfl,hfz,hnd⟩:=hW
 have hA:DataW.TrodAll enc AC W 0 (fun _=>true) true Tryz.f9.params.toList args.toList ds p:=hA0
 rw[Tryz.params9] at hA hval
 obtain⟨rfl,rfl⟩:=trodVars_none hV
 obtain⟨v0,d0,rfl,rfl,h0⟩:=trodAll_one hA
 obtain⟨n,p,m,cap,es,ch,rfl,hv,hm,hc,hnd'⟩:=aHw Tryz.underlying37 CS Tryz.underlying35 Tryz.underlying51 CS CS rfl rfl (by kernel_rfl) (by kernel_rfl) (by kernel_rfl) (by kernel_rfl) rfl rfl (by kernel_rfl) (by kernel_rfl) h0 (hval 0 _ v0 rfl rfl)
 clear hA0 hval0
 refine(aJl hc hnd' (aWd n p m cap es ch hv hm)).mono fun e W' ⟨he,hw⟩=> ?_
 subst he
 exact⟨_,rfl,aPi hW' rfl rfl (by kernel_rfl) aPh (by decide+kernel) rfl hw⟩
theorem LowBounds_holds:Rows.LowBoundsSaid:=
 OpenClaim.holds_of_wide 9 Tryz.f9 rfl rfl rfl rfl rfl rfl rfl ⟨rfl,rfl,rfl,rfl,rfl⟩ rfl rfl rfl rfl rfl (by kernel_rfl) Tryz.func9 (by kernel_rfl)
  (of_decide_eq_true (by kernel_rfl)) (by unfold Func.isWrapper;first|(rw[if_pos (by decide+kernel)];kernel_rfl)|(rw[if_neg (by decide+kernel)];exact⟨rfl,rfl⟩))
  (fun os started H enc _=>LowBounds_lifted os started H enc)
end Go.Proofs.YtammjnjpheobaaaGreat
