/-
  Parts of the proof, put together: LowMore0, LowMore. No condition.
-/
import Derived.Test.YtammjnjpheobaaaGreatL15
set_option linter.unusedVariables false
set_option linter.unusedSimpArgs false
set_option linter.unnecessarySimpa false
set_option maxHeartbeats 4000000
open Bool renaming true_and→DO
open Go.Proofs.Tryz renaming prog→AC,underlying3→CS,checked→DL
open Int renaming toNat_natCast→AP,tmod_eq_emod_of_nonneg→CW
open List renaming cons_append→AA,nil_append→AB,getElem?_eq_getElem→AE
open Nat renaming reduceAdd→AD,zero_add→BR
namespace Go.Proofs.YtammjnjpheobaaaGreat
open Go.SL Go.Spc Go.Tup Go.Srt Go.Gr
structure MoX where
 p:Option Addr
 cap:Nat
 ch:aAc
theorem aHy.more {N:Nat} {es:List IE} {e:IE} {lab:List Int} {fl:List Bool} {b:List T5} {tl:List (Nat×Fo)} {l o o':List T5} (hT:aAw N es lab b tl l) (hfl:fl.length=es.length) (h:aHy N es fl l o) (h':aHy N (es++[e]) (fl++[false]) l o') {k:Nat} (hk:k<N):
  ∃lo hi lo' hi',o[k]? =some ⟨(k:Int),lo,hi,0,0⟩∧o'[k]? =some ⟨(k:Int),lo',hi',0,0⟩∧lo'≤lo∧hi≤hi':=by
 obtain⟨v,hv,he⟩:=hT.surj hk
 obtain⟨lo,hi,a1,a2,a3⟩:=h.at_ v hv
 obtain⟨lo',hi',b1,b2,b3⟩:=h'.at_ v hv
 rw[show(at5 l v).c2.toNat=k by omega,he] at a1 b1
 exact⟨lo,hi,lo',hi',a1,b1,b2.2 _ (a2.1.more hfl),b3.2 _ (a3.1.more hfl)⟩
theorem bCg (n:Int) (p:Option Addr) (m cap:Nat) (es:List IE) (c:aAc) (hv:Rw ecl 2 p m es c) (hm:m≤maxLen) (a:Nat) (ha:a<256) (d:Nat) (hd:d<256):
  CtQ AC 10 [gv n p m cap,.int .u8 (a:Int),.int .u8 (d:Int)] [c] (.bool true):=by
 have hAw:=aIz
 have hel:=hv.1
 have hSm:=aPj n p m cap es c hv hm
 have hWk:Ct AC 28 [.int .i64 9] [] fun v H'=>
  ∃bw bd ba bs cd ca cs,v=pv bw∧H'=[aAh bw bd ba bs,cd,ca,cs]∧Wc bd ba bs (wk0 10 9000 90) cd ca cs:=aJk 9 (by omega)
 by_cases hs:aCc n es=true∧n≤40∧(m:Int)≤70
 rotate_left
 ·have hSm:=hSm false (by
   cases hfm:aCc n es with
   |false=>rfl
   |true=>rw[DO,decide_eq_false fun h=>hs ⟨hfm,h⟩])
  unfold gv at hSm⊢
  refine Ct.intro Tryz.func10 rfl Tryz.ntmps10 (nle rfl) fun w0=> ?_;dsimp only[aAa,AD]
  repeat(first|(refine st ?_;intros)|refine G.draw [] (h:= ?_)|refine G.drawOrd (id:=10) [1,0,2,3,4,5,6,7,8,9] [(0,.eff [1])] (h:= ?_)|refine G.drawOrd (id:=11) [1,0,2,3,4,5,6,7,8,9] [(0,.eff [1])] (h:= ?_)|(refine cq hAw ?_)|(refine cq hSm ?_))
  (refine Dn.post (Hr:=[c]) Tryz.results10 (hR:= ?_);exact⟨rfl,rfl⟩)
 obtain⟨hfm,hfew⟩:=hs
 have hSm:=hSm true (by rw[hfm,DO,decide_eq_true hfew])
 obtain⟨h0,hin⟩:=aLc hfm
 obtain⟨N,rfl⟩:∃N:Nat,n=(N:Int):=⟨n.toNat,by omega⟩
 by_cases hN0:(N:Int)=0
 ·unfold gv at hSm⊢
  refine Ct.intro Tryz.func10 rfl Tryz.ntmps10 (nle rfl) fun w0=> ?_;dsimp only[aAa,AD]
  repeat(first|(refine st ?_;intros)|refine G.draw [] (h:= ?_)|refine G.drawOrd (id:=10) [1,0,2,3,4,5,6,7,8,9] [(0,.eff [1])] (h:= ?_)|refine G.drawOrd (id:=11) [1,0,2,3,4,5,6,7,8,9] [(0,.eff [1])] (h:= ?_)|(refine cq hAw ?_)|(refine cq hSm ?_))
  (refine Dn.post (Hr:=[c]) Tryz.results10 (hR:= ?_);exact⟨rfl,rfl⟩)
 by_cases hm69:(69:Int)<(m:Int)
 ·unfold gv at hSm⊢
  refine Ct.intro Tryz.func10 rfl Tryz.ntmps10 (nle rfl) fun w0=> ?_;dsimp only[aAa,AD]
  repeat(first|(refine st ?_;intros)|refine G.draw [] (h:= ?_)|refine G.drawOrd (id:=10) [1,0,2,3,4,5,6,7,8,9] [(0,.eff [1])] (h:= ?_)|refine G.drawOrd (id:=11) [1,0,2,3,4,5,6,7,8,9] [(0,.eff [1])] (h:= ?_)|(refine cq hAw ?_)|(refine cq hSm ?_))
  (refine Dn.post (Hr:=[c]) Tryz.results10 (hR:= ?_);exact⟨rfl,rfl⟩)
 have hLo:=fun bw bd ba bs cd ca cs hW=>aNn bw bd ba bs 90 (by omega) cd ca cs hW N (by omega) p m cap es c hv (by omega) hin
 have hOf:=aVz N (by omega) p m cap es c hv (by omega) hin
 have ra:(a:Int).tmod (N:Int)=((a%N:Nat):Int):=by rw[CW (by omega)];rfl
 have rd:(d:Int).tmod (N:Int)=((d%N:Nat):Int):=by rw[CW (by omega)];rfl
 have la:a%N<N:=Nat.mod_lt _ (by omega)
 have ld:d%N<N:=Nat.mod_lt _ (by omega)
 generalize a%N=x at*
 generalize d%N=y at*
 unfold gv at hSm hLo hOf⊢
 refine Ct.intro Tryz.func10 rfl Tryz.ntmps10 (nle rfl) fun w0=> ?_;dsimp only[aAa,AD]
 repeat(first|(refine st ?_;intros)|refine G.draw [] (h:= ?_)|refine G.drawOrd (id:=10) [1,0,2,3,4,5,6,7,8,9] [(0,.eff [1])] (h:= ?_)|refine G.drawOrd (id:=11) [1,0,2,3,4,5,6,7,8,9] [(0,.eff [1])] (h:= ?_)|(refine cq hAw ?_)|(refine cq hSm ?_))
 rename_i b3 b7
 rw[ra,rd]
 refine R.call (hct:=hOf) (h:= ?_)
 rintro _ _ ⟨pe,ke,ce,pl,kl,cl,pf,nf,kf,cf,pt,nt,kt,ct,pz,kz,cz,lab,fl,r,b,tl,l,rfl,rfl,hOk⟩
 try dsimp only[AA,AB]
 have hP:=hOk.parts
 have hT:=hOk.tab
 have hlab:=hP.labs.len
 obtain⟨bl,ofl,csl,Tl,fzl,rfl,rfl,_,hgl⟩:=(RV.rw hOk.la).pos aAr (by omega)
 obtain⟨lx,hlx⟩:∃lx,lab[x]? =some lx:=⟨_,AE (by omega)⟩
 obtain⟨ly,hly⟩:∃ly,lab[y]? =some ly:=⟨_,AE (by omega)⟩
 have qx:csl[ofl+x*5+1]? =some (.int .i64 lx):=by
  have:=hgl x 1 _ _ (aBs (by rw[aSr];omega)) rfl
  rwa[aIx hlx] at this
 have qy:csl[ofl+y*5+1]? =some (.int .i64 ly):=by
  have:=hgl y 1 _ _ (aBs (by rw[aSr];omega)) rfl
  rwa[aIx hly] at this
 by_cases hxy:lx=ly
 rotate_left
 ·repeat(first|(refine st ?_;intros)|refine G.draw [] (h:= ?_)|refine G.drawOrd (id:=10) [1,0,2,3,4,5,6,7,8,9] [(0,.eff [1])] (h:= ?_)|refine G.drawOrd (id:=11) [1,0,2,3,4,5,6,7,8,9] [(0,.eff [1])] (h:= ?_)|(refine cq hAw ?_)|(refine cq hSm ?_))
  (refine Dn.post (Hr:=[c]) Tryz.results10 (hR:= ?_);exact⟨rfl,rfl⟩)
 subst hxy
 repeat(first|(refine stn ?_;intros)|refine G.draw [] (h:= ?_)|refine G.drawOrd (id:=10) [1,0,2,3,4,5,6,7,8,9] [(0,.eff [1])] (h:= ?_)|refine G.drawOrd (id:=11) [1,0,2,3,4,5,6,7,8,9] [(0,.eff [1])] (h:= ?_)|(refine cq hAw ?_)|(refine cq hSm ?_))
 apply G.seq
 repeat(first|(refine stn ?_;intros)|refine G.draw [] (h:= ?_)|refine G.drawOrd (id:=10) [1,0,2,3,4,5,6,7,8,9] [(0,.eff [1])] (h:= ?_)|refine G.drawOrd (id:=11) [1,0,2,3,4,5,6,7,8,9] [(0,.eff [1])] (h:= ?_)|(refine cq hAw ?_)|(refine cq hSm ?_))
 apply G.seq
 repeat(first|(refine stn ?_;intros)|refine G.draw [] (h:= ?_)|refine G.drawOrd (id:=10) [1,0,2,3,4,5,6,7,8,9] [(0,.eff [1])] (h:= ?_)|refine G.drawOrd (id:=11) [1,0,2,3,4,5,6,7,8,9] [(0,.eff [1])] (h:= ?_)|(refine cq hAw ?_)|(refine cq hSm ?_))
 apply G.seq
 repeat(first|(refine stn ?_;intros)|refine G.draw [] (h:= ?_)|refine G.drawOrd (id:=10) [1,0,2,3,4,5,6,7,8,9] [(0,.eff [1])] (h:= ?_)|refine G.drawOrd (id:=11) [1,0,2,3,4,5,6,7,8,9] [(0,.eff [1])] (h:= ?_)|(refine cq hAw ?_)|(refine cq hSm ?_))
 rename_i b9
 refine G.cut (D':=[]) (X:=MoX) (fun q=>Vec 51 2 q.p m q.cap (es.flatMap ecl) q.ch) (fun _=>[(9,pv b9),(7,pv b7),(3,pv b3)])
  (fun q=>[q.ch,[(b9,row [.int .i64 (N:Int),.slice q.p m q.cap] 37)],[(b7,row [.int .i64 (x:Int),.int .i64 (y:Int)] 51)],[(b3,row [.int .i64 (N:Int),.slice p m cap] 37)],c]) ?_ ?_
 ·by_cases hm0:m=0
  ·subst hm0
   obtain rfl:es=[]:=List.eq_nil_of_length_eq_zero hel
   repeat(first|(refine st ?_;intros)|refine G.draw [] (h:= ?_)|refine G.drawOrd (id:=10) [1,0,2,3,4,5,6,7,8,9] [(0,.eff [1])] (h:= ?_)|refine G.drawOrd (id:=11) [1,0,2,3,4,5,6,7,8,9] [(0,.eff [1])] (h:= ?_)|(refine cq hAw ?_)|(refine cq hSm ?_))
   exact Dn.meet ⟨none,0,[]⟩ (Vec.nil _ _) (by repeat(first|exact trivial|refine⟨rfl,?_⟩)) (by repeat(first|exact aAo.nil|(apply aAo.cons;·(first|exact aAn.nil|(repeat(first|exact aAn.here|apply aAn.there))))))
  ·obtain⟨bb,off,cs,T,fz,rfl,rfl,hfull⟩:=hv.2.resolve_left (fun h=>hm0 h.1)
   have hnews:(cs.drop off).take (m*2)=es.flatMap ecl:=hfull
   have hlen:(es.flatMap ecl).length=m*2:=by rw[aYu,hel]
   have hone:=bOv es
   have hV0:Vec 51 2 none 0 0 [] []:=Vec.nil _ _
   repeat(first|(refine st ?_;intros)|refine G.draw [] (h:= ?_)|refine G.drawOrd (id:=10) [1,0,2,3,4,5,6,7,8,9] [(0,.eff [1])] (h:= ?_)|refine G.drawOrd (id:=11) [1,0,2,3,4,5,6,7,8,9] [(0,.eff [1])] (h:= ?_)|(refine cq hAw ?_)|(refine cq hSm ?_))
   rename_i q qc qch hq
   rw[BR,AB] at hq
   rw[BR]
   exact Dn.meet ⟨q,qc,qch⟩ hq
 rintro⟨q,qc,qch⟩ hq
 dsimp only at hq⊢
 have hmx:m+1≤maxLen:=by simp only[maxLen];omega
 have hsn:(es++[((x:Int),(y:Int))]).flatMap ecl=es.flatMap ecl++[.int .i64 (x:Int),.int .i64 (y:Int)]:=by
  rw[List.flatMap_append];rfl
 have hin2:∀e∈es++[((x:Int),(y:Int))],inE N e:=by
  intro e he
  rcases List.mem_append.1 he with he|he
  ·exact hin e he
  ·rw[List.mem_singleton] at he;subst he
   unfold inE;dsimp only;omega
 apply G.seq
 repeat(first|(refine stn ?_;intros)|refine G.draw [] (h:= ?_)|refine G.drawOrd (id:=10) [1,0,2,3,4,5,6,7,8,9] [(0,.eff [1])] (h:= ?_)|refine G.drawOrd (id:=11) [1,0,2,3,4,5,6,7,8,9] [(0,.eff [1])] (h:= ?_)|(refine cq hAw ?_)|(refine cq hSm ?_))
 rename_i q2 qc2 qch2 hq2
 rw[←hsn] at hq2
 have hRw:Rw ecl 2 q2 (m+1) (es++[((x:Int),(y:Int))]) qch2:=Rw.ofVec aHr hq2 (by omega)
 have hLo2:=fun bw bd ba bs cd ca cs hW=>aNn bw bd ba bs 90 (by omega) cd ca cs hW N (by omega) q2 (m+1) qc2 _ qch2 hRw (by omega) hin2
 unfold gv at hLo2
 repeat(first|(refine st ?_;intros)|refine G.draw [] (h:= ?_)|refine G.drawOrd (id:=10) [1,0,2,3,4,5,6,7,8,9] [(0,.eff [1])] (h:= ?_)|refine G.drawOrd (id:=11) [1,0,2,3,4,5,6,7,8,9] [(0,.eff [1])] (h:= ?_)|(refine cq hAw ?_)|(refine cq hSm ?_))
 refine R.callX (hct:=hWk) (h:= ?_)
 rintro _ _ ⟨bw,bd,ba,bs,cd,ca,cs,rfl,rfl,hW⟩
 try dsimp only[AA,AB]
 refine nx ?_
 have hLo:=hLo bw bd ba bs cd ca cs hW
 repeat(first|(refine st ?_;intros)|refine G.draw [] (h:= ?_)|refine G.drawOrd (id:=10) [1,0,2,3,4,5,6,7,8,9] [(0,.eff [1])] (h:= ?_)|refine G.drawOrd (id:=11) [1,0,2,3,4,5,6,7,8,9] [(0,.eff [1])] (h:= ?_)|(refine cq hAw ?_)|(refine cq hSm ?_))
 refine R.callX (hct:=hLo) (h:= ?_)
 rintro _ _ ⟨cd1,ca1,cs1,W1,po,oc,co,bq,qs,fs,lab1,fl1,r1,tb1,tl1,l1,o,rfl,rfl,hW1,hqs,hO1,hVo,hP1,hT1,hLw1,hls1⟩
 try dsimp only[AA,AB]
 refine nx ?_
 repeat(first|(refine st ?_;intros)|refine G.draw [] (h:= ?_)|refine G.drawOrd (id:=10) [1,0,2,3,4,5,6,7,8,9] [(0,.eff [1])] (h:= ?_)|refine G.drawOrd (id:=11) [1,0,2,3,4,5,6,7,8,9] [(0,.eff [1])] (h:= ?_)|(refine cq hAw ?_)|(refine cq hSm ?_))
 refine R.callX (hct:=hWk) (h:= ?_)
 rintro _ _ ⟨bw2,bd2,ba2,bs2,cd2,ca2,cs2,rfl,rfl,hW2⟩
 try dsimp only[AA,AB]
 refine nx ?_
 have hLo2:=hLo2 bw2 bd2 ba2 bs2 cd2 ca2 cs2 hW2
 repeat(first|(refine st ?_;intros)|refine G.draw [] (h:= ?_)|refine G.drawOrd (id:=10) [1,0,2,3,4,5,6,7,8,9] [(0,.eff [1])] (h:= ?_)|refine G.drawOrd (id:=11) [1,0,2,3,4,5,6,7,8,9] [(0,.eff [1])] (h:= ?_)|(refine cq hAw ?_)|(refine cq hSm ?_))
 refine R.callX (hct:=hLo2) (h:= ?_)
 rintro _ _ ⟨cd3,ca3,cs3,W3,po2,oc2,co2,bq2,qs2,fs2,lab2,fl2,r2,tb2,tl2,l2,o2,rfl,rfl,hW3,hqs2,hO3,hVo2,hP2,hT2,hLw2,hls2⟩
 try dsimp only[AA,AB]
 refine nx ?_
 obtain⟨rfl,rfl⟩:=hP1.uniq hP
 have hPm:=bCf hP1 ((x:Int),(y:Int)) (by unfold inE;dsimp only;omega) (by dsimp only;rw[AP,AP,hlx,hly])
 obtain⟨rfl,rfl⟩:=hPm.uniq hP2
 obtain rfl:=aSz hP2.fors hPm.fors
 obtain rfl:l1=l2:=hls1.symm.trans hls2
 have hmo:=fun {k:Nat} (hk:k<N)=>aHy.more hT1 hP1.fors.1 hLw1 hLw2 hk
 have hVo:=RV.vec hVo
 have hVo2:=RV.vec hVo2
 repeat(first|(refine st ?_;intros)|refine G.draw [] (h:= ?_)|refine G.drawOrd (id:=10) [1,0,2,3,4,5,6,7,8,9] [(0,.eff [1])] (h:= ?_)|refine G.drawOrd (id:=11) [1,0,2,3,4,5,6,7,8,9] [(0,.eff [1])] (h:= ?_)|(refine cq hAw ?_)|(refine cq hSm ?_))
 refine G.loop (X:=Nat) (fun i=>i≤N) (fun i=>[(16,.int .i64 (i:Int)),(13,.slice po2 N oc2),(10,.slice po N oc)])
  (fun _=>[co2,co,c]) (fun i=>N-i) 0 (Nat.zero_le _) (body:= ?_)
 intro i hi
 by_cases hlt:i<N
 rotate_left
 ·obtain rfl:i=N:=by omega
  repeat(first|(refine st ?_;intros)|refine G.draw [] (h:= ?_)|refine G.drawOrd (id:=10) [1,0,2,3,4,5,6,7,8,9] [(0,.eff [1])] (h:= ?_)|refine G.drawOrd (id:=11) [1,0,2,3,4,5,6,7,8,9] [(0,.eff [1])] (h:= ?_)|(refine cq hAw ?_)|(refine cq hSm ?_))
  (refine Dn.post (Hr:=[c]) Tryz.results10 (hR:= ?_);exact⟨rfl,rfl⟩)
 obtain⟨bo,ofo,cso,To,fzo,rfl,rfl,_,hgo⟩:=(RV.rw hVo).pos aAr (by omega)
 obtain⟨bz,ofz,csz,Tz,fzz,rfl,rfl,_,hgz⟩:=(RV.rw hVo2).pos aAr (by omega)
 obtain⟨lo,hi2,lo',hi',g1,g2,g3,g4⟩:=hmo hlt
 have q0:cso[ofo+i*5]? =some (.int .i64 (i:Int)):=hgo i 0 _ _ g1 rfl
 have q1:cso[ofo+i*5+1]? =some (.int .i64 lo):=hgo i 1 _ _ g1 rfl
 have q2:cso[ofo+i*5+2]? =some (.int .i64 hi2):=hgo i 2 _ _ g1 rfl
 have z0:csz[ofz+i*5]? =some (.int .i64 (i:Int)):=hgz i 0 _ _ g2 rfl
 have z1:csz[ofz+i*5+1]? =some (.int .i64 lo'):=hgz i 1 _ _ g2 rfl
 have z2:csz[ofz+i*5+2]? =some (.int .i64 hi'):=hgz i 2 _ _ g2 rfl
 repeat(first|(refine st ?_;intros)|refine G.draw [] (h:= ?_)|refine G.drawOrd (id:=10) [1,0,2,3,4,5,6,7,8,9] [(0,.eff [1])] (h:= ?_)|refine G.drawOrd (id:=11) [1,0,2,3,4,5,6,7,8,9] [(0,.eff [1])] (h:= ?_)|(refine cq hAw ?_)|(refine cq hSm ?_))
 refine Dn.round (i+1) (by omega) (by omega)
open Go.ChangeShapes Go.WideShapes Go.ChangeAt Go.RowKit
set_option maxRecDepth 100000 in
theorem LowMore_lifted (os:Os) (started:os.Started) (H:Type) (enc:TypeId×Value→H):
  ReturnsInHanded {} DL os 10 .any (Rows.lowMoreSpec.pre6 enc AC Tryz.f10 Rows.lowMoreRow.domain false) (Rows.lowMoreSpec.post enc AC Tryz.f10 false true false false):=by
 refine returnsInHanded_of_change (C:=DL) own started (by kernel_rfl) Tryz.func10
  (ChangeSpec.witness6 (enc:=enc) (C:=DL) false ⟨#[],#[.agg #[.int .i64 0,.slice none 0 0],.int .u8 0,.int .u8 0],[]⟩ 8 (by kernel_rfl) (by kernel_rfl) (by kernel_rfl) (by kernel_rfl)) ?_
 intro W base args ds gs before hval0 hW hcnd _
 have hval:∀(j:Nat) t v,Tryz.f10.params[j]? =some t→args[j]? =some v→Value.okWide AC W .any base t v:=hval0
 have hW':=hW
 obtain⟨p,q,hA0,hV,rfl,hfz,hnd⟩:=hW
 have hA:DataW.TrodAll enc AC W 0 (fun _=>true) true Tryz.f10.params.toList args.toList ds p:=hA0
 rw[Tryz.params10] at hA hval
 obtain⟨rfl,rfl⟩:=trodVars_none hV
 obtain⟨v0,v1,v2,d0,d1,d2,p0,p1,p2,rfl,rfl,rfl,h0,h1,h2⟩:=trodAll_three hA
 obtain⟨n,p,m,cap,es,ch,rfl,hv,hm,hc,hnd'⟩:=aHw Tryz.underlying37 CS Tryz.underlying35 Tryz.underlying51 CS CS rfl rfl (by kernel_rfl) (by kernel_rfl) (by kernel_rfl) (by kernel_rfl) rfl rfl (by kernel_rfl) (by kernel_rfl) h0 (hval 0 _ v0 rfl rfl)
 obtain⟨e1,he1,rfl⟩:=aNo Tryz.underlying5 (hval 1 _ v1 rfl rfl)
 obtain⟨e2,he2,rfl⟩:=aNo Tryz.underlying5 (hval 2 _ v2 rfl rfl)
 clear hA0 hval0
 refine(aJl hc hnd' (bCg n p m cap es ch hv hm e1 he1 e2 he2)).mono fun e W' ⟨he,hw⟩=> ?_
 subst he
 exact⟨_,rfl,aPi hW' rfl rfl (by kernel_rfl) aPh (by decide+kernel) rfl hw⟩
theorem LowMore_holds:Rows.LowMoreSaid:=
 OpenClaim.holds_of_wide 10 Tryz.f10 rfl rfl rfl rfl rfl rfl rfl ⟨rfl,rfl,rfl,rfl,rfl⟩ rfl rfl rfl rfl rfl (by kernel_rfl) Tryz.func10 (by kernel_rfl)
  (of_decide_eq_true (by kernel_rfl)) (by unfold Func.isWrapper;first|(rw[if_pos (by decide+kernel)];kernel_rfl)|(rw[if_neg (by decide+kernel)];exact⟨rfl,rfl⟩))
  (fun os started H enc _=>LowMore_lifted os started H enc)
end Go.Proofs.YtammjnjpheobaaaGreat
