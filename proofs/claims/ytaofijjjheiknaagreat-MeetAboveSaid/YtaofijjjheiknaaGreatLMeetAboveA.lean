/-
  Parts of the proof, put together: MeetAbove0. No condition.
-/
import Derived.Test.YtaofijjjheiknaaGreatM16
set_option linter.unusedVariables false
set_option linter.unusedSimpArgs false
set_option linter.unnecessarySimpa false
set_option maxHeartbeats 4000000
open Go.IntKind renaming wrap→AJ
open Go.Proofs.Tryz renaming prog→AC
open Int renaming toNat_natCast→AR
open List renaming cons_append→AA,nil_append→AB,getElem?_eq_getElem→AE,length_cons→AL
open Nat renaming reduceAdd→AD,zero_le→AS
open Option.some renaming inj→BD
namespace Go.Proofs.YtaofijjjheiknaaGreat
open Go.SL Go.Spc Go.Tup Go.Srt Go.Gr
theorem bKz {lab:List Int} {u:Nat} {x:Int} (h:lab[u]? =some x):(aAy lab)[u]? =some ⟨(u:Int),x,0,0,0⟩:=by
 have hu:=(List.getElem?_eq_some_iff.1 h).1
 unfold aAy
 rw[List.getElem?_map,List.getElem?_range hu]
 simp only[Option.map_some,List.getD_eq_getElem?_getD,h,Option.getD_some]
structure AbX where
 i:Nat
 q:Option Addr
 qc:Nat
 qh:aAc
structure CbX where
 k:Nat
 u:Nat
 ch:List Int
theorem MeetAbove_ct (n:Int) (p:Option Addr) (m cap:Nat) (es:List IE) (c:aAc) (hv:Rw ecl 2 p m es c) (hm:m≤maxLen) (e:Nat) (he:e<256):
  CtQ AC 5 [gv n p m cap,.int .u8 (e:Int)] [c] (.bool true):=by
 have ac:=aJa
 have dy:=hv.1
 have aa:=aJk n p m cap es c hv hm
 have ab:=aTp n p m cap 30 45 hm
 have c7:Ct AC 20 [.int .i64 9] [] fun v H'=>
  ∃bw bd ba bs cd ca cs,v=pv bw∧H'=[aAi bw bd ba bs,cd,ca,cs]∧Wc bd ba bs (wk0 10 9000 90) cd ca cs:=aJq 9 oM
 have e1:AJ .i64 (e:Int)=(e:Int):=aAd oM
 unfold gv at aa ab⊢
 cases hfm:aDp n es with
 |false=>
  rw[hfm] at aa
  refine Ct.go Tryz.func5 Tryz.ntmps5 fun w0=> ?_
  repeat(first|(refine st ?_;intros)|refine G.drawOrd (id:=9) [1,2,0,3,4,5,6,7,8,9,10] [(0,.eff [1])] (h:= ?_)|refine G.draw [] (h:= ?_)|refine cq ac ?_|refine cq aa ?_|refine cq ab ?_|refine cq hBu ?_|refine cq hBv ?_)
  (refine Dn.post (Hr:=[c]) Tryz.results5 (hR:= ?_);exact⟨rfl,rfl⟩)
 |true=>
 rw[hfm] at aa
 by_cases az:n≤30∧(m:Int)≤45
 rotate_left
 ·rw[aBu az] at ab
  refine Ct.go Tryz.func5 Tryz.ntmps5 fun w0=> ?_
  repeat(first|(refine st ?_;intros)|refine G.drawOrd (id:=9) [1,2,0,3,4,5,6,7,8,9,10] [(0,.eff [1])] (h:= ?_)|refine G.draw [] (h:= ?_)|refine cq ac ?_|refine cq aa ?_|refine cq ab ?_|refine cq hBu ?_|refine cq hBv ?_)
  (refine Dn.post (Hr:=[c]) Tryz.results5 (hR:= ?_);exact⟨rfl,rfl⟩)
 rw[aBf az] at ab
 obtain⟨h0,ah⟩:=aLn hfm
 obtain⟨N,rfl⟩:∃N:Nat,n=(N:Int):=⟨n.toNat,oM⟩
 have bi:=bKp N oM p m cap es c hv oM ah
 have a3:=fun bw bd ba bs cd ca cs hW=>aKp bw bd ba bs 90 oM cd ca cs hW N oM p m cap es c hv oM ah
 unfold gv at bi a3
 refine Ct.go Tryz.func5 Tryz.ntmps5 fun w0=> ?_
 repeat(first|(refine st ?_;intros)|refine G.drawOrd (id:=9) [1,2,0,3,4,5,6,7,8,9,10] [(0,.eff [1])] (h:= ?_)|refine G.draw [] (h:= ?_)|refine cq ac ?_|refine cq aa ?_|refine cq ab ?_|refine cq hBu ?_|refine cq hBv ?_)
 rename_i b2
 refine R.call (hct:=bi) (h:= ?_)
 rintro _ _ ⟨pe,ke,ce,pl,kl,cl,pf,nf,kf,cf,pt,nt,kt,ct,pz,kz,cz,lab,fl,r,b,tl,l,rfl,rfl,ai⟩
 try dsimp only[AA,AB]
 have hP:=ai.parts
 have hT:=ai.tab
 have a4:=ai.o
 have c8:=ai.la
 repeat(first|(refine st ?_;intros)|refine G.drawOrd (id:=9) [1,2,0,3,4,5,6,7,8,9,10] [(0,.eff [1])] (h:= ?_)|refine G.draw [] (h:= ?_)|refine cq ac ?_|refine cq aa ?_|refine cq ab ?_|refine cq hBu ?_|refine cq hBv ?_)
 rename_i b5
 refine G.loop (X:=AbX) (fun s=>s.i≤N∧Vec 33 5 s.q s.i s.qc (flat (aUj N e s.i)) s.qh)
  (fun s=>[(7,.int .i64 (s.i:Int)),(6,.slice s.q s.i s.qc),(5,pv b5),(2,pv b2),(1,.int .u8 (e:Int))])
  (fun s=>[s.qh,[(b5,row [.slice pe m ke,.slice pl N kl,.slice pf nf kf,.slice pt nt kt,.slice pz N kz] 30)],[(b2,row [.int .i64 (N:Int),.slice p m cap] 24)],cl,cz,c]) (fun s=>N-s.i) ⟨0,none,0,[]⟩ ⟨AS _,Vec.nil _ _⟩ oA3 oA0 ?_
 rintro⟨i,q,qc,qh⟩ ⟨hi,aj⟩
 dsimp only at hi aj⊢
 by_cases c9:i<N
 ·have w1:AJ .i64 ((i:Int)+(e:Int))=((i+e:Nat):Int):=by rw[aAd oM];omega
  have w2:((i+e:Nat):Int).tmod (N:Int)=(((i+e)%N:Nat):Int):=by rw[Int.tmod_eq_emod_of_nonneg oM];rfl
  have dz:(N:Int)≠0:=oM
  have a5:i+1≤maxLen:=by simp only[maxLen];omega
  repeat(first|(refine st ?_;intros)|refine G.drawOrd (id:=9) [1,2,0,3,4,5,6,7,8,9,10] [(0,.eff [1])] (h:= ?_)|refine G.draw [] (h:= ?_)|refine cq ac ?_|refine cq aa ?_|refine cq ab ?_|refine cq hBu ?_|refine cq hBv ?_)
  rename_i b4 p1 k1 c1 bk
  rw[w2] at bk
  have bp:Vec 33 5 p1 (i+1) k1 (flat (aUj N e (i+1))) c1:=by
   rw[show aUj N e (i+1)=aUj N e i++[abF N e i] from rfl,flat_append]
   exact bk
  refine Dn.round ⟨i+1,p1,k1,c1⟩ ⟨c9,bp⟩ oD
 ·obtain rfl:N=i:=by omega
  repeat(first|(refine st ?_;intros)|refine G.drawOrd (id:=9) [1,2,0,3,4,5,6,7,8,9,10] [(0,.eff [1])] (h:= ?_)|refine G.draw [] (h:= ?_)|refine cq ac ?_|refine cq aa ?_|refine cq ab ?_|refine cq hBu ?_|refine cq hBv ?_)
  refine R.callX (hct:=c7) (h:= ?_)
  rintro _ _ ⟨bw,bd,ba,bs,cd,ca,cs,rfl,rfl,hW⟩
  try dsimp only[AA,AB]
  refine nx ?_
  have bv:=a3 bw bd ba bs cd ca cs hW q N qc (aUj N e N) qh (RV.vec aj) oM (fun t h=>(bKy oM h).2)
  repeat(first|(refine st ?_;intros)|refine G.drawOrd (id:=9) [1,2,0,3,4,5,6,7,8,9,10] [(0,.eff [1])] (h:= ?_)|refine G.draw [] (h:= ?_)|refine cq ac ?_|refine cq aa ?_|refine cq ab ?_|refine cq hBu ?_|refine cq hBv ?_)
  refine R.call (hct:=bv) (h:= ?_)
  rintro _ _ ⟨d0,d1,d2,W1,po,nl,oc,co,d3,d4,d5,qf,fs,dr,d6,r2,d7,tl2,l2,e1,rfl,rfl,da,a6,db,a0,dc,dd,de,df,dg,b1⟩
  try dsimp only[AA,AB]
  obtain⟨rfl,rfl⟩:=a6.uniq hP
  obtain rfl:=aOl hP.fors a6.fors
  obtain rfl:l=l2:=ai.lis.symm.trans a0
  obtain⟨oa,a7⟩:∃oa,aBw (aAy lab) b l (aUj N e N)=oa:=⟨_,rfl⟩
  have b3:=(aUl (k:=e) hP ah hT oM oM).1
  have a8:=(aUl (k:=e) hP ah hT oM oM).2.1
  have a9:=(aUl (k:=e) hP ah hT oM oM).2.2
  rw[a7] at a8 a9
  rw[a7,a8] at b1
  rcases b1 with⟨rfl,_,dh,bc⟩|⟨_,di,_⟩
  rotate_left
  ·exact absurd b3 di
  obtain rfl:N=nl:=dh.symm
  clear a0 dc dd de df dg da a6 db b3 bv a7 a3 a8
  repeat(first|(refine st ?_;intros)|refine G.drawOrd (id:=9) [1,2,0,3,4,5,6,7,8,9,10] [(0,.eff [1])] (h:= ?_)|refine G.draw [] (h:= ?_)|refine cq ac ?_|refine cq aa ?_|refine cq ab ?_|refine cq hBu ?_|refine cq hBv ?_)
  have bc:=RV.vec bc
  have aj:=RV.vec aj
  refine G.loop (X:=Nat) (fun v=>v≤N) (fun v=>[(11,.int .i64 (v:Int)),(8,.slice po N oc),(6,.slice q N qc),(5,pv b5),(2,pv b2)])
   (fun _=>[[(b5,row [.slice pe m ke,.slice pl N kl,.slice pf nf kf,.slice pt nt kt,.slice pz N kz] 30)],[(b2,row [.int .i64 (N:Int),.slice p m cap] 24)],co,qh,cl,cz,c]) (fun v=>N-v) 0 (AS _) (body:= ?_)
  intro v d8
  by_cases ad:v<N
  rotate_left
  ·obtain rfl:N=v:=by omega
   repeat(first|(refine st ?_;intros)|refine G.drawOrd (id:=9) [1,2,0,3,4,5,6,7,8,9,10] [(0,.eff [1])] (h:= ?_)|refine G.draw [] (h:= ?_)|refine cq ac ?_|refine cq aa ?_|refine cq ab ?_|refine cq hBu ?_|refine cq hBv ?_)
   (refine Dn.post (Hr:=[c]) Tryz.results5 (hR:= ?_);exact⟨rfl,rfl⟩)
  obtain⟨bo,be,bf,To,b6,rfl,rfl,_,b7⟩:=(RV.rw bc).pos aAr oM
  obtain⟨bq,ap,aq,Tq,b8,rfl,rfl,_,bg⟩:=(RV.rw aj).pos aAr oM
  obtain⟨bz,ak,csz,Tz,au,rfl,rfl,_,b9⟩:=(RV.rw a4).pos aAr oM
  obtain⟨bl,ae,av,Tl,cg,rfl,rfl,_,bh⟩:=(RV.rw c8).pos aAr oM
  obtain⟨mm,dj,ci⟩:=a9 v ad
  have d9:=hT.len
  have aw:(v+e)%N<N:=Nat.mod_lt _ oM
  have q1:bf[be+v*5+1]? =some (.int .i64 mm):=b7 v 1 _ _ ci rfl
  have q2:aq[ap+v*5+1]? =some (.int .i64 (v:Int)):=bg v 1 _ _ (aUk ad) rfl
  have q3:aq[ap+v*5+2]? =some (.int .i64 (((v+e)%N:Nat):Int)):=bg v 2 _ _ (aUk ad) rfl
  generalize (v+e)%N=w at*
  have ds:=hP.labs.len
  have al:lab[v]? =some lab[v]:=AE oM
  have am:lab[w]? =some lab[w]:=AE oM
  have q4:av[ae+v*5+1]? =some (.int .i64 lab[v]):=bh v 1 _ _ (bKz al) rfl
  have q5:av[ae+w*5+1]? =some (.int .i64 lab[w]):=bh w 1 _ _ (bKz am) rfl
  have hg:∀j,j<N→csz[ak+j*5+1]? =some (.int .i64 (at5 l j).c1):=fun j hj=>b9 j 1 _ _ (aCd oM) rfl
  generalize lab[v]=lv at*
  generalize lab[w]=lw at*
  clear a9 ci b7 bg b9 bh
  rcases dj with⟨ag,x,rfl,hx,a5,cj,dk⟩|⟨ag,rfl⟩
  rotate_left
  ·have dl:lv≠lw:=fun h=>ag (by rw[al,am,h])
   clear al am ag
   have ea:(!(dec ((-1:Int)<0)==dec (lv≠lw)))=false:=by rw[aBf oA14,aBf dl];rfl
   repeat(first|(refine st ?_;intros)|refine G.drawOrd (id:=9) [1,2,0,3,4,5,6,7,8,9,10] [(0,.eff [1])] (h:= ?_)|refine G.draw [] (h:= ?_)|refine cq ac ?_|refine cq aa ?_|refine cq ab ?_|refine cq hBu ?_|refine cq hBv ?_)
   refine Dn.round (v+1) oM oM
  obtain rfl:lv=lw:=by rw[al,am] at ag;exact BD ag
  clear al am ag
  have eb:(!(dec ((x:Int)<0)==dec (lv≠lv)))=false:=by rw[aBu oM,aBu oA15];rfl
  obtain⟨cu,wu,lu,bu,iu⟩:=hT.below ad
  obtain⟨cw,ww,dm,dp,iw⟩:=hT.below aw
  have hBu:=aQm pe m ke (some ⟨bl,ae,none⟩) N kl pf nf kf pt nt kt (some ⟨bz,ak,none⟩) N kz l [(bz,aBs csz Tz au)] a4 oM oM (x:Int) (v:Int) cu wu lu bu true (decide_eq_true ((iu x hx).2 a5)).symm
  have hBv:=aQm pe m ke (some ⟨bl,ae,none⟩) N kl pf nf kf pt nt kt (some ⟨bz,ak,none⟩) N kz l [(bz,aBs csz Tz au)] a4 oM oM (x:Int) (w:Int) cw ww dm dp true (decide_eq_true ((iw x hx).2 cj)).symm
  by_cases cm:x=v
  ·subst cm
   repeat(first|(refine st ?_;intros)|refine G.drawOrd (id:=9) [1,2,0,3,4,5,6,7,8,9,10] [(0,.eff [1])] (h:= ?_)|refine G.draw [] (h:= ?_)|refine cq ac ?_|refine cq aa ?_|refine cq ab ?_|refine cq hBu ?_|refine cq hBv ?_)
   refine Dn.round (x+1) oM oM
  by_cases cv:x=w
  ·subst cv
   have c5:(x:Int)≠(v:Int):=oM
   repeat(first|(refine st ?_;intros)|refine G.drawOrd (id:=9) [1,2,0,3,4,5,6,7,8,9,10] [(0,.eff [1])] (h:= ?_)|refine G.draw [] (h:= ?_)|refine cq ac ?_|refine cq aa ?_|refine cq ab ?_|refine cq hBu ?_|refine cq hBv ?_)
   refine Dn.round (v+1) oM oM
  have c5:(x:Int)≠(v:Int):=oM
  have dt:(x:Int)≠(w:Int):=oM
  repeat(first|(refine st ?_;intros)|refine G.drawOrd (id:=9) [1,2,0,3,4,5,6,7,8,9,10] [(0,.eff [1])] (h:= ?_)|refine G.draw [] (h:= ?_)|refine cq ac ?_|refine cq aa ?_|refine cq ab ?_|refine cq hBu ?_|refine cq hBv ?_)
  refine G.loop (X:=CbX) (fun s=>s.u<N∧s.u≠x∧Sub l x s.u∧Sub l s.u v∧Way (fun x=>(at5 l x.toNat).c1) (s.u:Int) s.ch∧s.ch.length+s.k≤N)
   (fun s=>[(15,.int .i64 (s.k:Int)),(14,.int .i64 (w:Int)),(13,.int .i64 (s.u:Int)),(12,.int .i64 (x:Int)),(11,.int .i64 (v:Int)),(8,.slice (some ⟨bo,be,none⟩) N oc),(6,.slice (some ⟨bq,ap,none⟩) N qc),(5,pv b5),(2,pv b2)])
   (fun _=>[[(b5,row [.slice pe m ke,.slice (some ⟨bl,ae,none⟩) N kl,.slice pf nf kf,.slice pt nt kt,.slice (some ⟨bz,ak,none⟩) N kz] 30)],[(b2,row [.int .i64 (N:Int),.slice p m cap] 24)],[(bo,aBs bf To b6)],[(bq,aBs aq Tq b8)],[(bl,aBs av Tl cg)],[(bz,aBs csz Tz au)],c]) (fun s=>N-s.k) ⟨0,v,cu⟩ ⟨ad,fun h=>cm h.symm,a5,aIx hT ad,wu,oD⟩ (body:= ?_)
  rintro⟨k,u,ch⟩ ⟨j1,j2,j3,j4,j5,j6⟩
  dsimp only at j1 j2 j3 j4 j5 j6⊢
  have hq:=hg u j1
  have ec:k<N:=by
   cases j5 with
   |top h=>omega
   |up _ _=>rw[AL] at j6;omega
  obtain⟨pr,p1,p2,p3,p4⟩:=climb hT hx j1 ad j3 j2 j4
  rw[p2] at hq
  by_cases c6:pr=x
  rotate_left
  ·have an:(pr:Int)≠(x:Int):=oM
   obtain⟨ao,a1⟩:∃ao,Way (fun x=>(at5 l x.toNat).c1) (pr:Int) ao∧ao.length+(k+1)≤N:=by
    cases j5 with
    |top h=>omega
    |up _ hw=>
     rw[AR,p2] at hw
     rw[AL] at j6
     exact⟨_,hw,oM⟩
   repeat(first|(refine st ?_;intros)|refine G.drawOrd (id:=9) [1,2,0,3,4,5,6,7,8,9,10] [(0,.eff [1])] (h:= ?_)|refine G.draw [] (h:= ?_)|refine cq ac ?_|refine cq aa ?_|refine cq ab ?_|refine cq hBu ?_|refine cq hBv ?_)
   refine Dn.round ⟨k+1,pr,ao⟩ ⟨p1,c6,p3,p4,a1.1,a1.2⟩ oD
  subst c6
  repeat(first|(refine st ?_;intros)|refine G.drawOrd (id:=9) [1,2,0,3,4,5,6,7,8,9,10] [(0,.eff [1])] (h:= ?_)|refine G.draw [] (h:= ?_)|refine cq ac ?_|refine cq aa ?_|refine cq ab ?_|refine cq hBu ?_|refine cq hBv ?_)
  refine G.loop (X:=CbX) (fun s=>s.u<N∧s.u≠pr∧Sub l pr s.u∧Sub l s.u w∧Way (fun x=>(at5 l x.toNat).c1) (s.u:Int) s.ch∧s.ch.length+s.k≤N)
   (fun s=>[(16,.int .i64 (s.k:Int)),(14,.int .i64 (s.u:Int)),(13,.int .i64 (u:Int)),(12,.int .i64 (pr:Int)),(11,.int .i64 (v:Int)),(8,.slice (some ⟨bo,be,none⟩) N oc),(6,.slice (some ⟨bq,ap,none⟩) N qc),(5,pv b5),(2,pv b2)])
   (fun _=>[[(b5,row [.slice pe m ke,.slice (some ⟨bl,ae,none⟩) N kl,.slice pf nf kf,.slice pt nt kt,.slice (some ⟨bz,ak,none⟩) N kz] 30)],[(b2,row [.int .i64 (N:Int),.slice p m cap] 24)],[(bo,aBs bf To b6)],[(bq,aBs aq Tq b8)],[(bl,aBs av Tl cg)],[(bz,aBs csz Tz au)],c]) (fun s=>N-s.k) ⟨0,w,cw⟩ ⟨aw,fun h=>cv h.symm,cj,aIx hT aw,ww,oD⟩ (body:= ?_)
  rintro⟨k2,u2,ao⟩ ⟨i1,i2,i3,i4,i5,i6⟩
  dsimp only at i1 i2 i3 i4 i5 i6⊢
  have dq:=hg u2 i1
  have du:k2<N:=by
   cases i5 with
   |top h=>omega
   |up _ _=>rw[AL] at i6;omega
  obtain⟨ax,r1,r2,r3,r4⟩:=climb hT hx i1 aw i3 i2 i4
  rw[r2] at dq
  by_cases an:ax=pr
  rotate_left
  ·have dw:(ax:Int)≠(pr:Int):=oM
   obtain⟨ay,a2⟩:∃ay,Way (fun x=>(at5 l x.toNat).c1) (ax:Int) ay∧ay.length+(k2+1)≤N:=by
    cases i5 with
    |top h=>omega
    |up _ hw=>
     rw[AR,r2] at hw
     rw[AL] at i6
     exact⟨_,hw,oM⟩
   repeat(first|(refine st ?_;intros)|refine G.drawOrd (id:=9) [1,2,0,3,4,5,6,7,8,9,10] [(0,.eff [1])] (h:= ?_)|refine G.draw [] (h:= ?_)|refine cq ac ?_|refine cq aa ?_|refine cq ab ?_|refine cq hBu ?_|refine cq hBv ?_)
   refine Dn.round ⟨k2+1,ax,ay⟩ ⟨r1,an,r3,r4,a2.1,a2.2⟩ oD
  subst an
  have ee:u≠u2:=fun h=>by subst h;exact bOc hT hx j1 p2 j4 i4 dk
  have dx:(u:Int)≠(u2:Int):=oM
  repeat(first|(refine st ?_;intros)|refine G.drawOrd (id:=9) [1,2,0,3,4,5,6,7,8,9,10] [(0,.eff [1])] (h:= ?_)|refine G.draw [] (h:= ?_)|refine cq ac ?_|refine cq aa ?_|refine cq ab ?_|refine cq hBu ?_|refine cq hBv ?_)
  refine Dn.round (v+1) oM oM
end Go.Proofs.YtaofijjjheiknaaGreat
