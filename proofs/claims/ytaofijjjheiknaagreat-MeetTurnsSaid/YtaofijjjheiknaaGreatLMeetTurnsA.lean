/-
  Parts of the proof, put together: MeetTurns0. No condition.
-/
import Derived.Test.YtaofijjjheiknaaGreatM16
set_option linter.unusedVariables false
set_option linter.unusedSimpArgs false
set_option linter.unnecessarySimpa false
set_option maxHeartbeats 4000000
open Go.IntKind renaming wrap→AJ
open Go.Proofs.Tryz renaming prog→AC
open List renaming cons_append→AA,nil_append→AB,append_assoc→AP
open Nat renaming reduceAdd→AD,zero_le→AS
namespace Go.Proofs.YtaofijjjheiknaaGreat
open Go.SL Go.Spc Go.Tup Go.Srt Go.Gr
structure TqX where
 i:Nat
 q:Option Addr
 qc:Nat
 qh:aAc
 p:Option Addr
 pc:Nat
 ph:aAc
theorem MeetTurns_ct (n:Int) (p:Option Addr) (m cap:Nat) (es:List IE) (c:aAc) (hv:Rw ecl 2 p m es c) (hm:m≤maxLen):
  CtQ AC 3 [gv n p m cap] [c] (.bool true):=by
 have ac:=aJa
 have d5:=hv.1
 have aa:=aJk n p m cap es c hv hm
 have ab:=aTp n p m cap 30 50 hm
 have a8:Ct AC 20 [.int .i64 9] [] fun v H'=>
  ∃bw bd ba bs cd ca cs,v=pv bw∧H'=[aAi bw bd ba bs,cd,ca,cs]∧Wc bd ba bs (wk0 10 9000 90) cd ca cs:=aJq 9 oM
 unfold gv at aa ab⊢
 cases hfm:aDp n es with
 |false=>
  rw[hfm] at aa
  refine Ct.go Tryz.func3 Tryz.ntmps3 fun w0=> ?_
  repeat(first|(refine st ?_;intros)|refine G.drawOrd (id:=13) [1,2,0,3,4,5,6,7,8,9,10] [(0,.eff [1])] (h:= ?_)|refine G.drawOrd (id:=14) [1,2,0,3,4,5,6,7,8,9,10] [(0,.eff [1])] (h:= ?_)|refine G.draw [] (h:= ?_)|refine cq ac ?_|refine cq aa ?_|refine cq ab ?_)
  (refine Dn.post (Hr:=[c]) Tryz.results3 (hR:= ?_);exact⟨rfl,rfl⟩)
 |true=>
 rw[hfm] at aa
 by_cases al:n≤30∧(m:Int)≤50
 rotate_left
 ·rw[aBu al] at ab
  refine Ct.go Tryz.func3 Tryz.ntmps3 fun w0=> ?_
  repeat(first|(refine st ?_;intros)|refine G.drawOrd (id:=13) [1,2,0,3,4,5,6,7,8,9,10] [(0,.eff [1])] (h:= ?_)|refine G.drawOrd (id:=14) [1,2,0,3,4,5,6,7,8,9,10] [(0,.eff [1])] (h:= ?_)|refine G.draw [] (h:= ?_)|refine cq ac ?_|refine cq aa ?_|refine cq ab ?_)
  (refine Dn.post (Hr:=[c]) Tryz.results3 (hR:= ?_);exact⟨rfl,rfl⟩)
 rw[aBf al] at ab
 obtain⟨h0,ad⟩:=aLn hfm
 obtain⟨N,rfl⟩:∃N:Nat,n=(N:Int):=⟨n.toNat,oM⟩
 have a9:=bKp N oM p m cap es c hv oM ad
 have ah:=fun bw bd ba bs cd ca cs hW=>aKp bw bd ba bs 90 oM cd ca cs hW N oM p m cap es c hv oM ad
 unfold gv at a9 ah
 refine Ct.go Tryz.func3 Tryz.ntmps3 fun w0=> ?_
 repeat(first|(refine st ?_;intros)|refine G.drawOrd (id:=13) [1,2,0,3,4,5,6,7,8,9,10] [(0,.eff [1])] (h:= ?_)|refine G.drawOrd (id:=14) [1,2,0,3,4,5,6,7,8,9,10] [(0,.eff [1])] (h:= ?_)|refine G.draw [] (h:= ?_)|refine cq ac ?_|refine cq aa ?_|refine cq ab ?_)
 rename_i b1
 refine R.call (hct:=a9) (h:= ?_)
 rintro _ _ ⟨pe,ke,ce,pl,kl,cl,pf,nf,kf,cf,pt,nt,kt,ct,pz,kz,cz,lab,fl,r,b,tl,l,rfl,rfl,ae⟩
 try dsimp only[AA,AB]
 have hP:=ae.parts
 have hT:=ae.tab
 have bc:=ae.o
 repeat(first|(refine st ?_;intros)|refine G.drawOrd (id:=13) [1,2,0,3,4,5,6,7,8,9,10] [(0,.eff [1])] (h:= ?_)|refine G.drawOrd (id:=14) [1,2,0,3,4,5,6,7,8,9,10] [(0,.eff [1])] (h:= ?_)|refine G.draw [] (h:= ?_)|refine cq ac ?_|refine cq aa ?_|refine cq ab ?_)
 rename_i b3
 refine G.loop (X:=TqX) (fun s=>s.i≤N∧Vec 33 5 s.q (3*s.i) s.qc (flat (tqs l N s.i)) s.qh∧Vec 33 5 s.p s.i s.pc (flat (tps N s.i)) s.ph)
  (fun s=>[(6,.int .i64 (s.i:Int)),(5,.slice s.p s.i s.pc),(4,.slice s.q (3*s.i) s.qc),(3,pv b3),(1,pv b1)])
  (fun s=>[s.qh,s.ph,[(b3,row [.slice pe m ke,.slice pl N kl,.slice pf nf kf,.slice pt nt kt,.slice pz N kz] 30)],[(b1,row [.int .i64 (N:Int),.slice p m cap] 24)],cz,c]) (fun s=>N-s.i) ⟨0,none,0,[],none,0,[]⟩ ⟨AS _,Vec.nil _ _,Vec.nil _ _⟩ oA3 oA0 ?_
 rintro⟨i,q,qc,qh,pp,pc,ph⟩ ⟨hi,be,bf⟩
 dsimp only at hi be bf⊢
 by_cases cv:i<N
 ·obtain⟨bz,bg,csz,Tz,cw,rfl,rfl,_,ai⟩:=(RV.rw bc).pos aAr oM
  have c5:=hT.len
  have q1:=ai i 1 _ _ (aCd oM) rfl
  have w1:AJ .i64 ((i:Int)*7)=((i*7:Nat):Int):=by rw[aAd oM];omega
  have w2:((i*7:Nat):Int).tmod (N:Int)=((i*7%N:Nat):Int):=by rw[Int.tmod_eq_emod_of_nonneg oM];rfl
  have w3:AJ .i64 (4*(i:Int))=((4*i:Nat):Int):=by rw[aAd oM];omega
  have w4:AJ .i64 (((4*i:Nat):Int)+1)=((4*i+1:Nat):Int):=by rw[aAd oM];omega
  have w5:AJ .i64 (((4*i:Nat):Int)+2)=((4*i+2:Nat):Int):=by rw[aAd oM];omega
  have d6:(N:Int)≠0:=oM
  have d7:3*i+1≤maxLen:=by simp only[maxLen];omega
  have d8:3*i+1+1≤maxLen:=by simp only[maxLen];omega
  have d9:3*i+1+1+1≤maxLen:=by simp only[maxLen];omega
  have ea:i+1≤maxLen:=by simp only[maxLen];omega
  repeat(first|(refine st ?_;intros)|refine G.drawOrd (id:=13) [1,2,0,3,4,5,6,7,8,9,10] [(0,.eff [1])] (h:= ?_)|refine G.drawOrd (id:=14) [1,2,0,3,4,5,6,7,8,9,10] [(0,.eff [1])] (h:= ?_)|refine G.draw [] (h:= ?_)|refine cq ac ?_|refine cq aa ?_|refine cq ab ?_)
  rename_i b4 p1 k1 c1 eb b5 p2 k2 c2 ec b6 p3 k3 c3 ap b7 p4 k4 c4 bh
  rw[w2] at ap bh
  have bi:Vec 33 5 p3 (3*(i+1)) k3 (flat (tqs l N (i+1))) c3:=by
   rw[show 3*(i+1)=3*i+1+1+1 by omega,show tqs l N (i+1)=tqs l N i++tqF l N i from rfl,flat_append]
   rw[AP,AP] at ap
   exact ap
  have bk:Vec 33 5 p4 (i+1) k4 (flat (tps N (i+1))) c4:=by
   rw[show tps N (i+1)=tps N i++[tpF N i] from rfl,flat_append]
   exact bh
  refine Dn.round ⟨i+1,p3,k3,c3,p4,k4,c4⟩ ⟨cv,bi,bk⟩ oD
 ·obtain rfl:N=i:=by omega
  repeat(first|(refine st ?_;intros)|refine G.drawOrd (id:=13) [1,2,0,3,4,5,6,7,8,9,10] [(0,.eff [1])] (h:= ?_)|refine G.drawOrd (id:=14) [1,2,0,3,4,5,6,7,8,9,10] [(0,.eff [1])] (h:= ?_)|refine G.draw [] (h:= ?_)|refine cq ac ?_|refine cq aa ?_|refine cq ab ?_)
  refine R.callX (hct:=a8) (h:= ?_)
  rintro _ _ ⟨bw,bd,ba,bs,cd,ca,cs,rfl,rfl,hW⟩
  try dsimp only[AA,AB]
  refine nx ?_
  have bq:=ah bw bd ba bs cd ca cs hW q (3*N) qc (tqs l N N) qh (RV.vec be) oM (fun t h=>(bKw hT oM h).2)
  repeat(first|(refine st ?_;intros)|refine G.drawOrd (id:=13) [1,2,0,3,4,5,6,7,8,9,10] [(0,.eff [1])] (h:= ?_)|refine G.drawOrd (id:=14) [1,2,0,3,4,5,6,7,8,9,10] [(0,.eff [1])] (h:= ?_)|refine G.draw [] (h:= ?_)|refine cq ac ?_|refine cq aa ?_|refine cq ab ?_)
  refine R.call (hct:=bq) (h:= ?_)
  rintro _ _ ⟨ee,ef,eg,W1,po,nl,oc,co,eh,ei,ej,qf,fs,d3,ek,r2,b2,tl2,l2,e1,rfl,rfl,c6,aq,c7,am,c8,c9,da,db,dc,bu⟩
  try dsimp only[AA,AB]
  obtain⟨rfl,rfl⟩:=aq.uniq hP
  obtain rfl:=aOl hP.fors aq.fors
  obtain rfl:l=l2:=ae.lis.symm.trans am
  obtain⟨oa,aj⟩:∃oa,aBw (aAy lab) b l (tqs l N N)=oa:=⟨_,rfl⟩
  have bv:=(aLp hP ad hT oM oM).1
  have au:=(aLp hP ad hT oM oM).2.1
  rw[aj] at au
  rw[aj,au] at bu
  rcases bu with⟨rfl,_,rfl,av⟩|⟨_,aw,_⟩
  rotate_left
  ·exact absurd bv aw
  have an:Unit→aBw (aAy lab) b l (tqs l N N)=oa:=fun _=>aj
  clear am c8 c9 da db dc c6 aq c7 bv bq aj
  repeat(first|(refine st ?_;intros)|refine G.drawOrd (id:=13) [1,2,0,3,4,5,6,7,8,9,10] [(0,.eff [1])] (h:= ?_)|refine G.drawOrd (id:=14) [1,2,0,3,4,5,6,7,8,9,10] [(0,.eff [1])] (h:= ?_)|refine G.draw [] (h:= ?_)|refine cq ac ?_|refine cq aa ?_|refine cq ab ?_)
  refine R.callX (hct:=a8) (h:= ?_)
  rintro _ _ ⟨dd,de,df,dg,dh,di,dj,rfl,rfl,dk⟩
  try dsimp only[AA,AB]
  refine nx ?_
  have b8:=ah dd de df dg dh di dj dk pp N pc (tps N N) ph (RV.vec bf) oM (fun t h=>(bKx oM h).2)
  repeat(first|(refine st ?_;intros)|refine G.drawOrd (id:=13) [1,2,0,3,4,5,6,7,8,9,10] [(0,.eff [1])] (h:= ?_)|refine G.drawOrd (id:=14) [1,2,0,3,4,5,6,7,8,9,10] [(0,.eff [1])] (h:= ?_)|refine G.draw [] (h:= ?_)|refine cq ac ?_|refine cq aa ?_|refine cq ab ?_)
  refine R.call (hct:=b8) (h:= ?_)
  rintro _ _ ⟨el,em,en,W3,dl,dm,dp,dq,eo,ep,et,eu,ew,d4,ey,r3,ez,e0,l3,e3,rfl,rfl,dr,ax,ds,ao,b9,cg,dt,du,dw,ci⟩
  try dsimp only[AA,AB]
  obtain⟨rfl,rfl⟩:=ax.uniq hP
  obtain rfl:=aOl hP.fors ax.fors
  obtain rfl:l=l3:=ae.lis.symm.trans ao
  obtain⟨ob,ak⟩:∃ob,aBw (aAy lab) b l (tps N N)=ob:=⟨_,rfl⟩
  have cj:=(aLp hP ad hT oM oM).2.2.1
  have ay:=(aLp hP ad hT oM oM).2.2.2.1
  have az:=(aLp hP ad hT oM oM).2.2.2.2
  rw[ak] at ay
  rw[ak,ay] at ci
  rw[an (),ak] at az
  rcases ci with⟨rfl,_,dx,ag⟩|⟨_,aw,_⟩
  rotate_left
  ·exact absurd cj aw
  obtain rfl:N=dm:=dx.symm
  clear ao b9 cg dt du dw dr ax ds cj b8 ak an ah au ay
  have e2:AJ .i64 (3*(N:Int))=((3*N:Nat):Int):=by rw[aAd oM];omega
  repeat(first|(refine st ?_;intros)|refine G.drawOrd (id:=13) [1,2,0,3,4,5,6,7,8,9,10] [(0,.eff [1])] (h:= ?_)|refine G.drawOrd (id:=14) [1,2,0,3,4,5,6,7,8,9,10] [(0,.eff [1])] (h:= ?_)|refine G.draw [] (h:= ?_)|refine cq ac ?_|refine cq aa ?_|refine cq ab ?_)
  have av:=RV.vec av
  have ag:=RV.vec ag
  refine G.loop (X:=Nat) (fun v=>v≤N) (fun v=>[(14,.int .i64 (v:Int)),(11,.slice dl N dp),(8,.slice po (3*N) oc),(3,pv b3),(1,pv b1)])
   (fun _=>[[(b3,row [.slice pe m ke,.slice pl N kl,.slice pf nf kf,.slice pt nt kt,.slice pz N kz] 30)],[(b1,row [.int .i64 (N:Int),.slice p m cap] 24)],co,dq,cz,c]) (fun v=>N-v) 0 (AS _) (body:= ?_)
  intro v e4
  by_cases dy:v<N
  rotate_left
  ·obtain rfl:N=v:=by omega
   repeat(first|(refine st ?_;intros)|refine G.drawOrd (id:=13) [1,2,0,3,4,5,6,7,8,9,10] [(0,.eff [1])] (h:= ?_)|refine G.drawOrd (id:=14) [1,2,0,3,4,5,6,7,8,9,10] [(0,.eff [1])] (h:= ?_)|refine G.draw [] (h:= ?_)|refine cq ac ?_|refine cq aa ?_|refine cq ab ?_)
   (refine Dn.post (Hr:=[c]) Tryz.results3 (hR:= ?_);exact⟨rfl,rfl⟩)
  obtain⟨bo,a0,a6,To,e5,rfl,rfl,cm,a7⟩:=(RV.rw av).pos aAr oM
  obtain⟨bp,dz,d0,Tp,e7,rfl,rfl,cu,d1⟩:=(RV.rw ag).pos aAr oM
  obtain⟨bz,bg,csz,Tz,cw,rfl,rfl,_,ai⟩:=(RV.rw bc).pos aAr oM
  obtain⟨m0,y,a1,a2,a3,a4,a5⟩:=az v dy
  have c5:=hT.len
  have v1:AJ .i64 (3*(v:Int))=((3*v:Nat):Int):=by rw[aAd oM];omega
  have v2:AJ .i64 (((3*v:Nat):Int)+1)=((3*v+1:Nat):Int):=by rw[aAd oM];omega
  have v3:AJ .i64 (((3*v:Nat):Int)+2)=((3*v+2:Nat):Int):=by rw[aAd oM];omega
  have q1:(a6.drop (a0+3*v*5)).take 5=[.int .i64 ((4*v:Nat):Int),.int .i64 m0,.int .i64 0,.int .i64 0,.int .i64 0]:=cm (3*v) _ a1
  have q2:(d0.drop (dz+v*5)).take 5=[.int .i64 ((4*v:Nat):Int),.int .i64 m0,.int .i64 0,.int .i64 0,.int .i64 0]:=cu v _ a2
  have q3:a6[a0+(3*v+1)*5+1]? =some (.int .i64 (v:Int)):=a7 (3*v+1) 1 _ _ a3 rfl
  have q4:a6[a0+(3*v+2)*5+1]? =some (.int .i64 y):=a7 (3*v+2) 1 _ _ a4 rfl
  have q5:csz[bg+v*5+1]? =some (.int .i64 (at5 l v).c1):=ai v 1 _ _ (aCd oM) rfl
  clear az a1 a2 a3 a4 a7 d1 ai cm cu
  generalize (at5 l v).c1=pr at*
  by_cases d2:0≤pr
  ·obtain rfl:pr=y:=(a5 d2).symm
   repeat(first|(refine st ?_;intros)|refine G.drawOrd (id:=13) [1,2,0,3,4,5,6,7,8,9,10] [(0,.eff [1])] (h:= ?_)|refine G.drawOrd (id:=14) [1,2,0,3,4,5,6,7,8,9,10] [(0,.eff [1])] (h:= ?_)|refine G.draw [] (h:= ?_)|refine cq ac ?_|refine cq aa ?_|refine cq ab ?_)
   refine Dn.round (v+1) oM oM
  ·repeat(first|(refine st ?_;intros)|refine G.drawOrd (id:=13) [1,2,0,3,4,5,6,7,8,9,10] [(0,.eff [1])] (h:= ?_)|refine G.drawOrd (id:=14) [1,2,0,3,4,5,6,7,8,9,10] [(0,.eff [1])] (h:= ?_)|refine G.draw [] (h:= ?_)|refine cq ac ?_|refine cq aa ?_|refine cq ab ?_)
   refine Dn.round (v+1) oM oM
end Go.Proofs.YtaofijjjheiknaaGreat
