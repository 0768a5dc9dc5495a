/-
  Parts of the proof, put together: MeetTells0. No condition.
-/
import Derived.Test.YtaofijjjheiknaaGreatM16
set_option linter.unusedVariables false
set_option linter.unusedSimpArgs false
set_option linter.unnecessarySimpa false
set_option maxHeartbeats 4000000
open Go.IntKind renaming wrap→AJ
open Go.Proofs.Tryz renaming prog→AC
open List renaming cons_append→AA,nil_append→AB
open List.Perm renaming swap→CQ
open Nat renaming reduceAdd→AD
namespace Go.Proofs.YtaofijjjheiknaaGreat
open Go.SL Go.Spc Go.Tup Go.Srt Go.Gr
theorem bFh (a b:aAc) (T:Hp):(a::b::T).flatten.Perm (b::a::T).flatten:=(CQ b a T).flatten
theorem aXw {N:Nat} {es:List IE} {lab:List Int} {fl:List Bool} {r b:List T5} {tl:List (Nat×Fo)} {l:List T5} (hP:aAh N es lab fl r b) (hf:∀e∈es,inE N e) (hT:aAs N es lab b tl l) (hN:N≤1000000) (p0:Option Addr) (n0 k0:Nat) (p1:Option Addr) (n1 k1:Nat) (p2:Option Addr) (n2 k2:Nat) (p3:Option Addr) (n3 k3:Nat) (p:Option Addr) (cap:Nat) (c:aAc) (hv:RV p N l c) (p5:Option Addr) (m5 aa:Nat) (qs:List T5) (c5:aAc) (hq:RV p5 m5 qs c5) (hm:m5≤1000) {A r0:aAc} (hA:A.Perm (c5++r0)):
  Ct AC 31 [.agg #[.slice p0 n0 k0,.slice p1 n1 k1,.slice p2 n2 k2,.slice p3 n3 k3,.slice p N cap],.slice p5 m5 aa] [c,A] fun v H'=>(∃po oc co o,v= .tuple #[.slice po m5 oc,.bool true]∧H'=[c,A,co]∧bCy N lab l qs m5 o∧Vec 33 5 po m5 oc (flat o) co)∨(¬aIb N qs∧v= .tuple #[.slice none 0 0,.bool false]∧H'=[c,A]):=by
 have h:=bAr hP hf hT hN p0 n0 k0 p1 n1 k1 p2 n2 k2 p3 n3 k3 p cap c hv p5 m5 aa qs c5 hq hm
 have h1:Ct AC 31 [.agg #[.slice p0 n0 k0,.slice p1 n1 k1,.slice p2 n2 k2,.slice p3 n3 k3,.slice p N cap],.slice p5 m5 aa] [c5,c] fun v H'=>∃H1,H'=c5::H1∧((∃po oc co o,v= .tuple #[.slice po m5 oc,.bool true]∧H1=[c,co]∧bCy N lab l qs m5 o∧Vec 33 5 po m5 oc (flat o) co)∨(¬aIb N qs∧v= .tuple #[.slice none 0 0,.bool false]∧H1=[c])):=by
  refine Ct.convP h (bFh _ _ _) ?_
  rintro v H' (⟨po,oc,co,o,h1,rfl,h2⟩|⟨h1,h2,rfl⟩)
  ·exact⟨_,⟨_,rfl,.inl ⟨po,oc,co,o,h1,rfl,h2⟩⟩,bFh _ _ _⟩
  ·exact⟨_,⟨_,rfl,.inr ⟨h1,h2,rfl⟩⟩,bFh _ _ _⟩
 refine Ct.convP (Ct.inA h1 hA) (bFh _ _ _) ?_
 rintro v H' ⟨H1,rfl,⟨po,oc,co,o,h1,rfl,h2⟩|⟨h1,h2,rfl⟩⟩
 ·exact⟨_,.inl ⟨po,oc,co,o,h1,rfl,h2⟩,bFh _ _ _⟩
 ·exact⟨_,.inr ⟨h1,h2,rfl⟩,bFh _ _ _⟩
theorem MeetTells_ct (n:Int) (p:Option Addr) (m cap:Nat) (es:List IE) (c:aAc) (hv:Rw ecl 2 p m es c) (hm:m≤maxLen) (p2:Option Addr) (n2 ae:Nat) (qs:List T5) (c2:aAc) (hq:RV p2 n2 qs c2) (a5:n2≤maxLen) (a4:InT qs) (e:Nat) (he:e<256)
  (A r1 r2:aAc) (al:A.Perm (c++r1)) (am:A.Perm (c2++r2)):
  CtQ AC 9 [gv n p m cap,.slice p2 n2 ae,.int .u8 (e:Int)] [A] (.bool true):=by
 have ac:=aJa
 have bo:=hv.1
 have a6:=hq.1
 have bp:n2≤9223372036854775807:=a5
 have aa:=CtQ.inA (aJk n p m cap es c hv hm) al
 have ab:=aTp n p m cap 40 60 hm
 obtain⟨k,hk⟩:∃k:Nat,k=e%33:=⟨_,rfl⟩
 have e5:(e:Int).tmod 33=(k:Int):=by rw[Int.tmod_eq_emod_of_nonneg oM];omega
 have e4:AJ .i64 ((e:Int).tmod 33)=(k:Int):=by rw[e5];exact aAd oM
 have e6:AJ .i64 (8+(k:Int))=((8+k:Nat):Int):=by rw[aAd oM];omega
 have bk:k<33:=oM
 clear hk
 have a7:Ct AC 20 [.int .i64 ((8+k:Nat):Int)] [] fun v H'=>
  ∃bw bd ba bs cd ca cs,v=pv bw∧H'=[aAi bw bd ba bs,cd,ca,cs]∧Wc bd ba bs (wk0 10 9000 (10*(8+k))) cd ca cs:=aJq (8+k) oM
 unfold gv at aa ab⊢
 cases hfm:aDp n es with
 |false=>
  rw[hfm] at aa
  refine Ct.go Tryz.func9 Tryz.ntmps9 fun w0=> ?_
  repeat(first|(refine st ?_;intros)|refine cq ac ?_|refine cq aa ?_|refine cq ab ?_|refine cq hAll ?_|refine cq hCl ?_|refine cq hSa ?_)
  (refine Dn.post (Hr:=[A]) Tryz.results9 (hR:= ?_);exact⟨rfl,rfl⟩)
 |true=>
 rw[hfm] at aa
 by_cases ak:n≤40∧(m:Int)≤60
 rotate_left
 ·rw[aBu ak] at ab
  refine Ct.go Tryz.func9 Tryz.ntmps9 fun w0=> ?_
  repeat(first|(refine st ?_;intros)|refine cq ac ?_|refine cq aa ?_|refine cq ab ?_|refine cq hAll ?_|refine cq hCl ?_|refine cq hSa ?_)
  (refine Dn.post (Hr:=[A]) Tryz.results9 (hR:= ?_);exact⟨rfl,rfl⟩)
 rw[aBf ak] at ab
 by_cases bq:n2≤60
 rotate_left
 ·refine Ct.go Tryz.func9 Tryz.ntmps9 fun w0=> ?_
  repeat(first|(refine st ?_;intros)|refine cq ac ?_|refine cq aa ?_|refine cq ab ?_|refine cq hAll ?_|refine cq hCl ?_|refine cq hSa ?_)
  (refine Dn.post (Hr:=[A]) Tryz.results9 (hR:= ?_);exact⟨rfl,rfl⟩)
 have hAll:=CtQ.inA (All_ct p2 n2 ae qs c2 hq oM 3) am
 cases hfit:qs.all (aNi 3) with
 |false=>
  rw[hfit] at hAll
  refine Ct.go Tryz.func9 Tryz.ntmps9 fun w0=> ?_
  repeat(first|(refine st ?_;intros)|refine cq ac ?_|refine cq aa ?_|refine cq ab ?_|refine cq hAll ?_|refine cq hCl ?_|refine cq hSa ?_)
  (refine Dn.post (Hr:=[A]) Tryz.results9 (hR:= ?_);exact⟨rfl,rfl⟩)
 |true=>
 rw[hfit] at hAll
 have a0:∀t∈qs,okT 3 t:=fun t ht=>okT_mk (a4 t ht) (List.all_eq_true.1 hfit t ht)
 obtain⟨h0,ag⟩:=aLn hfm
 obtain⟨N,rfl⟩:∃N:Nat,n=(N:Int):=⟨n.toNat,oM⟩
 have a1:=bDb N oM p m cap es c hv oM ag al
 have ah:=fun bw bd ba bs cd ca cs hW=>aXv bw bd ba bs (10*(8+k)) oM cd ca cs hW N oM p m cap es c hv oM ag p2 n2 ae qs c2 hq oM a0 A r1 r2 al am
 unfold gv at a1 ah
 refine Ct.go Tryz.func9 Tryz.ntmps9 fun w0=> ?_
 repeat(first|(refine st ?_;intros)|refine cq ac ?_|refine cq aa ?_|refine cq ab ?_|refine cq hAll ?_|refine cq hCl ?_|refine cq hSa ?_)
 refine R.call (hct:=a7) (h:= ?_)
 rintro _ _ ⟨bw,bd,ba,bs,cd,ca,cs,rfl,rfl,hW⟩
 try dsimp only[AA,AB]
 have ah:=ah bw bd ba bs cd ca cs hW
 repeat(first|(refine st ?_;intros)|refine cq ac ?_|refine cq aa ?_|refine cq ab ?_|refine cq hAll ?_|refine cq hCl ?_|refine cq hSa ?_)
 refine R.call (hct:=a1) (h:= ?_)
 rintro _ _ ⟨pe,ke,ce,pl,kl,cl,pf,nf,kf,cf,pt,nt,kt,ct,pz,kz,cz,lab,fl,r,b,tl,l,rfl,rfl,ai⟩
 try dsimp only[AA,AB]
 have hP:=ai.parts
 have hT:=ai.tab
 have hR:=aXw hP ag hT oM pe m ke pl N kl pf nf kf pt nt kt pz kz cz ai.o p2 n2 ae qs c2 hq oM am
 repeat(first|(refine st ?_;intros)|refine cq ac ?_|refine cq aa ?_|refine cq ab ?_|refine cq hAll ?_|refine cq hCl ?_|refine cq hSa ?_)
 refine R.call (hct:=hR) (h:= ?_)
 rintro _ _ (⟨pw,wc,cw,o,rfl,rfl,hS,a8⟩|⟨an,rfl,rfl⟩)
 ·dsimp only[AA,AB]
  repeat(first|(refine st ?_;intros)|refine cq ac ?_|refine cq aa ?_|refine cq ab ?_|refine cq hAll ?_|refine cq hCl ?_|refine cq hSa ?_)
  refine R.call (hct:=ah) (h:= ?_)
  rintro _ _ ⟨a9,ao,ap,W1,po,nl,oc,co,bz,kq,kc,qf,fs,a2,bc,be,b2,tl2,l2,er,rfl,rfl,ad,aq,bf,aj,au,bg,av,aw,ax,hc⟩
  try dsimp only[AA,AB]
  obtain⟨rfl,rfl⟩:=aq.uniq hP
  obtain rfl:=aOl hP.fors aq.fors
  obtain rfl:l=l2:=ai.lis.symm.trans aj
  subst a6
  have ay:aIb N qs:=by have:=hS.ok;rwa[List.take_length] at this
  have az:=bKu hP ag hT oM oM
  have a3:aBw (aAy lab) b l qs=o:=bNy hP ag hT oM az.1 az.2 a0 hS
  have bh:o.length=qs.length:=hS.len
  rw[a3,bh] at hc
  clear a3 az hS aj
  rcases hc with⟨rfl,_,rfl,bi⟩|⟨_,an,_⟩
  rotate_left
  ·exact absurd ay an
  have hSa:=bRb po qs.length oc o co (RV.vec bi) oM pw qs.length wc o _ (RV.vec a8)
  rw[decide_eq_true rfl] at hSa
  have hCl:=aQl bw bd ba bs W1 ao ap ad.ar ad.sp (some ⟨bz,0,none⟩) kq kc fs qf au oM av (aOj ad ax aw)
  repeat(first|(refine st ?_;intros)|refine cq ac ?_|refine cq aa ?_|refine cq ab ?_|refine cq hAll ?_|refine cq hCl ?_|refine cq hSa ?_)
  (refine Dn.post (Hr:=[A]) Tryz.results9 (hR:= ?_);exact⟨rfl,rfl⟩)
 ·dsimp only[AA,AB]
  repeat(first|(refine st ?_;intros)|refine cq ac ?_|refine cq aa ?_|refine cq ab ?_|refine cq hAll ?_|refine cq hCl ?_|refine cq hSa ?_)
  refine R.call (hct:=ah) (h:= ?_)
  rintro _ _ ⟨a9,ao,ap,W1,po,nl,oc,co,bz,kq,kc,qf,fs,a2,bc,be,b2,tl2,l2,er,rfl,rfl,ad,aq,bf,aj,au,bg,av,aw,ax,hc⟩
  try dsimp only[AA,AB]
  clear aj
  rcases hc with⟨_,ay,_⟩|⟨rfl,_,rfl,rfl,rfl,rfl⟩
  ·exact absurd ay an
  have hCl:=aQl bw bd ba bs W1 ao ap ad.ar ad.sp (some ⟨bz,0,none⟩) kq kc fs qf au oM av (aOj ad ax aw)
  repeat(first|(refine st ?_;intros)|refine cq ac ?_|refine cq aa ?_|refine cq ab ?_|refine cq hAll ?_|refine cq hCl ?_|refine cq hSa ?_)
  (refine Dn.post (Hr:=[A]) Tryz.results9 (hR:= ?_);exact⟨rfl,rfl⟩)
end Go.Proofs.YtaofijjjheiknaaGreat
