/-
  Parts of the proof, put together (4). No condition.
-/
import Derived.Test.YtaofijjjheiknaaGreatQ3
set_option linter.unusedVariables false
set_option linter.unusedSimpArgs false
set_option linter.unnecessarySimpa false
set_option maxHeartbeats 4000000
open Go.IntKind renaming wrap→AL
open Go.Proofs.Tryz renaming prog→AC
open Int renaming tdiv_eq_ediv_of_nonneg→CR,natCast_add→DE
open List renaming cons_append→AA,nil_append→AB,mem_cons_self→AE,mem_cons_of_mem→AF,getElem?_eq_getElem→AG,length_append→AH,length_cons→AJ,getElem?_eq_some_iff→AK,mem_cons→AM,mem_map→AN,length_nil→AO,getD_eq_getElem?_getD→AP,append_nil→AQ,length_map→AR,mem_append→AS,append_assoc→AT,mem_singleton→AW,flatten_cons→AX,map_cons→AZ,map_append→A0,flatten_nil→A4,take_of_length_le→A6,pairwise_cons→BF,length_take→BJ,take_add_one→BP,getElem?_drop→BS,replicate→BT,getElem?_take→BW,getElem?_eq_none→BY,perm_middle→B4,nodup_cons→CC,perm_append_comm→CI,length_drop→CL,take_append_of_le_length→CP,getElem?_set_ne→CQ,sum_append→CV,drop_zero→CX,eq_nil_of_length_eq_zero→DA,drop_append_of_le_length→DB,set_append_right→EA,append_of_mem→EF
open List.Perm renaming append_left→BI,of_eq→DD,append_right→DF
open Nat renaming reduceAdd→AD,le_refl→AI,zero_le→AU,le_trans→A5,mul_le_mul_right→BB,succ_mul→BH,zero_add→BU,le_div_iff_mul_le→CN,div_le_self→CW,div_mul_le_self→DW,mul_comm→EM
open Go.Proofs.Tryz
open Go.Value renaming int→Z9
open Go.IntKind renaming i64→Z8
namespace Go.Proofs.YtaofijjjheiknaaGreat
open Go.SL Go.Spc
theorem Nh {n first m f bl:Nat} {A1 B1 L R:List Ext} (aa:fok n (A1++L++(R++B1))) (hm:1≤m) (hfm:first+m≤n) (hL:L=[]∧f=first∨∃e0:Ext,L=[e0]∧e0.1+e0.2=first∧f=e0.1) (hR:R=[]∧f+bl=first+m∨∃e1:Ext,R=[e1]∧e1.1=first+m∧f+bl=e1.1+e1.2) (hA:∀e∈A1,e.1+e.2<f) (hB:∀e∈B1,f+bl<e.1):Gave n (A1++L++(R++B1)) (A1++[(f,bl)]++B1) first m:=by
 obtain⟨h1,h2,h3⟩:=Gk.1 aa;obtain⟨h4,h5,h6⟩:=Gk.1 h1;obtain⟨h7,h8,h9⟩:=Gk.1 h2;have hf:f≤first∧first+m≤f+bl∧f+bl≤n:=by
  rcases hL with⟨rfl,e⟩|⟨e0,rfl,e,e'⟩<;>rcases hR with⟨rfl,g⟩|⟨e1,rfl,g,g'⟩
  ·omega
  ·have:=h7.1 e1 oA19;omega
  ·omega
  ·have:=h7.1 e1 oA19;omega
 refine⟨Gk.2 ⟨Gk.2 ⟨h4,Ij.2 ⟨⟨oD,oD⟩,dR n,by simp⟩,fun x hx y hy=>?_⟩,h8,fun x hx y hy=>?_⟩,fun x=>?_,?_,?_⟩
 ·simp only[AW] at hy;subst hy;exact hA x hx
 ·rcases AS.1 hx with hx|hx
  ·have:=hA x hx;have:=hB y hy;omega
  ·simp only[AW] at hx;subst hx;exact hB y hy
 ·simp only[Td,Ke,Yh,or_false];clear h1 h2 h3 h4 h5 h6 h7 h8 h9 hA hB aa;rcases hL with⟨rfl,e⟩|⟨e0,rfl,e,e'⟩<;>rcases hR with⟨rfl,g⟩|⟨e1,rfl,g,g'⟩<;>simp only[Ke,Yh,or_false,false_or]<;>
   by_cases hP:inF A1 x<;>by_cases hQ:inF B1 x<;>simp only[hP,hQ,true_or,or_true,false_or,or_false]<;>omega
 ·rcases hL with⟨rfl,e⟩|⟨e0,rfl,e,e'⟩<;>rcases hR with⟨rfl,g⟩|⟨e1,rfl,g,g'⟩<;>simp<;>omega
 ·rcases hL with⟨rfl,e⟩|⟨e0,rfl,e,e'⟩<;>rcases hR with⟨rfl,g⟩|⟨e1,rfl,g,g'⟩<;>simp only[Yi,big,AB]<;>omega
theorem Tg (bs:Nat) (σ:Sp) (c:Aa) (h:Kf bs σ c) (first m:Nat) (hm:1≤m) (hfm:first+m≤σ.n) (hd:∀x,first≤x→x<first+m→¬inF σ.free x):Ct AC 154 [.pointer (some ⟨bs,0,none⟩),Z9 Z8 first,Z9 Z8 m] [c] fun v H'=> ∃(c':Aa) (σ':Sp),v=Z9 Z8 0∧Kf bs σ' c'∧σ'.n=σ.n∧(∀x,inF σ'.free x↔inF σ.free x∨(first≤x∧x<first+m))∧Bc σ'.free=Bc σ.free+m∧big σ.free≤big σ'.free∧H'=[c']:=by
 obtain⟨n,free⟩:=σ;obtain⟨p,cap,vc,rfl,hV,aa,hn⟩:=h;dsimp only at hV aa hn hfm hd;obtain⟨A,B,aj,hA,hB⟩:=dS first free aa
 have fin:∀ab,Gave n free ab first m→Ct AC 154 [.pointer (some ⟨bs,0,none⟩),Z9 Z8 first,Z9 Z8 m] [[(bs,row (Bg n p free.length cap) 144)],vc] (fun v H'=>
   v=Z9 Z8 0∧∃p' ad ag,H'=[[(bs,row (Bg n p' ab.length ad) 144)],ag]∧Vec 141 2 p' ab.length ad (Af ab) ag)→Ct AC 154 [.pointer (some ⟨bs,0,none⟩),Z9 Z8 first,Z9 Z8 m] [(bs,row (Bg n p free.length cap) 144)::vc] fun v H'=>
   ∃(c':Aa) (σ':Sp),v=Z9 Z8 0∧Kf bs σ' c'∧σ'.n=n∧(∀x,inF σ'.free x↔inF free x∨(first≤x∧x<first+m))∧Bc σ'.free=Bc free+m∧big free≤big σ'.free∧H'=[c']:=by
  intro ab hg hc;refine Ct.conv hc oA19 ?_;rintro v H' ⟨rfl,p',ad,ag,rfl,ak⟩;exact⟨_,⟨_,⟨n,ab⟩,rfl,⟨p',ad,ag,rfl,ak,hg.1,hn⟩,rfl,hg.2.1,hg.2.2.1,hg.2.2.2,rfl⟩,by simp⟩
 subst aj;obtain⟨ae,ac,ai⟩:=Gk.1 aa;have al:A=[]∨∃A2 e0,A=A2++[e0]:=by
  rcases List.eq_nil_or_concat A with h|⟨A2,e0,h⟩
  ·exact .inl h
  ·exact .inr ⟨A2,e0,by simpa using h⟩
 have ah:∀e1 B2,B=e1::B2→first+m≤e1.1:=by rintro e1 B2 rfl;exact oG (hB e1 AE) (ac.1 e1 AE).1 (fun x h1 h2 hh=>hd x h1 h2 (by rw[Td];exact .inr hh)) hm
 rcases al with rfl|⟨A2,e0,rfl⟩
 ·rcases B with _|⟨e1,B2⟩
  ·have hg:=Nh (n:=n) (first:=first) (m:=m) (f:=first) (bl:=m) (A1:=[]) (B1:=[]) (L:=[]) (R:=[]) (by simpa using aa) hm hfm (.inl ⟨rfl,rfl⟩) (.inl ⟨rfl,oM⟩) oA19
     oA19
   refine fin _ (by simpa using hg) ?_;simpa using oX bs n cap p vc first m hn hm hfm (by simpa using aa) (by simpa using hA) (by simpa using hB) (by simpa using hV)
  ·have hb:=ah e1 B2 rfl;by_cases hb:e1.1=first+m
   ·have hg:=Nh (n:=n) (first:=first) (m:=m) (f:=first) (bl:=m+e1.2) (A1:=[]) (B1:=B2) (L:=[]) (R:=[e1]) (by simpa using aa) hm hfm (.inl ⟨rfl,rfl⟩) (.inr ⟨e1,rfl,hb,oM⟩) oA19
      (fun e he=>by
       have:=(Ij.1 ac).2.2 e he;omega)
    refine fin _ (by simpa using hg) ?_;simpa using oZ bs n cap p vc first m hn hm hfm B2 e1 hb (by simpa using aa) (by simpa using hA) (by simpa using hB) (by simpa using hV)
   ·have hb:first+m<e1.1:=oM
    have hg:=Nh (n:=n) (first:=first) (m:=m) (f:=first) (bl:=m) (A1:=[]) (B1:=(e1::B2)) (L:=[]) (R:=[]) (by simpa using aa) hm hfm (.inl ⟨rfl,rfl⟩) (.inl ⟨rfl,oM⟩) oA19
      (fun e he=>by
       rcases AM.1 he with rfl|he
       ·omega
       ·have:=(Ij.1 ac).2.2 e he;omega)
    refine fin _ (by simpa using hg) ?_;simpa using oY bs n cap p vc first m hn hm hfm B2 e1 hb (by simpa using aa) (by simpa using hA) (by simpa using hB) (by simpa using hV)
 ·have ha:=hA e0 oA19;by_cases ha:e0.1+e0.2=first
  ·rcases B with _|⟨e1,B2⟩
   ·have hg:=Nh (n:=n) (first:=first) (m:=m) (f:=e0.1) (bl:=m+e0.2) (A1:=A2) (B1:=[]) (L:=[e0]) (R:=[]) (by simpa using aa) hm hfm (.inr ⟨e0,rfl,ha,rfl⟩) (.inl ⟨rfl,oM⟩) (fun e he=>(Gk.1 ae).2.2 e he e0 oA19)
      oA19
    refine fin _ (by simpa using hg) ?_;simpa using pE bs n cap p vc first m hn hm hfm A2 e0 ha (by simpa using aa) (by simpa using hA) (by simpa using hB) (by simpa using hV)
   ·have hb:=ah e1 B2 rfl;by_cases hb:e1.1=first+m
    ·have hg:=Nh (n:=n) (first:=first) (m:=m) (f:=e0.1) (bl:=m+e1.2+e0.2) (A1:=A2) (B1:=B2) (L:=[e0]) (R:=[e1]) (by simpa using aa) hm hfm (.inr ⟨e0,rfl,ha,rfl⟩) (.inr ⟨e1,rfl,hb,oM⟩) (fun e he=>(Gk.1 ae).2.2 e he e0 oA19)
       (fun e he=>by
        have:=(Ij.1 ac).2.2 e he;omega)
     refine fin _ (by simpa using hg) ?_;simpa using pG bs n cap p vc first m hn hm hfm A2 e0 B2 e1 ha hb (by simpa using aa) (by simpa using hA) (by simpa using hB) (by simpa using hV)
    ·have hb:first+m<e1.1:=oM
     have hg:=Nh (n:=n) (first:=first) (m:=m) (f:=e0.1) (bl:=m+e0.2) (A1:=A2) (B1:=(e1::B2)) (L:=[e0]) (R:=[]) (by simpa using aa) hm hfm (.inr ⟨e0,rfl,ha,rfl⟩) (.inl ⟨rfl,oM⟩) (fun e he=>(Gk.1 ae).2.2 e he e0 oA19)
       (fun e he=>by
        rcases AM.1 he with rfl|he
        ·omega
        ·have:=(Ij.1 ac).2.2 e he;omega)
     refine fin _ (by simpa using hg) ?_;simpa using pF bs n cap p vc first m hn hm hfm A2 e0 B2 e1 ha hb (by simpa using aa) (by simpa using hA) (by simpa using hB) (by simpa using hV)
  ·have ha:e0.1+e0.2<first:=oM
   rcases B with _|⟨e1,B2⟩
   ·have hg:=Nh (n:=n) (first:=first) (m:=m) (f:=first) (bl:=m) (A1:=(A2++[e0])) (B1:=[]) (L:=[]) (R:=[]) (by simpa using aa) hm hfm (.inl ⟨rfl,rfl⟩) (.inl ⟨rfl,oM⟩) (fun e he=>by
       rcases AS.1 he with he|he
       ·have:=(Gk.1 ae).2.2 e he e0 oA19;omega
       ·simp only[AW] at he;subst he;exact ha)
      oA19
    refine fin _ (by simpa using hg) ?_;simpa using pA bs n cap p vc first m hn hm hfm A2 e0 ha (by simpa using aa) (by simpa using hA) (by simpa using hB) (by simpa using hV)
   ·have hb:=ah e1 B2 rfl;by_cases hb:e1.1=first+m
    ·have hg:=Nh (n:=n) (first:=first) (m:=m) (f:=first) (bl:=m+e1.2) (A1:=(A2++[e0])) (B1:=B2) (L:=[]) (R:=[e1]) (by simpa using aa) hm hfm (.inl ⟨rfl,rfl⟩) (.inr ⟨e1,rfl,hb,oM⟩) (fun e he=>by
        rcases AS.1 he with he|he
        ·have:=(Gk.1 ae).2.2 e he e0 oA19;omega
        ·simp only[AW] at he;subst he;exact ha)
       (fun e he=>by
        have:=(Ij.1 ac).2.2 e he;omega)
     refine fin _ (by simpa using hg) ?_;simpa using pD bs n cap p vc first m hn hm hfm A2 e0 B2 e1 ha hb (by simpa using aa) (by simpa using hA) (by simpa using hB) (by simpa using hV)
    ·have hb:first+m<e1.1:=oM
     have hg:=Nh (n:=n) (first:=first) (m:=m) (f:=first) (bl:=m) (A1:=(A2++[e0])) (B1:=(e1::B2)) (L:=[]) (R:=[]) (by simpa using aa) hm hfm (.inl ⟨rfl,rfl⟩) (.inl ⟨rfl,oM⟩) (fun e he=>by
        rcases AS.1 he with he|he
        ·have:=(Gk.1 ae).2.2 e he e0 oA19;omega
        ·simp only[AW] at he;subst he;exact ha)
       (fun e he=>by
        rcases AM.1 he with rfl|he
        ·omega
        ·have:=(Ij.1 ac).2.2 e he;omega)
     refine fin _ (by simpa using hg) ?_;simpa using pB bs n cap p vc first m hn hm hfm A2 e0 B2 e1 ha hb (by simpa using aa) (by simpa using hA) (by simpa using hB) (by simpa using hV)
theorem pH (n:Nat) (h1:1≤n) (h2:n≤1000000):Ct AC 49 [Z9 Z8 0,Z9 Z8 n] [] fun v H'=> ∃bs c',v= .pointer (some ⟨bs,0,none⟩)∧Kf bs ⟨n,[(0,n)]⟩ c'∧H'=[c']:=by
 refine Ct.conv (H2:=[]) (R2:=fun v H'=>∃bs vb,v= .pointer (some ⟨bs,0,none⟩)∧H'=[[(bs,row [Z9 Z8 0,Z9 Z8 n,.slice (some ⟨vb,0,none⟩) 1 1] 144)],[(vb,row [Z9 Z8 0,Z9 Z8 n] 141)]]) ?_ rfl ?_
 ·refine cG func49 fun _=>?_;repeat(refine sA ?_;intros)
  rename_i bs vb;(refine dP [[(bs,row [Z9 Z8 0,Z9 Z8 n,.slice (some ⟨vb,0,none⟩) 1 1] 144)],[(vb,row [Z9 Z8 0,Z9 Z8 n] 141)]] ?_;exact⟨bs,vb,rfl,rfl⟩)
 ·rintro v H' ⟨bs,vb,rfl,rfl⟩;refine⟨_,⟨bs,_,rfl,⟨some ⟨vb,0,none⟩,1,_,rfl,⟨rfl,.inr ⟨vb,[],rfl,rfl,by simp[Af],AI _,by decide⟩⟩,?_,h2⟩,rfl⟩,by simp[Bg,Af]⟩;exact Ij.2 ⟨⟨h1,oD⟩,dR n,by simp⟩
theorem dV {n:Nat}:∀{l:List Ext} {k:Nat},fok n l→(∀e∈l,k≤e.1)→k≤n→Bc l≤n-k
 |[],_,_,_,_=>by simp
 |e::l,k,h,hk,hn=>by obtain⟨h1,h2,h3⟩:=Ij.1 h;have:=dV (k:=e.1+e.2) h2 (fun y hy=>Nat.le_of_lt (h3 y hy)) h1.2;have:=hk e AE;simp only[Uw];omega
theorem pI (p:Option Addr) (m cap:Nat) (xs:List Value) (c:Aa) (hV:Vec 141 2 p m cap xs c) (hm:m≤1000000) (h1:xs.all Value.oneCell'=true):Ct AC 181 [.slice p m cap] [c] fun v H'=> ∃p' cap' c',v= .slice p' m cap'∧Vec 141 2 p' m cap' xs c'∧H'=[c',c]:=by
 obtain⟨aa,⟨rfl,rfl,rfl,rfl⟩|⟨b,rest,rfl,rfl,ac,ad,ae⟩⟩:=hV
 ·obtain rfl:xs=[]:=DA (by simpa using aa);refine cG func181 fun _=>?_;repeat(refine sA ?_;intros)
  (refine dP [[],[]] ?_;exact⟨none,0,[],rfl,Vec.nil _ _,rfl⟩)
 ·by_cases h0:m=0
  ·subst h0;obtain rfl:xs=[]:=DA (by simpa using aa);have hz:(0:Nat)≤0:=AI _;refine cG func181 fun _=>?_;repeat(refine sA ?_;intros)
   rename_i b0;(refine dP [[(b0,row [] 141)],[(b,row ([]++rest) 141)]] ?_;exact⟨some ⟨b0,0,none⟩,0,_,rfl,⟨rfl,.inr ⟨b0,[],rfl,rfl,by simp[Af],AI _,by decide⟩⟩,rfl⟩)
  ·have hd:((xs++rest).drop 0).take (m*2)=xs:=Ux aa;refine cG func181 fun _=>?_;repeat(refine sA ?_;intros)
   rename_i b0;have hN:Vec 141 2 (some ⟨b0,0,none⟩) 0 0 [] [(b0,row [] 141)]:=⟨rfl,.inr ⟨b0,[],rfl,rfl,by simp[Af],AI _,by decide⟩⟩
   repeat(refine sA ?_;intros)
   rename_i p' cap' c' ab;(refine dP [c',[(b,row (xs++rest) 141)]] ?_;refine⟨p',cap',c',?_,?_,rfl⟩)
   ·show Value.slice p' (0+m) cap'=_;rw[BU]
   ·simpa using ab
theorem pJ (bs:Nat) (σ:Sp) (c:Aa) (h:Kf bs σ c):Ct AC 128 [.pointer (some ⟨bs,0,none⟩)] [c] fun v H'=> ∃p' cap' c',v= .slice p' σ.free.length cap'∧Vec 141 2 p' σ.free.length cap' (Af σ.free) c'∧H'=[c',c]:=by
 obtain⟨n,free⟩:=σ;obtain⟨p,cap,vc,rfl,hV,ab,hn⟩:=h;dsimp only at hV ab hn⊢;have ac:=Ik ab (k:=0) oM oM;have hC:=pI p free.length cap (Af free) vc hV oM (Rg free);refine Ct.conv (H2:=[[(bs,row (Bg n p free.length cap) 144)],vc]) (R2:=fun v H'=>∃p' cap' c',v= .slice p' free.length cap'∧Vec 141 2 p' free.length cap' (Af free) c'∧H'=[c',[(bs,row (Bg n p free.length cap) 144)],vc]) ?_ oA19 ?_
 ·unfold Bg;refine cG func128 fun _=>?_;repeat(refine sA ?_;intros)
  refine cL hC ?_;rintro _ _ ⟨p',cap',c',rfl,aa,rfl⟩;repeat(refine sA ?_;intros)
  (refine dP [c',[(bs,row [Z9 Z8 0,Z9 Z8 n,.slice p free.length cap] 144)],vc] ?_;exact⟨p',cap',c',rfl,aa,rfl⟩)
 ·rintro v H' ⟨p',cap',c',rfl,aa,rfl⟩;exact⟨_,⟨p',cap',c',rfl,aa,rfl⟩,by simp⟩
theorem pK (bs:Nat) (σ:Sp) (c:Aa) (h:Kf bs σ c):CtQ AC 70 [.pointer (some ⟨bs,0,none⟩)] [c] (Z9 Z8 (Bc σ.free:Int)):=by
 have hX:=pJ bs σ c h;obtain⟨n,free⟩:=σ;obtain⟨p,cap,vc,_,_,aa,hn⟩:=h;dsimp only at aa hn hX⊢;have ae:=Ik aa (k:=0) oM oM;have ag:=dV aa (k:=0) oM oM;refine cG func70 fun _=>?_;repeat(refine sA ?_;intros)
 refine cL hX ?_;rintro _ _ ⟨p',ab,c',rfl,ac,rfl⟩;repeat(refine sA ?_;intros)
 refine G.loop (X:=Nat) (fun i=>i≤free.length) (fun i=>[(9,Z9 Z8 i),(8,Z9 Z8 free.length),(7,.slice p' free.length ab),(3,Z9 Z8 (Bc (free.take i):Int))])
  (fun _=>[c',c]) (fun i=>free.length-i) 0 oM (body:=?_)
 intro i hi;by_cases ad:i<free.length
 ·obtain⟨A,x,B,hs,hA⟩:=Uy (l:=free) (i:=i) ad;obtain⟨_,h0|⟨vb,rest,rfl,rfl,ah,ai,aj⟩⟩:=ac
  ·omega
  obtain⟨g1,g2,g3⟩:=Hn (rest:=rest) (B:=B) (e:=x) hA;rw[←hs] at g1 g2 g3;generalize Af free++rest=cells at*;have e1:free.take i=A:=by rw[hs,←hA];simp
  have e2:free.take (i+1)=A++[x]:=by rw[hs,←hA,List.take_length_add_append];rfl
  have e3:Bc free=Bc A+(x.2+Bc B):=by rw[hs];simp
  rw[e1];repeat(refine sA ?_;intros)
  refine Dn.round (i+1) oM oM ?_ oA4;rw[e2,oH,show Bc [x]=x.2 by simp];exact⟨rfl,rfl,rfl,rfl,trivial⟩
 ·obtain rfl:i=free.length:=by omega
  rw[List.take_length];repeat(refine sA ?_;intros)
  (refine dP [c] ?_;exact⟨rfl,rfl⟩)
def Ag (ws:List Int):List Value:=ws.map (Value.int .u64)
@[simp] theorem Ni (ws:List Int):(Ag ws).length=ws.length:=by simp[Ag]
theorem Yl (ws:List Int):(Ag ws).all Value.oneCell'=true:=by
 induction ws with
 |nil=>rfl
 |cons w ws ih=>simpa[Ag,Value.oneCell'] using ih
theorem Ym (b off n cap:Nat) (cs:List Value) (E:Nat) (fz:Nat×Nat) (ws:List Int) (hn:0<n) (hm:n≤1000000) (ad:(cs.drop off).take n=Ag ws) (hl:ws.length=n):Ct AC 228 [.slice (some ⟨b,off,none⟩) n cap] [[(b,An cs E fz)]] fun v H'=> ∃p cap' c',v= .slice p n cap'∧Vec 174 1 p n cap' (Ag ws) c'∧H'=[c',[(b,An cs E fz)]]:=by
 have aa:(cs.drop off).take (n*1)=Ag ws:=by rw[Nat.mul_one];exact ad
 have ab:(Ag ws).length=n*1:=by rw[Ni,hl,Nat.mul_one]
 have ac:=Yl ws;refine cG func228 fun _=>?_;repeat(refine sA ?_;intros)
 rename_i b0;have hV:Vec 174 1 (some ⟨b0,0,none⟩) 0 0 [] [(b0,row [] 174)]:=⟨by simp,.inr ⟨b0,[],rfl,rfl,by simp,AI _,by decide⟩⟩
 apply R.append
 ·exact rfl
 ·exact rfl
 ·exact hV
 ·repeat(first|exact Ae.here|apply Ae.there|exact Ae.nil)
 ·repeat(first|exact Has.here|apply Has.there)
 ·exact aa
 ·exact ab
 ·exact ac
 ·exact rfl
 ·exact hn
 ·simp only[maxLen];omega
 ·omega
 ·exact rfl
 ·exact nle rfl
 intro p' cap' c' ae;have ag:Vec 174 1 p' n cap' (Ag ws) c':=by simpa using ae
 repeat(refine sA ?_;intros)
 (refine dP [c',[(b,An cs E fz)]] ?_;exact⟨p',cap',c',by show Value.slice p' (0+n) cap'=_;rw[BU],ag,rfl⟩)
def it {α:Type} (f:α→α):Nat→α→α
 |0,s=>s
 |j+1,s=>f (it f j s)
def Yn (u:Int):Int:=Gd .xor .u32 (u.fdiv (2^min (Int.toNat 1) IntKind.u32.bits)) (Gd .and .u32 3988292384 (IntKind.u32.wrap (-Gd .and .u32 u 1)))
def Pw (p:Int×Int):Int×Int:=(it Yn 8 (Gd .xor .u32 p.1 (IntKind.u32.wrap (Gd .and .u64 p.2 255))),p.2.fdiv (2^min (Int.toNat 8) IntKind.u64.bits))
def Ho (s x:Int):Int:=Ll .u32 (it Pw 8 (Ll .u32 s,x)).1
theorem Uz (s x:Int):CtQ AC 240 [.int .u32 s,.int .u64 x] [] (.int .u32 (Ho s x)):=by
 refine cG func240 fun _=>?_;repeat(refine sA ?_;intros)
 refine G.loop (X:=Nat) (fun i=>i≤8) (fun i=>[(8,Z9 Z8 i),(5,.int .u32 (it Pw i (Ll .u32 s,x)).1),(1,.int .u64 (it Pw i (Ll .u32 s,x)).2)]) (fun _=>[]) (fun i=>8-i) 0 oA18 (body:=?_);intro i hi;generalize hp:it Pw i (Ll .u32 s,x)=p;obtain⟨t,y⟩:=p;dsimp only;by_cases h8:i<8
 ·repeat(refine sA ?_;intros)
  refine G.loop (X:=Nat) (fun j=>j≤8) (fun j=>[(17,Z9 Z8 j),(8,Z9 Z8 i),(1,.int .u64 (y.fdiv (2^min (Int.toNat 8) IntKind.u64.bits))),(5,.int .u32 (it Yn j (Gd .xor .u32 t (IntKind.u32.wrap (Gd .and .u64 y 255)))))]) (fun _=>[]) (fun j=>8-j) 0 oA18 (body:=?_);intro j hj;generalize hu:it Yn j (Gd .xor .u32 t (IntKind.u32.wrap (Gd .and .u64 y 255)))=u;by_cases h9:j<8
  ·repeat(refine sA ?_;intros)
   refine Dn.round (j+1) oM oM ?_ oA4;refine⟨rfl,rfl,rfl,?_,trivial⟩;simp only[it,hu];rfl
  ·obtain rfl:j=8:=by omega
   repeat(refine sA ?_;intros)
   refine Dn.round (i+1) oM oM ?_ oA4;have e:it Pw (i+1) (Ll .u32 s,x)=(u,y.fdiv (2^min (Int.toNat 8) IntKind.u64.bits)):=by show Pw (it Pw i (Ll .u32 s,x))=_;rw[hp,←hu];rfl
   rw[e];exact⟨rfl,rfl,rfl,trivial⟩
 ·obtain rfl:i=8:=by omega
  have e:Ll .u32 t=Ho s x:=by unfold Ho;rw[hp]
  repeat(refine sA ?_;intros)
  (refine dP [] ?_;exact⟨by rw[←e];rfl,rfl⟩)
def Rh (ws:List Int):Int:=ws.foldl Ho 0
theorem dW {cs:List Value} {off n:Nat} {ws:List Int} (h:(cs.drop off).take n=Ag ws) (hl:ws.length=n) {i:Nat} (hi:i<n):cs[off+i]? =some (.int .u64 (ws.getD i 0)):=by have h2:=congrArg (·[i]?) h;simp only[BW,hi,if_true,BS] at h2;rw[h2];have aa:i<ws.length:=oM;simp[Ag,AP,aa]
theorem Sum_ct (b off n cap:Nat) (cs:List Value) (E:Nat) (fz:Nat×Nat) (ws:List Int) (hm:n≤1000000) (aa:(cs.drop off).take n=Ag ws) (hl:ws.length=n):CtQ AC 241 [.slice (some ⟨b,off,none⟩) n cap] [[(b,An cs E fz)]] (.int .u32 (Rh ws)):=by
 refine cG func241 fun _=>?_;repeat(first|(refine sA ?_;intros)|refine cq Uz ?_)
 refine G.loop (X:=Nat) (fun i=>i≤n) (fun i=>[(8,Z9 Z8 i),(7,Z9 Z8 n),(6,.slice (some ⟨b,off,none⟩) n cap),(3,.int .u32 ((ws.take i).foldl Ho 0))]) (fun _=>[[(b,An cs E fz)]]) (fun i=>n-i) 0 oM (body:=?_);intro i hi;by_cases h9:i<n
 ·have hg:=dW aa hl h9;have e:(ws.take (i+1)).foldl Ho 0=Ho ((ws.take i).foldl Ho 0) (ws.getD i 0):=by rw[BP,List.foldl_append];have ab:i<ws.length:=oM;simp[AP,ab]
  repeat(first|(refine sA ?_;intros)|refine cq Uz ?_)
  refine Dn.round (i+1) oM oM ?_ oA4;rw[e];exact⟨rfl,rfl,rfl,rfl,trivial⟩
 ·obtain rfl:i=n:=by omega
  have e:(ws.take i).foldl Ho 0=Rh ws:=by unfold Rh;rw[A6 oM]
  rw[e];repeat(first|(refine sA ?_;intros)|refine cq Uz ?_)
  (refine dP [[(b,An cs E fz)]] ?_;exact⟨rfl,rfl⟩)
theorem dX (size aa:Int) (h:8≤size∧size≤256) (ha:0≤aa):CtQ AC 224 [Z9 Z8 size,Z9 Z8 aa] [] (.bool true):=by
 obtain⟨h1,h2⟩:=h;refine cG func224 fun _=>?_;repeat(refine sA ?_;intros)
 (refine dP [] ?_;exact⟨by first|rfl|(rw[Dt oM];rfl),rfl⟩)
def Px (ws:List Int) (n address:Int):Int:=
 Gd .or .u64 (IntKind.u64.wrap ((n+1)*2^min (Int.toNat 32) IntKind.u64.bits)) (IntKind.u64.wrap (Ho (Ho (Rh ws) (n+1)) address))
theorem dY (b n m cap:Nat) (aa:Int) (cs:List Value) (E:Nat) (fz:Nat×Nat) (ws:List Int) (hm:m≤256) (ad:1≤m) (ac:m≤cap) (hn:n≤256) (ha:0≤aa∧aa≤1000000000) (ab:(cs.drop 0).take (m-1)=Ag ws) (hl:ws.length=m-1):CtQ AC 225 [.slice (some ⟨b,0,none⟩) m cap,Z9 Z8 n,Z9 Z8 aa] [[(b,An cs E fz)]] (.int .u64 (Px ws n aa)):=by
 have hS:=fun cap=>Sum_ct b 0 (m-1) cap cs E fz ws oM ab hl;have e1:((m:Int)-1).toNat=m-1:=oM;refine cG func225 fun _=>?_;repeat(first|(refine sA ?_;intros)|refine cq hS ?_|refine cq Uz ?_)
 (refine dP [[(b,An cs E fz)]] ?_;exact⟨rfl,rfl⟩)
def Gl (size:Nat) (tag:Int) (pw:List Int):List Int:=(pw++BT (size-pw.length) 0).set (size-2) tag
def Cm (size:Nat) (address tag:Int) (pw:List Int):List Int:=(Gl size tag pw).set (size-1) (Px ((Gl size tag pw).take (size-1)) pw.length address)
theorem dZ (m:Nat):Bn m [.int .u64 0]=Ag (BT m 0):=by
 induction m with
 |zero=>rfl
 |succ m ih=>rw[Bn,ih];rfl
theorem Th (ws:List Int) (i:Nat) (w:Int):(Ag ws).set i (.int .u64 w)=Ag (ws.set i w):=by unfold Ag;rw[List.map_set]
theorem setL_w {size:Nat} {pw:List Int} (h:pw.length≤size):Bq (Bn size [.int .u64 0]) 0 (Ag pw)=Ag (pw++BT (size-pw.length) 0):=by rw[dZ,Lm _ _ _ (by simp[Ni];exact h)];simp[Ag]
theorem eA (size:Nat) (aa ab:Int) (b q m cap:Nat) (cs:List Value) (E:Nat) (fz:Nat×Nat) (pw:List Int) (hs:8≤size∧size≤256) (ha:0≤aa∧aa≤1000000000) (hm:m≤size-2) (ai:(cs.drop q).take m=Ag pw) (hl:pw.length=m):Ct AC 208 [Z9 Z8 size,Z9 Z8 aa,.int .u64 ab,.slice (some ⟨b,q,none⟩) m cap] [[(b,An cs E fz)]] fun v H'=> ∃bl,v= .tuple #[.slice (some ⟨bl,0,none⟩) size size,Z9 Z8 0]∧H'=[[(bl,row (Ag (Cm size aa ab pw)) 174)],[(b,An cs E fz)]]:=by
 have hR:=dX (size:Int) aa oM ha.1;have ac:(Gl size ab pw).length=size:=by simp[Gl];omega
 have ag:=setL_w (size:=size) (pw:=pw) oM;have ad:(Ag (pw++BT (size-pw.length) 0)).set (size-2) (.int .u64 ab)=Ag (Gl size ab pw):=Th (pw++BT (size-pw.length) 0) (size-2) ab;have hL:=fun bl=>dY bl m size size aa (Ag (Gl size ab pw)) 174 (0,0) ((Gl size ab pw).take (size-1)) oM oM (AI _) oM ha (by simp[Ag,List.map_take]) (by simp[ac]);have ae:(Ag (Gl size ab pw)).set (size-1) (.int .u64 (Px ((Gl size ab pw).take (size-1)) m aa))=Ag (Cm size aa ab pw):=by unfold Cm;rw[Th,hl]
 have e1:((size:Int)-2).toNat=size-2:=oM;have e2:((size:Int)-1).toNat=size-1:=oM;have ah:Nat.min m size=m:=Nat.min_eq_left oM;have aj:(Ag pw).length=m:=by rw[Ni,hl]
 have ak:=Yl pw;have al:(Bn size [Value.int .u64 0]).length=size:=by rw[Mh];simp
 refine cG func208 fun _=>?_;repeat(first|(refine sA ?_;intros)|refine cq hL ?_)
 rename_i bl;(refine dP [[(bl,row (Ag (Cm size aa ab pw)) 174)],[(b,An cs E fz)]] ?_;exact⟨bl,rfl,rfl⟩)
theorem Yo (x:Int):CtQ AC 230 [.int .u64 x] [] (.bool (dec (x≠0))):=by
 refine cG func230 fun _=>?_;repeat(refine sA ?_;intros)
 (refine dP [] ?_;exact⟨rfl,rfl⟩)
theorem pL (b off n cap:Nat) (cs:List Value) (E:Nat) (fz:Nat×Nat) (ws:List Int) (hm:n≤1000000) (ab:(cs.drop off).take n=Ag ws) (hl:ws.length=n) (hz:∀w∈ws,w=0):CtQ AC 242 [.slice (some ⟨b,off,none⟩) n cap,.func (.func 230) #[] #[]] [[(b,An cs E fz)]] (Z9 Z8 (-1)):=by
 refine cG func242 fun _=>?_;repeat(first|(refine sA ?_;intros)|refine cq Yo ?_)
 refine G.loop (X:=Nat) (fun i=>i≤n) (fun i=>[(8,Z9 Z8 i),(7,Z9 Z8 n),(0,.slice (some ⟨b,off,none⟩) n cap),(1,.func (.func 230) #[] #[])]) (fun _=>[[(b,An cs E fz)]]) (fun i=>n-i) 0 oM (body:=?_);intro i hi;by_cases h9:i<n
 ·have hg:=dW ab hl h9;have h0:ws.getD i 0=0:=by have aa:i<ws.length:=oM;rw[AP,AG aa];exact hz _ (List.getElem_mem aa)
  rw[h0] at hg;repeat(first|(refine sA ?_;intros)|refine cq Yo ?_)
  exact Dn.round (i+1) oM oM
 ·repeat(first|(refine sA ?_;intros)|refine cq Yo ?_)
  (refine dP [[(b,An cs E fz)]] ?_;exact⟨rfl,rfl⟩)
theorem pM (b off n cap:Nat) (cs:List Value) (E:Nat) (fz:Nat×Nat) (ws:List Int) (hm:n≤1000000) (aa:(cs.drop off).take n=Ag ws) (hl:ws.length=n) (hz:∀w∈ws,w=0):CtQ AC 229 [.slice (some ⟨b,off,none⟩) n cap,.func (.func 230) #[] #[]] [[(b,An cs E fz)]] (.bool false):=by
 have hI:=pL b off n cap cs E fz ws hm aa hl hz;refine cG func229 fun _=>?_;repeat(refine sA ?_;intros)
 (refine dP [[(b,An cs E fz)]] ?_;exact⟨by rw[Jq oA18];rfl,rfl⟩)
theorem pN (s x:Int):0≤Ho s x∧Ho s x<4294967296:=by unfold Ho Ll Gd;simp only[AL,IntKind.bits,IntKind.signed,Bool.false_and];simp;omega
theorem pO (ws:List Int) (n:Nat) (a:Int) (hn:n≤256):(Px ws n a).fdiv (2^min (Int.toNat 32) IntKind.u64.bits)=(n:Int)+1:=by
 unfold Px;have hc:=pN (Ho (Rh ws) ((n:Int)+1)) a;generalize Ho (Ho (Rh ws) ((n:Int)+1)) a=c at hc;obtain⟨c,rfl⟩:∃k:Nat,c=(k:Int):=⟨c.toNat,oM⟩
 have e0:(2:Int)^min (Int.toNat 32) IntKind.u64.bits=4294967296:=by decide
 rw[e0,Hl oM,Hl oM];have e1:((n:Int)+1)*4294967296=(((n+1)*4294967296:Nat):Int):=oM;rw[e1];have e3:Gd .or .u64 (((n+1)*4294967296:Nat):Int) (c:Int)=IntKind.u64.wrap ((BitVec.ofInt 64 (((n+1)*4294967296:Nat):Int)|||BitVec.ofInt 64 (c:Int)).toNat:Int):=rfl;rw[e3,BitVec.toNat_or,BitVec.ofInt_natCast,BitVec.ofInt_natCast,BitVec.toNat_ofNat,BitVec.toNat_ofNat];rw[Nat.mod_eq_of_lt oM,Nat.mod_eq_of_lt oM];have e2:(n+1)*4294967296|||c=(n+1)*4294967296+c:=by have:=Nat.shiftLeft_add_eq_or_of_lt (a:=n+1) (b:=c) (i:=32) oM;rw[Nat.shiftLeft_eq] at this;exact this.symm
 rw[e2,Hl oM];rw[Int.fdiv_eq_ediv_of_nonneg _ oA18];omega
theorem Yp (size:Nat) (aa ab:Int) (pw:List Int) (h:pw.length≤size):(Cm size aa ab pw).length=size:=by simp[Cm,Gl];omega
theorem eB (size:Nat) (aa ab:Int) (pw:List Int):(Cm size aa ab pw).take (size-1)=(Gl size ab pw).take (size-1):=by unfold Cm;rw[List.take_set_of_le (AI _)]
theorem pP (size:Nat) (aa ab:Int) (pw:List Int) (hs:8≤size) (h:pw.length≤size-2):(Cm size aa ab pw).getD (size-1) 0=Px ((Gl size ab pw).take (size-1)) pw.length aa:=by
 have:(Gl size ab pw).length=size:=by simp[Gl];omega
 simp[Cm,AP,this,show size-1<size by omega]
theorem eC (size:Nat) (aa ab:Int) (pw:List Int) (hs:8≤size) (h:pw.length≤size-2) (i:Nat) (hi:i<size-2):(Cm size aa ab pw).getD i 0=pw.getD i 0:=by
 unfold Cm Gl;simp only[AP];rw[CQ oM,CQ oM,List.getElem?_append];split
 ·rfl
 ·rename_i hh;rw[List.getElem?_replicate,if_pos oM,BY oM];rfl
theorem pQ (size:Nat) (aa ab:Int) (pw:List Int) (hs:8≤size) (h:pw.length≤size-2):(Cm size aa ab pw).getD (size-2) 0=ab:=by unfold Cm Gl;simp only[AP];rw[CQ oM,List.getElem?_set_self oA16];rfl
theorem w_get {ws:List Int} {rest:List Value} {i:Nat} {v:Int} (hi:i<ws.length) (h:ws.getD i 0=v):(Ag ws++rest)[i]? =some (.int .u64 v):=by rw[List.getElem?_append_left (by simpa using hi)];rw[AP,AG hi] at h;simp only[Option.getD_some] at h;simp[Ag,AG hi,h]
theorem eD {ws:List Int} {rest:List Value} {k:Nat} (hk:k≤ws.length):((Ag ws++rest).drop 0).take k=Ag (ws.take k):=by rw[CX,CP (by simpa using hk)];simp[Ag,List.map_take]
theorem w_drop {ws:List Int} {rest:List Value} {a k:Nat} (hk:a+k≤ws.length):((Ag ws++rest).drop a).take k=Ag ((ws.drop a).take k):=by rw[DB oA16,CP oA16];simp[Ag,List.map_take,List.map_drop]
theorem Get_ct (size aa ab:Nat) (pw:List Int) (b cap:Nat) (rest:List Value) (E:Nat) (hs:8≤size∧size≤256) (ad:size≤cap) (ha:aa≤1000000000) (n:Nat) (hn:n=pw.length) (h1:1≤n) (h2:n≤size-2):Ct AC 211 [.slice (some ⟨b,0,none⟩) size cap,Z9 Z8 aa] [[(b,row (Ag (Cm size aa ab pw)++rest) E)]] fun v H'=> ∃p cap' c',v= .tuple #[.slice p n cap',.int .u64 (ab:Int),Z9 Z8 0]∧Vec 174 1 p n cap' (Ag pw) c'∧H'=[c',[(b,row (Ag (Cm size aa ab pw)++rest) E)]]:=by
 subst hn;obtain⟨ac,ak⟩:=hs;have hR:=dX (size:Int) (aa:Int) oM oM;have ah:=Yp size aa ab pw oM;have ag:=w_get (rest:=rest) oM (pP size aa ab pw ac h2);have ai:=w_get (rest:=rest) oM (pQ size aa ab pw ac h2);have hL:=dY b pw.length size cap (aa:Int) (Ag (Cm size aa ab pw)++rest) E (0,0) ((Gl size ab pw).take (size-1)) oM oM ad oM oM
  (by rw[←eB size aa ab pw];exact eD oM) (by rw[←eB size aa ab pw];simp;omega)
 have ae:=pM b pw.length (size-2-pw.length) (cap-pw.length) (Ag (Cm size aa ab pw)++rest) E (0,0) (((Cm size aa ab pw).drop pw.length).take (size-2-pw.length)) oM (w_drop oM) oA16 (by
  intro w hw;obtain⟨i,hi⟩:=List.getElem?_of_mem hw;rw[BW] at hi;split at hi
  ·rw[BS] at hi;have:=eC size aa ab pw ac h2 (pw.length+i) oM;rw[AP,hi,AP,BY oM] at this;simpa using this
  ·cases hi)
 have hC:=Ym b 0 pw.length cap (Ag (Cm size aa ab pw)++rest) E (0,0) pw h1 oM (by
  rw[eD oM];congr 1;apply List.ext_getElem
  ·simp;omega
  ·intro i i1 i2;have:=eC size aa ab pw ac h2 i oM;simp only[AP,AG i2] at this;rw[AG oM] at this;simpa using this) rfl
 have aj:=pO ((Gl size ab pw).take (size-1)) pw.length (aa:Int) oM;generalize Px ((Gl size ab pw).take (size-1)) pw.length (aa:Int)=lw at*;have e1:((size:Int)-1).toNat=size-1:=oM;have e2:((size:Int)-2).toNat=size-2:=oM;have e3:((pw.length:Int)+1-1)=(pw.length:Int):=oM;have e4:(((pw.length:Int)+1)-1).toNat=pw.length:=oM;have e5:AL .i64 ((pw.length:Int)+1-1)=(pw.length:Int):=by rw[e3];exact Ah oM
 have e6:dec (lw≠lw)=false:=Jq oA19;generalize Ag (Cm size aa ab pw)++rest=cells at*;refine cG func211 fun _=>?_;repeat(refine sA ?_;intros)
 refine cX hC ?_;rintro _ _ ⟨p,cap',c',rfl,hV,rfl⟩;try dsimp only[AA,AB]
 refine nx ?_;repeat(refine sA ?_;intros)
 (refine dP [c',[(b,row cells E)]] ?_;exact⟨p,cap',c',rfl,hV,rfl⟩)
def Df (size blocks:Nat) (bl bn:Nat) (pp:Option Addr) (np cp:Nat) (fault:Int) (acts:Nat):List Value:=
 [Z9 Z8 size,Z9 Z8 blocks,.map (some bl),.map (some bn),.slice pp np cp,Z9 Z8 (-1),Z9 Z8 fault,.bool false,Z9 Z8 acts]
section
variable (bd size blocks bl bn:Nat) (pp:Option Addr) (np cp:Nat) (fault:Int) (acts:Nat)
theorem Va:CtQ AC 226 [.pointer (some ⟨bd,0,none⟩)] [[(bd,row (Df size blocks bl bn pp np cp fault acts) 116)]] (.bool false):=by
 unfold Df;refine cG func226 fun _=>?_;repeat(refine sA ?_;intros)
 (refine dP [[(bd,row [Z9 Z8 size,Z9 Z8 blocks,.map (some bl),.map (some bn),.slice pp np cp,Z9 Z8 (-1),Z9 Z8 fault,.bool false,Z9 Z8 acts] 116)]] ?_;exact⟨rfl,rfl⟩)
theorem eE:Ct AC 227 [.pointer (some ⟨bd,0,none⟩)] [[(bd,row (Df size blocks bl bn pp np cp 0 acts) 116)]] fun v H'=> v=Z9 Z8 6∧H'=[[(bd,row (Df size blocks bl bn pp np cp (-1) acts) 116)]]:=by
 unfold Df;refine cG func227 fun _=>?_;repeat(refine sA ?_;intros)
 (refine dP [[(bd,row [Z9 Z8 size,Z9 Z8 blocks,.map (some bl),.map (some bn),.slice pp np cp,Z9 Z8 (-1),Z9 Z8 (-1),.bool false,Z9 Z8 acts] 116)]] ?_;exact⟨rfl,rfl⟩)
def Hq (fault:Int):Int:=if 0<fault then fault-1 else fault
theorem eF (hf:fault≠0) (hb: -1≤fault∧fault≤1000000000) (ha:acts≤1000000000000):Ct AC 227 [.pointer (some ⟨bd,0,none⟩)] [[(bd,row (Df size blocks bl bn pp np cp fault acts) 116)]] fun v H'=> v=Z9 Z8 0∧H'=[[(bd,row (Df size blocks bl bn pp np cp (Hq fault) (acts+1)) 116)]]:=by
 unfold Df Hq;by_cases h0:0<fault
 ·rw[if_pos h0];refine cG func227 fun _=>?_;repeat(refine sA ?_;intros)
  (refine dP [[(bd,row [Z9 Z8 size,Z9 Z8 blocks,.map (some bl),.map (some bn),.slice pp np cp,Z9 Z8 (-1),Z9 Z8 (fault-1),.bool false,Z9 Z8 ((acts:Int)+1)] 116)]] ?_;exact⟨rfl,rfl⟩)
 ·rw[if_neg h0];refine cG func227 fun _=>?_;repeat(refine sA ?_;intros)
  (refine dP [[(bd,row [Z9 Z8 size,Z9 Z8 blocks,.map (some bl),.map (some bn),.slice pp np cp,Z9 Z8 (-1),Z9 Z8 fault,.bool false,Z9 Z8 ((acts:Int)+1)] 116)]] ?_;exact⟨rfl,rfl⟩)
end
theorem pR (size blocks:Nat) (hs:8≤size∧size≤256) (hb:blocks≤1000000):Ct AC 46 [Z9 Z8 size,Z9 Z8 blocks] [] fun v H'=> ∃bd bl bn,v= .tuple #[.pointer (some ⟨bd,0,none⟩),Z9 Z8 0]∧H'=[[(bd,row (Df size blocks bl bn none 0 0 (-1) 0) 116)],[(bn,.map #[] 0)]]:=by
 refine cG func46 fun _=>?_;repeat(refine sA ?_;intros)
 rename_i bl bn bd;(refine dP [[(bd,row (Df size blocks bl bn none 0 0 (-1) 0) 116)],[(bn,.map #[] 0)]] ?_;exact⟨bd,bl,bn,rfl,rfl⟩)
structure Db where
 key:Nat
 p:Option Addr
 cap:Nat
 ws:List Int
 born:Nat
 ch:Aa
def Db.ent (size:Nat) (e:Db):Ent Int:=⟨(e.key:Int),.slice e.p size e.cap,e.born⟩
def Db.ok (size:Nat) (e:Db):Prop:=Vec 174 1 e.p size e.cap (Ag e.ws) e.ch
def Ey:List Db→Nat→Option (List Int)
 |[],_=>none
 |e::es,i=>if e.key=i then some e.ws else Ey es i
def Gz (d:Nat→Option (List Int)) (i:Nat) (ws:List Int):Nat→Option (List Int):=fun j=>if j=i then some ws else d j
def chs (es:List Db):Aa:=(es.map (·.ch)).flatten
theorem Yq (size i:Nat):∀(es:List Db) (j:Nat),Ej (i:Int) (es.map (Db.ent size)) j=none∧Ey es i=none∨ ∃l1 e l2,es=l1++e::l2∧e.key=i∧Ey es i=some e.ws∧Ej (i:Int) (es.map (Db.ent size)) j=some (j+l1.length,.slice e.p size e.cap)∧∀x,(∀k,Ey (l1++x::l2) k=if x.key=i∧k=i then some x.ws else if x.key=i then Ey es k else Ey (l1++x::l2) k)
 |[],_=> .inl ⟨rfl,rfl⟩
 |e::es,j=>by
  by_cases h:e.key=i
  ·refine .inr ⟨[],e,es,rfl,h,by simp[Ey,h],?_,fun x k=>?_⟩
   ·simp[Ej,Db.ent,h]
   ·by_cases hx:x.key=i
    ·by_cases hk:k=i
     ·simp[Ey,hx,hk]
     ·have:¬i=k:=fun e=>hk e.symm;simp[Ey,hx,hk,h,this]
    ·simp[hx]
  ·have ab:¬((i:Int)=(e.key:Int)):=oM;rcases Yq size i es (j+1) with⟨h1,h2⟩|⟨l1,e',l2,h1,h2,h3,h4,h5⟩
   ·refine .inl ⟨?_,?_⟩
    ·simp only[AZ,Ej];have aa:¬((i:Int)=(Db.ent size e).key):=ab;rw[if_neg aa];exact h1
    ·simp[Ey,h,h2]
   ·refine .inr ⟨e::l1,e',l2,by rw[h1];rfl,h2,by simp only[Ey,if_neg h,h3],?_,fun x k=>?_⟩
    ·simp only[AZ,Ej];have aa:¬((i:Int)=(Db.ent size e).key):=ab;rw[if_neg aa];simp only[AJ];rw[h4,Nat.add_assoc,Nat.add_comm 1]
    ·have:=h5 x k;simp only[AA,Ey];by_cases hk:e.key=k
     ·have ac:¬k=i:=fun hh=>h (hk.trans hh);simp[hk,ac]
     ·simp only[if_neg hk];exact this
theorem set_db (size i:Nat) (p:Option Addr) (cap:Nat) (ws:List Int) (ch:Aa) (ck:Nat) (es:List Db):∃es2 ck2 old born,Kd (i:Int) (.slice p size cap) (es.map (Db.ent size)) ck=(es2.map (Db.ent size),ck2)∧(∀k,Ey es2 k=Gz (Ey es) i ws k)∧(chs es++ch).Perm (chs es2++old)∧∀e∈es2,e∈es∨e=⟨i,p,cap,ws,born,ch⟩:=by
 rcases Yq size i es 0 with⟨h1,h2⟩|⟨l1,e,l2,rfl,h2,h3,h4,h5⟩
 ·refine⟨es++[⟨i,p,cap,ws,ck,ch⟩],ck+1,[],ck,?_,?_,?_,?_⟩
  ·simp[Kd,h1,Db.ent]
  ·intro k;have:∀(es:List Db),Ey es i=none→Ey (es++[⟨i,p,cap,ws,ck,ch⟩]) k=Gz (Ey es) i ws k:=by
    intro es;induction es with
    |nil=>
     intro _;by_cases hk:k=i
     ·simp[Ey,Gz,hk]
     ·have:¬i=k:=fun e=>hk e.symm;simp[Ey,Gz,hk,this]
    |cons e es ih=>
     intro h;simp only[Ey] at h;split at h
     ·cases h
     ·rename_i hn;have:=ih h;simp only[AA,Ey,Gz] at this⊢;split
      ·rename_i hk;rw[if_neg (fun hh=>hn (hk.trans hh))]
      ·exact this
   exact this es h2
  ·simp[chs]
  ·intro e he;rcases AS.1 he with h|h
   ·exact .inl h
   ·exact .inr oA15
 ·refine⟨l1++⟨i,p,cap,ws,e.born,ch⟩::l2,ck,e.ch,e.born,?_,?_,?_,?_⟩
  ·simp only[Kd,h4,BU];refine Prod.ext ?_ rfl;simp only[A0,AZ];have hm:∀(l1:List (Ent Int)) (x:Ent Int) (l2:List (Ent Int)) (f:Ent Int→Ent Int),(l1++x::l2).modify l1.length f=l1++f x::l2:=by
    intro l1 x l2 f;induction l1 with
    |nil=>rfl
    |cons y l1 ih=>simp[ih]
   have:=hm (l1.map (Db.ent size)) (e.ent size) (l2.map (Db.ent size)) fun e=>{e with val:= .slice p size cap}
   rw[AR] at this;rw[this];simp[Db.ent,h2]
  ·intro k;rw[h5 ⟨i,p,cap,ws,e.born,ch⟩ k];simp[Gz]
  ·simp only[chs,A0,AZ,List.flatten_append,AX,AT];refine BI _ ?_;refine CI.trans ?_;rw[←AT];exact DF _ CI
  ·intro x hx;rcases AS.1 hx with h|h
   ·exact .inl (List.mem_append_left _ h)
   ·rcases AM.1 h with rfl|h
    ·exact .inr rfl
    ·exact .inl (List.mem_append_right _ (AF _ h))
structure Dv where
 size:Nat
 blocks:Nat
 disk:Nat→Option (List Int)
 fault:Int
 acts:Nat
def Dg (bd:Nat) (δ:Dv) (c:Aa):Prop:=
 ∃bl bn pp np cp xs pc es ck aa,c=(bd,row (Df δ.size δ.blocks bl bn pp np cp δ.fault δ.acts) 116)::(bn,Bi Ei (es.map (Db.ent δ.size)) ck)::(pc++(chs es++aa))∧
  Vec 231 2 pp np cp xs pc∧(∀e∈es,e.ok δ.size)∧(∀i,Ey es i=δ.disk i)∧np≤δ.acts∧(8≤δ.size∧δ.size≤256)∧δ.blocks≤1000000∧(-1≤δ.fault∧δ.fault≤1000000000)
theorem Ml (bd:Nat) (δ:Dv) (c:Aa) (h:Dg bd δ c):CtQ AC 107 [.pointer (some ⟨bd,0,none⟩)] [c] (Z9 Z8 δ.size):=by
 obtain⟨bl,bn,pp,np,cp,xs,pc,es,ck,aa,rfl,_⟩:=h;refine CtQ.conv (H2:=[[(bd,row (Df δ.size δ.blocks bl bn pp np cp δ.fault δ.acts) 116)],(bn,Bi Ei (es.map (Db.ent δ.size)) ck)::(pc++(chs es++aa))]) ?_ rfl;unfold Df;refine cG func107 fun _=>?_;repeat(refine sA ?_;intros)
 (refine dP [[(bd,row [Z9 Z8 δ.size,Z9 Z8 δ.blocks,.map (some bl),.map (some bn),.slice pp np cp,Z9 Z8 (-1),Z9 Z8 δ.fault,.bool false,Z9 Z8 δ.acts] 116)],(bn,Bi Ei (es.map (Db.ent δ.size)) ck)::(pc++(chs es++aa))] ?_;exact⟨rfl,rfl⟩)
def Dv.acted (δ:Dv):Dv:={δ with fault:=Hq δ.fault,acts:=δ.acts+1}
def Dv.failed (δ:Dv):Dv:={δ with fault:= -1}
def Dv.wrote (δ:Dv) (i:Nat) (ws:List Int):Dv:={δ with fault:=Hq δ.fault,acts:=δ.acts+1,disk:=Gz δ.disk i ws}
theorem eG {f:Int} (h: -1≤f∧f≤1000000000): -1≤Hq f∧Hq f≤1000000000:=by unfold Hq;split<;>omega
theorem pS (bd:Nat) (δ:Dv) (c:Aa) (h:Dg bd δ c) (i:Nat) (hi:i<δ.blocks) (hf:δ.fault≠0) (ha:δ.acts≤1000000000000) (b off cap:Nat) (cs:List Value) (E:Nat) (fz:Nat×Nat) (ws:List Int) (aq:(cs.drop off).take δ.size=Ag ws) (hl:ws.length=δ.size):Ct AC 209 [.pointer (some ⟨bd,0,none⟩),Z9 Z8 i,.slice (some ⟨b,off,none⟩) δ.size cap] [c,[(b,An cs E fz)]] fun v H'=> ∃c',v=Z9 Z8 0∧Dg bd (δ.wrote i ws) c'∧H'=[c',[(b,An cs E fz)]]:=by
 obtain⟨bl,bn,pp,np,cp,xs,pc,es,ck,ac,rfl,hV,au,av,ay,aw,ax,ao⟩:=h;have hD:=Va bd δ.size δ.blocks bl bn pp np cp δ.fault δ.acts;have hA:=eF bd δ.size δ.blocks bl bn pp np cp δ.fault δ.acts hf ao ha;have hC:=Ym b off δ.size cap cs E fz ws oM oM aq hl;unfold Df at hD hA;refine Ct.conv (H2:=[[(bd,row (Df δ.size δ.blocks bl bn pp np cp δ.fault δ.acts) 116)],[(bn,Bi Ei (es.map (Db.ent δ.size)) ck)],pc,chs es++ac,[(b,An cs E fz)]])
  (R2:=fun v H'=>v=Z9 Z8 0∧∃p aa c' ab ad p' ae ag,H'=[[(bd,row (Df δ.size δ.blocks bl bn p' (np+1) ae (Hq δ.fault) (δ.acts+1)) 116)],[(bn,Bi Ei (ab.map (Db.ent δ.size)) ad)],ag,chs es++ac,c',[(b,An cs E fz)]]∧
   Vec 174 1 p δ.size aa (Ag ws) c'∧Kd (i:Int) (.slice p δ.size aa) (es.map (Db.ent δ.size)) ck=(ab.map (Db.ent δ.size),ad)∧(∀k,Ey ab k=Gz (Ey es) i ws k)∧(∃al,Vec 231 2 p' (np+1) ae al ag)∧
   (∃old born,(chs es++c').Perm (chs ab++old)∧∀e∈ab,e∈es∨e=⟨i,p,aa,ws,born,c'⟩)) ?_ oA19 ?_
 ·unfold Df;refine cG func209 fun _=>?_;repeat(refine sA ?_;intros)
  refine cL hA ?_;rintro _ _ ⟨rfl,rfl⟩;repeat(refine sA ?_;intros)
  refine cL hC ?_;rintro _ _ ⟨p,aa,c',rfl,am,rfl⟩;repeat(refine sA ?_;intros)
  obtain⟨ab,ad,old,born,ai,aj,ah,ak⟩:=set_db δ.size i p aa ws c' ck es;apply R.mapUpdate (K:=Int) (mk:=Ei) (es:=es.map (Db.ent δ.size)) (ck:=ck) (key:=(i:Int)) (es':=ab.map (Db.ent δ.size)) (ck':=ad)
  ·exact rfl
  ·repeat(first|exact Has.here|apply Has.there)
  ·exact rfl
  ·exact rfl
  ·exact Ii.int rfl
  ·exact ai
  ·repeat(first|exact Upd.here|apply Upd.there)
  ·exact rfl
  repeat(refine sA ?_;intros)
  rename_i p' ae ag an
  (refine dP [[(bd,row [Z9 Z8 δ.size,Z9 Z8 δ.blocks,.map (some bl),.map (some bn),.slice p' (np+1) ae,Z9 Z8 (-1),Z9 Z8 (Hq δ.fault),.bool false,Z9 Z8 ((δ.acts+1:Nat):Int)] 116)],[(bn,Bi Ei (ab.map (Db.ent δ.size)) ad)],ag,chs es++ac,c',[(b,An cs E fz)]] ?_;
   exact⟨rfl,p,aa,c',ab,ad,p',ae,ag,rfl,am,ai,aj,⟨_,an⟩,old,born,ah,ak⟩)
 ·rintro v H' ⟨rfl,p,aa,c',ab,ad,p',ae,ag,rfl,am,ai,aj,⟨al,an⟩,old,born,ah,ak⟩;refine⟨_,⟨_,rfl,⟨bl,bn,p',np+1,ae,al,ag,ab,ad,old++ac,rfl,an,?_,?_,?_,aw,ax,eG ao⟩,rfl⟩,?_⟩
  ·intro e he;rcases ak e he with h|rfl
   ·exact au e h
   ·exact am
  ·intro k;rw[aj];simp only[Dv.wrote,Gz,av]
  ·simp only[Dv.wrote];omega
  ·simp only[AX,A4,AQ,AA,AB];refine List.Perm.cons _ (List.Perm.cons _ ?_);simp only[AT];refine BI _ ?_;rw[←AT,←AT,←AT,←AT];refine DF _ ?_;refine List.Perm.trans ?_ (ah.append_right ac);simp only[AT];exact BI _ CI
theorem pT (bd:Nat) (δ:Dv) (c:Aa) (h:Dg bd δ c) (i:Nat) (hi:i<δ.blocks) (hf:δ.fault=0) (b off cap:Nat) (cs:List Value) (E:Nat) (fz:Nat×Nat):Ct AC 209 [.pointer (some ⟨bd,0,none⟩),Z9 Z8 i,.slice (some ⟨b,off,none⟩) δ.size cap] [c,[(b,An cs E fz)]] fun v H'=> ∃c',v=Z9 Z8 6∧Dg bd δ.failed c'∧H'=[c',[(b,An cs E fz)]]:=by
 obtain⟨bl,bn,pp,np,cp,xs,pc,es,ck,aa,rfl,hV,ab,ac,ad,ae,ag,ah⟩:=h;have hD:=Va bd δ.size δ.blocks bl bn pp np cp δ.fault δ.acts;have hA:=eE bd δ.size δ.blocks bl bn pp np cp δ.acts;rw[←hf] at hA;unfold Df at hD hA;refine Ct.conv (H2:=[[(bd,row (Df δ.size δ.blocks bl bn pp np cp δ.fault δ.acts) 116)],[(bn,Bi Ei (es.map (Db.ent δ.size)) ck)],pc,chs es++aa,[(b,An cs E fz)]])
  (R2:=fun v H'=>v=Z9 Z8 6∧H'=[[(bd,row (Df δ.size δ.blocks bl bn pp np cp (-1) δ.acts) 116)],[(bn,Bi Ei (es.map (Db.ent δ.size)) ck)],pc,chs es++aa,[(b,An cs E fz)]]) ?_ oA19 ?_
 ·unfold Df;refine cG func209 fun _=>?_;repeat(refine sA ?_;intros)
  refine cL hA ?_;rintro _ _ ⟨rfl,rfl⟩;repeat(refine sA ?_;intros)
  (refine dP [[(bd,row [Z9 Z8 δ.size,Z9 Z8 δ.blocks,.map (some bl),.map (some bn),.slice pp np cp,Z9 Z8 (-1),Z9 Z8 (-1),.bool false,Z9 Z8 δ.acts] 116)],[(bn,Bi Ei (es.map (Db.ent δ.size)) ck)],pc,chs es++aa,[(b,An cs E fz)]] ?_;exact⟨rfl,rfl⟩)
 ·rintro v H' ⟨rfl,rfl⟩;exact⟨_,⟨_,rfl,⟨bl,bn,pp,np,cp,xs,pc,es,ck,aa,rfl,hV,ab,ac,ad,ae,ag,(by decide:(-1:Int)≤-1∧(-1:Int)≤1000000000)⟩,rfl⟩,by simp[Dv.failed]⟩
theorem pU (bd:Nat) (δ:Dv) (c:Aa) (h:Dg bd δ c) (i:Nat) (hi:i<δ.blocks) (hf:δ.fault=0):Ct AC 210 [.pointer (some ⟨bd,0,none⟩),Z9 Z8 i] [c] fun v H'=> ∃c',v= .tuple #[.slice none 0 0,Z9 Z8 6]∧Dg bd δ.failed c'∧H'=[c']:=by
 obtain⟨bl,bn,pp,np,cp,xs,pc,es,ck,aa,rfl,hV,ab,ac,ad,ae,ag,ah⟩:=h;have hD:=Va bd δ.size δ.blocks bl bn pp np cp δ.fault δ.acts;have hA:=eE bd δ.size δ.blocks bl bn pp np cp δ.acts;rw[←hf] at hA;unfold Df at hD hA;refine Ct.conv (H2:=[[(bd,row (Df δ.size δ.blocks bl bn pp np cp δ.fault δ.acts) 116)],[(bn,Bi Ei (es.map (Db.ent δ.size)) ck)],pc,chs es++aa])
  (R2:=fun v H'=>v= .tuple #[.slice none 0 0,Z9 Z8 6]∧H'=[[(bd,row (Df δ.size δ.blocks bl bn pp np cp (-1) δ.acts) 116)],[(bn,Bi Ei (es.map (Db.ent δ.size)) ck)],pc,chs es++aa]) ?_ oA19 ?_
 ·unfold Df;refine cG func210 fun _=>?_;repeat(refine sA ?_;intros)
  refine cL hA ?_;rintro _ _ ⟨rfl,rfl⟩;repeat(refine sA ?_;intros)
  (refine dP [[(bd,row [Z9 Z8 δ.size,Z9 Z8 δ.blocks,.map (some bl),.map (some bn),.slice pp np cp,Z9 Z8 (-1),Z9 Z8 (-1),.bool false,Z9 Z8 δ.acts] 116)],[(bn,Bi Ei (es.map (Db.ent δ.size)) ck)],pc,chs es++aa] ?_;exact⟨rfl,rfl⟩)
 ·rintro v H' ⟨rfl,rfl⟩;exact⟨_,⟨_,rfl,⟨bl,bn,pp,np,cp,xs,pc,es,ck,aa,rfl,hV,ab,ac,ad,ae,ag,(by decide:(-1:Int)≤-1∧(-1:Int)≤1000000000)⟩,rfl⟩,by simp[Dv.failed]⟩
theorem pV (bd:Nat) (δ:Dv) (c:Aa) (h:Dg bd δ c) (i:Nat) (hi:i<δ.blocks) (hf:δ.fault≠0) (ha:δ.acts≤1000000000000) (ws:List Int) (hd:δ.disk i=some ws):Ct AC 210 [.pointer (some ⟨bd,0,none⟩),Z9 Z8 i] [c] fun v H'=> ∃c' p cap' c2,v= .tuple #[.slice p δ.size cap',Z9 Z8 0]∧Vec 174 1 p δ.size cap' (Ag ws) c2∧Dg bd δ.acted c'∧H'=[c',c2]:=by
 obtain⟨bl,bn,pp,np,cp,xs,pc,es,ck,aa,rfl,hV,ai,ae,au,al,am,aj⟩:=h;have hD:=Va bd δ.size δ.blocks bl bn pp np cp δ.fault δ.acts;have hA:=eF bd δ.size δ.blocks bl bn pp np cp δ.fault δ.acts hf aj ha;unfold Df at hD hA;rcases Yq δ.size i es 0 with⟨h1,h2⟩|⟨l1,e,l2,he,h2,h3,h4,_⟩
 ·rw[ae,hd] at h2;cases h2
 have an:=ai e (by rw[he];simp);have ab:e.ws=ws:=by rw[ae,hd] at h3;simpa using h3.symm
 obtain⟨ac,ak⟩:=an;rcases ak with⟨_,hz,_⟩|⟨be,rest,hp,ao,aq,av,aw⟩
 ·omega
 rw[ab] at ac;have ag:ws.length=δ.size:=by simpa using ac
 have hC:=Ym be 0 δ.size e.cap (Ag ws++rest) 174 (0,0) ws oM oM (by rw[CX,CP oA16,A6 oA16]) ag;have ad:chs es=chs l1++([(be,row (Ag ws++rest) 174)]++chs l2):=by rw[he];simp[chs,ao,ab]
 rw[hp] at h4;refine Ct.conv (H2:=[[(bd,row (Df δ.size δ.blocks bl bn pp np cp δ.fault δ.acts) 116)],[(bn,Bi Ei (es.map (Db.ent δ.size)) ck)],pc,chs l1,[(be,row (Ag ws++rest) 174)],chs l2,aa])
  (R2:=fun v H'=>∃p cap' c2,v= .tuple #[.slice p δ.size cap',Z9 Z8 0]∧Vec 174 1 p δ.size cap' (Ag ws) c2∧H'=[[(bd,row (Df δ.size δ.blocks bl bn pp np cp (Hq δ.fault) (δ.acts+1)) 116)],[(bn,Bi Ei (es.map (Db.ent δ.size)) ck)],pc,chs l1,[(be,row (Ag ws++rest) 174)],chs l2,aa,c2]) ?_ (by simp[ad]) ?_
 ·unfold Df;refine cG func210 fun _=>?_;repeat(refine sA ?_;intros)
  refine cL hA ?_;rintro _ _ ⟨rfl,rfl⟩;repeat(refine sA ?_;intros)
  apply R.lookupT (K:=Int) (mk:=Ei) (key:=(i:Int))
  ·exact rfl
  ·repeat(first|exact Has.here|apply Has.there)
  ·exact rfl
  ·exact Ii.int rfl
  ·exact h4
  ·exact rfl
  ·exact nle rfl
  repeat(refine sA ?_;intros)
  refine cL hC ?_;rintro _ _ ⟨p,cap',c',rfl,ah,rfl⟩;repeat(refine sA ?_;intros)
  (refine dP [[(bd,row [Z9 Z8 δ.size,Z9 Z8 δ.blocks,.map (some bl),.map (some bn),.slice pp np cp,Z9 Z8 (-1),Z9 Z8 (Hq δ.fault),.bool false,Z9 Z8 ((δ.acts+1:Nat):Int)] 116)],[(bn,Bi Ei (es.map (Db.ent δ.size)) ck)],pc,chs l1,[(be,row (Ag ws++rest) 174)],chs l2,aa,c'] ?_;
   exact⟨p,cap',c',rfl,ah,rfl⟩)
 ·rintro v H' ⟨p,cap',c2,rfl,ah,rfl⟩;refine⟨_,⟨_,p,cap',c2,rfl,ah,⟨bl,bn,pp,np,cp,xs,pc,es,ck,aa,rfl,hV,ai,ae,by simp only[Dv.acted];omega,al,am,eG aj⟩,rfl⟩,?_⟩;simp[Dv.acted,ad]
structure Gr where
 bb:Nat
 br:Nat
 n:Nat
 born:Nat
def Gr.ent (g:Gr):Ent Nat:=⟨g.bb,Z9 Z8 g.n,g.born⟩
def Gr.obj (g:Gr):Nat×Obj:=(g.bb,row [.slice (some ⟨g.br,0,none⟩) g.n g.n] 177)
structure Ar where
 room:Nat
 used:Nat
 peak:Nat
 gs:List Gr
def Hs (α:Ar) (bm:Nat):List Value:=[Z9 Z8 α.room,Z9 Z8 α.used,Z9 Z8 α.peak,.map (some bm)]
def Jt (ba:Nat) (α:Ar) (c:Aa):Prop:=
 ∃bm ck,c=(ba,row (Hs α bm) 108)::(bm,Bi Cv (α.gs.map Gr.ent) ck)::α.gs.map Gr.obj∧α.used≤α.room∧α.room≤1000000000∧α.peak≤α.room∧α.used≤α.peak∧α.used=(α.gs.map (·.n)).sum
theorem eH (ba:Nat) (α:Ar) (c:Aa) (h:Jt ba α c):CtQ AC 72 [.pointer (some ⟨ba,0,none⟩)] [c] (Z9 Z8 α.room):=by
 obtain⟨bm,ck,rfl,_⟩:=h;refine CtQ.conv (H2:=[[(ba,row (Hs α bm) 108)],(bm,Bi Cv (α.gs.map Gr.ent) ck)::α.gs.map Gr.obj]) ?_ rfl;unfold Hs;refine cG func72 fun _=>?_;repeat(refine sA ?_;intros)
 (refine dP [[(ba,row [Z9 Z8 α.room,Z9 Z8 α.used,Z9 Z8 α.peak,.map (some bm)] 108)],(bm,Bi Cv (α.gs.map Gr.ent) ck)::α.gs.map Gr.obj] ?_;exact⟨rfl,rfl⟩)
theorem eI (ba:Nat) (α:Ar) (c:Aa) (h:Jt ba α c):CtQ AC 23 [.pointer (some ⟨ba,0,none⟩)] [c] (Z9 Z8 α.used):=by
 obtain⟨bm,ck,rfl,_⟩:=h;refine CtQ.conv (H2:=[[(ba,row (Hs α bm) 108)],(bm,Bi Cv (α.gs.map Gr.ent) ck)::α.gs.map Gr.obj]) ?_ rfl;unfold Hs;refine cG func23 fun _=>?_;repeat(refine sA ?_;intros)
 (refine dP [[(ba,row [Z9 Z8 α.room,Z9 Z8 α.used,Z9 Z8 α.peak,.map (some bm)] 108)],(bm,Bi Cv (α.gs.map Gr.ent) ck)::α.gs.map Gr.obj] ?_;exact⟨rfl,rfl⟩)
theorem pW (ba:Nat) (α:Ar) (c:Aa) (h:Jt ba α c):CtQ AC 106 [.pointer (some ⟨ba,0,none⟩)] [c] (Z9 Z8 ((α.room:Int)-(α.used:Int))):=by
 have hR:=eH ba α c h;have hU:=eI ba α c h;obtain⟨bm,ck,_,h1,h2,_⟩:=h;refine cG func106 fun _=>?_;repeat(refine sA ?_;intros)
 (refine dP [c] ?_;exact⟨rfl,rfl⟩)
theorem pX (ba:Nat) (α:Ar) (c:Aa) (h:Jt ba α c) (n:Int) (hn:0≤n) (hr:(α.room:Int)-(α.used:Int)<n):CtQ AC 157 [.pointer (some ⟨ba,0,none⟩),Z9 Z8 n] [c] (.tuple #[.pointer none,Z9 Z8 7]):=by
 obtain⟨bm,ck,rfl,h1,h2,h3,h4,h5⟩:=h;refine CtQ.conv (H2:=[[(ba,row (Hs α bm) 108)],(bm,Bi Cv (α.gs.map Gr.ent) ck)::α.gs.map Gr.obj]) ?_ rfl;unfold Hs;refine cG func157 fun _=>?_;repeat(refine sA ?_;intros)
 (refine dP [[(ba,row [Z9 Z8 α.room,Z9 Z8 α.used,Z9 Z8 α.peak,.map (some bm)] 108)],(bm,Bi Cv (α.gs.map Gr.ent) ck)::α.gs.map Gr.obj] ?_;exact⟨rfl,rfl⟩)
def Ar.grant (α:Ar) (g:Gr):Ar:={room:=α.room,used:=α.used+g.n,peak:=max α.peak (α.used+g.n),gs:=α.gs++[g]}
theorem eJ {k:Nat}:∀(es:List (Ent Nat)) (i:Nat),(∀e∈es,e.key≠k)→Ej k es i=none
 |[],_,_=>rfl
 |e::es,i,h=>by unfold Ej;rw[if_neg (fun he=>h e AE he.symm)];exact eJ es (i+1) fun e he=>h e (AF _ he)
theorem pY (ba:Nat) (α:Ar) (c:Aa) (h:Jt ba α c) (n:Nat) (hn:n≤α.room-α.used):Ct AC 157 [.pointer (some ⟨ba,0,none⟩),Z9 Z8 n] [c] fun v H'=> ∃g:Gr,∃c',g.n=n∧v= .tuple #[.pointer (some ⟨g.bb,0,none⟩),Z9 Z8 0]∧Jt ba (α.grant g) c'∧H'=[c',[(g.br,row (Bn n [.int .u64 0]) 174)]]:=by
 obtain⟨bm,ck,rfl,h1,h2,h3,h4,h5⟩:=h;refine Ct.conv (H2:=[[(ba,row (Hs α bm) 108)],[(bm,Bi Cv (α.gs.map Gr.ent) ck)],α.gs.map Gr.obj]) (R2:=fun v H'=>∃bb br:Nat,v= .tuple #[.pointer (some ⟨bb,0,none⟩),Z9 Z8 0]∧
  H'=[[(ba,row (Hs (α.grant ⟨bb,br,n,ck⟩) bm) 108)],[(bm,Bi Cv (α.gs.map Gr.ent++[⟨bb,Z9 Z8 n,ck⟩]) (ck+1))],α.gs.map Gr.obj,[(bb,row [.slice (some ⟨br,0,none⟩) n n] 177)],[(br,row (Bn n [.int .u64 0]) 174)]]) ?_ oA19 ?_
 ·unfold Hs;refine cG func157 fun _=>?_;repeat(refine sA ?_;intros)
  rename_i br bb;apply R1.nodup
  ·exact rfl
  intro ab;have aa:∀e∈α.gs.map Gr.ent,e.key≠bb:=by intro e he;obtain⟨g,hg,rfl⟩:=AN.1 he;simp only[Bj,AX,A4,AQ,AA,AB,AZ,CC,AM,AN,not_or] at ab;intro heq;exact ab.1.2.2.2 ⟨Gr.obj g,⟨g,hg,rfl⟩,heq⟩
  apply R.mapUpdate (K:=Nat) (mk:=Cv) (es:=α.gs.map Gr.ent) (ck:=ck) (key:=bb) (es':=α.gs.map Gr.ent++[⟨bb,Z9 Z8 n,ck⟩]) (ck':=ck+1)
  ·exact rfl
  ·repeat(first|exact Has.here|apply Has.there)
  ·exact rfl
  ·exact rfl
  ·refine Ii.ptr ⟨_,_,Has.here⟩ fun e he=>?_;obtain⟨g,hg,rfl⟩:=AN.1 he;refine⟨[.slice (some ⟨g.br,0,none⟩) g.n g.n],177,?_⟩;apply Has.there;apply Has.there;apply Has.there;apply Has.there;exact Has.in_ (AN.2 ⟨g,hg,rfl⟩)
  ·unfold Kd;rw[eJ _ 0 aa]
  ·repeat(first|exact Upd.here|apply Upd.there)
  ·exact rfl
  repeat(refine sA ?_;intros)
  (refine dP [[(ba,row [Z9 Z8 α.room,Z9 Z8 ((α.used:Int)+(n:Int)),Z9 Z8 (max (α.peak:Int) ((α.used:Int)+(n:Int))),.map (some bm)] 108)],[(bm,Bi Cv (α.gs.map Gr.ent++[⟨bb,Z9 Z8 n,ck⟩]) (ck+1))],α.gs.map Gr.obj,[(bb,row [.slice (some ⟨br,0,none⟩) n n] 177)],[(br,row (Bn n [.int .u64 0]) 174)]] ?_;refine⟨bb,br,rfl,?_⟩);have e1:((α.grant ⟨bb,br,n,ck⟩).used:Int)=(α.used:Int)+(n:Int):=by simp[Ar.grant]
  have e2:((α.grant ⟨bb,br,n,ck⟩).peak:Int)=max (α.peak:Int) ((α.used:Int)+(n:Int)):=by simp only[Ar.grant];omega
  rw[e1,e2];rfl
 ·rintro v H' ⟨bb,br,rfl,rfl⟩;refine⟨_,⟨⟨bb,br,n,ck⟩,_,rfl,rfl,⟨bm,ck+1,rfl,?_,?_,?_,?_,?_⟩,rfl⟩,?_⟩
  ·simp only[Ar.grant];omega
  ·simp only[Ar.grant];omega
  ·simp only[Ar.grant];omega
  ·simp only[Ar.grant];omega
  ·simp only[Ar.grant,A0,CV];simp[h5]
  ·simp[Ar.grant,Gr.ent,Gr.obj]
theorem eK {k:Nat} {g:Ent Nat} (hk:g.key=k):∀(es:List (Ent Nat)) (r:List (Ent Nat)) (i:Nat),(∀e∈es,e.key≠k)→Ej k (es++g::r) i=some (i+es.length,g.val)
 |[],r,i,_=>by simp[Ej,hk]
 |e::es,r,i,h=>by rw[AA,Ej,if_neg (fun he=>h e AE he.symm),eK hk es r (i+1) fun e he=>h e (AF _ he)];simp;omega
def Ar.release (α:Ar) (g:Gr) (gs:List Gr):Ar:={room:=α.room,used:=α.used-g.n,peak:=α.peak,gs:=gs}
theorem pZ (ba:Nat) (α:Ar) (c:Aa) (h:Jt ba α c) (l1 l2:List Gr) (g:Gr) (hg:α.gs=l1++g::l2):Cb AC 160 [.pointer (some ⟨ba,0,none⟩),.pointer (some ⟨g.bb,0,none⟩)] [c] fun v H'=> ∃c',v= .bool true∧Jt ba (α.release g (l1++l2)) c'∧H'=[c']:=by
 obtain⟨bm,ck,rfl,h1,h2,h3,h4,h5⟩:=h;rw[hg] at h5;simp only[A0,AZ,CV,List.sum_cons] at h5;refine Cb.conv (H2:=[[(ba,row (Hs α bm) 108)],[(bm,Bi Cv (l1.map Gr.ent++g.ent::l2.map Gr.ent) ck)],l1.map Gr.obj,[g.obj],l2.map Gr.obj]) (R2:=fun v H'=>v= .bool true∧
  H'=[[(ba,row (Hs (α.release g (l1++l2)) bm) 108)],[(bm,Bi Cv (l1.map Gr.ent++l2.map Gr.ent) ck)],l1.map Gr.obj,l2.map Gr.obj]) ?_ (DD (by simp[hg])) ?_
 ·unfold Hs;obtain⟨bb,br,n,born⟩:=g;dsimp only at h5;simp only[Gr.ent,Gr.obj];refine Cb.intro func160 rfl ntmps160 (nle rfl) fun w0=>?_;dsimp only[Cy,AD];repeat(refine sA ?_;intros)
  have ae:(Bj [[(ba,row [Z9 Z8 α.room,Z9 Z8 α.used,Z9 Z8 α.peak,.map (some bm)] 108)],[(bm,Bi Cv (l1.map Gr.ent++⟨bb,Z9 Z8 n,born⟩::l2.map Gr.ent) ck)],l1.map Gr.obj,[(bb,row [.slice (some ⟨br,0,none⟩) n n] 177)],l2.map Gr.obj]).Nodup→∀e∈l1.map Gr.ent,e.key≠bb:=by intro ab e he heq;obtain⟨g,hg,rfl⟩:=AN.1 he;simp only[Bj,AX,A4,AQ,AA,AB,AZ,A0,CC,List.nodup_append] at ab;exact ab.2.2.2.2 g.bb (AN.2 ⟨_,AN.2 ⟨g,hg,rfl⟩,rfl⟩) bb AE heq
  have ac:∀w0 S,Ii AC w0 S [[(ba,row [Z9 Z8 α.room,Z9 Z8 α.used,Z9 Z8 α.peak,.map (some bm)] 108)],[(bm,Bi Cv (l1.map Gr.ent++⟨bb,Z9 Z8 n,born⟩::l2.map Gr.ent) ck)],l1.map Gr.obj,[(bb,row [.slice (some ⟨br,0,none⟩) n n] 177)],l2.map Gr.obj] 163 Cv bb (l1.map Gr.ent++⟨bb,Z9 Z8 n,born⟩::l2.map Gr.ent):=by
   intro w0 S;refine Ii.ptr ⟨_,_,Has.there (Has.there (Has.there Has.here))⟩ fun e he=>?_;rcases AS.1 he with he|he
   ·obtain⟨g,hg,rfl⟩:=AN.1 he;exact⟨[.slice (some ⟨g.br,0,none⟩) g.n g.n],177,Has.there (Has.there (Has.in_ (AN.2 ⟨g,hg,rfl⟩)))⟩
   ·rcases AM.1 he with rfl|he
    ·exact⟨_,_,Has.there (Has.there (Has.there Has.here))⟩
    ·obtain⟨g,hg,rfl⟩:=AN.1 he;exact⟨[.slice (some ⟨g.br,0,none⟩) g.n g.n],177,Has.there (Has.there (Has.there (Has.there (Has.in_ (AN.2 ⟨g,hg,rfl⟩)))))⟩
  apply R1.nodup
  ·exact rfl
  intro ab;have aa:=eK (k:=bb) (g:=⟨bb,Z9 Z8 n,born⟩) rfl (l1.map Gr.ent) (l2.map Gr.ent) 0 (ae ab);dsimp only at aa;have ad:delE bb (l1.map Gr.ent++⟨bb,Z9 Z8 n,born⟩::l2.map Gr.ent)=l1.map Gr.ent++l2.map Gr.ent:=by unfold delE;rw[aa];simp only[BU,AR];rw[List.eraseIdx_append_of_length_le oA19];simp
  apply R.lookupT (K:=Nat) (mk:=Cv) (key:=bb)
  ·exact rfl
  ·repeat(first|exact Has.here|apply Has.there)
  ·exact rfl
  ·exact ac _ _
  ·exact aa
  ·exact rfl
  ·exact nle rfl
  repeat(refine sA ?_;intros)
  apply R.delete (K:=Nat) (mk:=Cv) (key:=bb)
  ·exact rfl
  ·repeat(first|exact Has.here|apply Has.there)
  ·exact rfl
  ·exact ac _ _
  ·exact ad
  ·repeat(first|exact Upd.here|apply Upd.there)
  ·exact rfl
  repeat(refine sA ?_;intros)
  (refine dP [[(ba,row [Z9 Z8 α.room,Z9 Z8 ((α.used:Int)-(n:Int)),Z9 Z8 α.peak,.map (some bm)] 108)],[(bm,Bi Cv (l1.map Gr.ent++l2.map Gr.ent) ck)],l1.map Gr.obj,l2.map Gr.obj] ?_;refine⟨rfl,?_⟩);have e1:((α.release ⟨bb,br,n,born⟩ (l1++l2)).used:Int)=(α.used:Int)-(n:Int):=by simp only[Ar.release];omega
  rw[e1];rfl
 ·rintro v H' ⟨rfl,rfl⟩;refine⟨_,⟨_,rfl,⟨bm,ck,rfl,?_,?_,?_,?_,?_⟩,rfl⟩,?_⟩
  ·simp only[Ar.release];omega
  ·simp only[Ar.release];omega
  ·simp only[Ar.release];omega
  ·simp only[Ar.release];omega
  ·simp only[Ar.release,A0,CV];omega
  ·simp[Ar.release]
theorem qA (ba:Nat) (α:Ar) (c:Aa) (h:Jt ba α c):CtQ AC 71 [.pointer (some ⟨ba,0,none⟩)] [c] (Z9 Z8 α.peak):=by
 obtain⟨bm,ck,rfl,_⟩:=h;refine CtQ.conv (H2:=[[(ba,row (Hs α bm) 108)],(bm,Bi Cv (α.gs.map Gr.ent) ck)::α.gs.map Gr.obj]) ?_ rfl;unfold Hs;refine cG func71 fun _=>?_;repeat(refine sA ?_;intros)
 (refine dP [[(ba,row [Z9 Z8 α.room,Z9 Z8 α.used,Z9 Z8 α.peak,.map (some bm)] 108)],(bm,Bi Cv (α.gs.map Gr.ent) ck)::α.gs.map Gr.obj] ?_;exact⟨rfl,rfl⟩)
theorem qB (room:Nat) (hr:room≤1000000000):Ct AC 48 [Z9 Z8 room] [] fun v H'=> ∃ba c',v= .pointer (some ⟨ba,0,none⟩)∧Jt ba ⟨room,0,0,[]⟩ c'∧H'=[c']:=by
 refine Ct.conv (H2:=[]) (R2:=fun v H'=>∃ba bm,v= .pointer (some ⟨ba,0,none⟩)∧H'=[[(ba,row [Z9 Z8 room,Z9 Z8 0,Z9 Z8 0,.map (some bm)] 108)],[(bm,Bi Cv [] 0)]]) ?_ rfl ?_
 ·have aa:max (room:Int) 0=(room:Int):=oM;refine cG func48 fun _=>?_;repeat(refine sA ?_;intros)
  rename_i bm ba;(refine dP [[(ba,row [Z9 Z8 (max (room:Int) 0),Z9 Z8 0,Z9 Z8 0,.map (some bm)] 108)],[(bm,Bi Cv [] 0)]] ?_;exact⟨ba,bm,rfl,by rw[aa]⟩)
 ·rintro v H' ⟨ba,bm,rfl,rfl⟩;exact⟨_,⟨ba,_,rfl,⟨bm,0,rfl,oD,hr,oD,oD,rfl⟩,rfl⟩,by simp[Hs]⟩
end Go.Proofs.YtaofijjjheiknaaGreat
namespace Go.Tup
structure T5 where
 c0:Int
 c1:Int
 c2:Int
 c3:Int
 c4:Int
 deriving DecidableEq
def T5.toList (t:T5):List Int:=[t.c0,t.c1,t.c2,t.c3,t.c4]
def T5.col (t:T5):Nat→Int
 |0=>t.c0
 |1=>t.c1
 |2=>t.c2
 |3=>t.c3
 |4=>t.c4
 |_=>0
def Py:List Int→Bool→(Nat→Bool)→Bool
 |[],_,_=>true
 |k::ks,over,s=>
  if(over=true∧k≠0)∨k< -5∨5<k then false
  else if k=0 then Py ks true s
  else if s k.natAbs=true then false
  else Py ks over (fun j=>if j=k.natAbs then true else s j)
def Ge (o:T5):Bool:=Py o.toList false (fun _=>false)
theorem Yr:∀(l:List Int) (over:Bool) (s:Nat→Bool),Py l over s=true→∀k∈l,-5≤k∧k≤5
 |[],_,_,_,k,hk=>by cases hk
 |x::l,over,s,h,k,hk=>by
  unfold Py at h;split at h
  ·cases h
  ·rename_i hb;have hx: -5≤x∧x≤5:=oM;rcases List.mem_cons.1 hk with rfl|hk
   ·exact hx
   ·split at h
    ·exact Yr l _ _ h k hk
    ·split at h
     ·cases h
     ·exact Yr l _ _ h k hk
theorem qC {o:T5} (h:Ge o=true):∀k∈o.toList,-5≤k∧k≤5:=Yr _ _ _ h
def Ec (x y:Int):Int:=if x<y then-1 else if y<x then 1 else 0
def Kg:List Int→T5→T5→Int
 |[],_,_=>0
 |k::ks,a,b=>
  if k=0 then 0
  else
   let c:=if k<0 then Ec (b.col (k.natAbs-1)) (a.col (k.natAbs-1)) else Ec (a.col (k.natAbs-1)) (b.col (k.natAbs-1))
   if c≠0 then c else Kg ks a b
def Cz (o a b:T5):Int:=if Ge o=true then Kg o.toList a b else 0
end Go.Tup
namespace Go.Proofs.YtaofijjjheiknaaGreat
open Go.SL Go.Tup
theorem Nj (o0 o1 o2 o3 o4:Int):CtQ AC 178 [.agg #[Z9 Z8 o0,Z9 Z8 o1,Z9 Z8 o2,Z9 Z8 o3,Z9 Z8 o4]] [] (.bool (Ge ⟨o0,o1,o2,o3,o4⟩)):=by
 refine cG func178 fun _=>?_;repeat(refine sA ?_;intros)
 rename_i b1 b2;refine G.loop (X:=Nat×Bool×(Nat→Bool)) (fun x=>x.1≤5∧Ge ⟨o0,o1,o2,o3,o4⟩=Py ([o0,o1,o2,o3,o4].drop x.1) x.2.1 x.2.2)
  (fun x=>[(8,Z9 Z8 x.1),(7,.agg #[Z9 Z8 o0,Z9 Z8 o1,Z9 Z8 o2,Z9 Z8 o3,Z9 Z8 o4]),(4,.bool x.2.1),(3,.pointer (some ⟨b2,0,none⟩))])
  (fun x=>[[(b2,row [.bool (x.2.2 0),.bool (x.2.2 1),.bool (x.2.2 2),.bool (x.2.2 3),.bool (x.2.2 4),.bool (x.2.2 5)] 215)]])
  (fun x=>5-x.1) (0,false,fun _=>false) ⟨by decide,rfl⟩ (body:=?_)
 rintro⟨i,over,s⟩ ⟨hi,hf⟩;dsimp only at hi hf⊢;by_cases h5:i<5
 ·obtain⟨k,hk,hd⟩:∃k,([Z9 Z8 o0,Z9 Z8 o1,Z9 Z8 o2,Z9 Z8 o3,Z9 Z8 o4]:List Value)[i]? =some (Z9 Z8 k)∧
    [o0,o1,o2,o3,o4].drop i=k::[o0,o1,o2,o3,o4].drop (i+1):=by
   match i with
   |0=>exact⟨o0,rfl,rfl⟩
   |1=>exact⟨o1,rfl,rfl⟩
   |2=>exact⟨o2,rfl,rfl⟩
   |3=>exact⟨o3,rfl,rfl⟩
   |4=>exact⟨o4,rfl,rfl⟩
  rw[hd,Py] at hf;have ac:∀k:Int,(max k (-k)).toNat=k.natAbs:=by intro k;omega
  have ae:=ac k;have hc: -5≤k→k≤5→([.bool (s 0),.bool (s 1),.bool (s 2),.bool (s 3),.bool (s 4),.bool (s 5)]:List Value)[k.natAbs]? =some (.bool (s k.natAbs)):=by
   intro h1 h2;obtain h|h|h|h|h|h:k.natAbs=0∨k.natAbs=1∨k.natAbs=2∨k.natAbs=3∨k.natAbs=4∨k.natAbs=5:=by omega
   all_goals rw[h];rfl
  have aa: -5≤k→k≤5→([.bool (s 0),.bool (s 1),.bool (s 2),.bool (s 3),.bool (s 4),.bool (s 5)]:List Value).set k.natAbs (.bool true)=
    [.bool (if 0=k.natAbs then true else s 0),.bool (if 1=k.natAbs then true else s 1),.bool (if 2=k.natAbs then true else s 2),
     .bool (if 3=k.natAbs then true else s 3),.bool (if 4=k.natAbs then true else s 4),.bool (if 5=k.natAbs then true else s 5)]:=by
   intro h1 h2;obtain h|h|h|h|h|h:k.natAbs=0∨k.natAbs=1∨k.natAbs=2∨k.natAbs=3∨k.natAbs=4∨k.natAbs=5:=by omega
   all_goals rw[h];rfl
  by_cases hb:k< -5∨5<k
  ·rw[if_pos (Or.inr hb)] at hf;cases over;all_goals repeat' (first|(refine st ?_;intros)|(refine sp ?_ ?_<;>intros)|fail)
   all_goals(refine dP [] ?_;exact⟨congrArg Value.bool hf.symm,rfl⟩)
  ·have ab:=hc oM oM;have ad:=aa oM oM;have ag:k.natAbs<6:=oM;by_cases h0:k=0
   ·rw[if_neg (by simp[h0]),if_pos h0] at hf;cases over;all_goals repeat' (first|(refine st ?_;intros)|(refine sp ?_ ?_<;>intros)|fail)
    all_goals exact Dn.round (i+1,true,s) ⟨oM,hf⟩ oD
   ·cases over
    ·rw[if_neg oA16,if_neg h0] at hf;by_cases hs:s k.natAbs=true
     ·rw[if_pos hs] at hf;rw[hs] at ab;repeat' (first|(refine st ?_;intros)|(refine sp ?_ ?_<;>intros)|fail)
      (refine dP [] ?_;exact⟨congrArg Value.bool hf.symm,rfl⟩)
     ·rw[if_neg hs] at hf;simp only[Bool.not_eq_true] at hs;rw[hs] at ab;repeat' (first|(refine st ?_;intros)|(refine sp ?_ ?_<;>intros)|fail)
      exact Dn.round (i+1,false,fun j=>if j=k.natAbs then true else s j) ⟨oM,hf⟩ oD
    ·rw[if_pos (by simp[h0])] at hf;repeat' (first|(refine st ?_;intros)|(refine sp ?_ ?_<;>intros)|fail)
     (refine dP [] ?_;exact⟨congrArg Value.bool hf.symm,rfl⟩)
 ·repeat' (first|(refine st ?_;intros)|(refine sp ?_ ?_<;>intros)|fail)
  obtain rfl:i=5:=by omega
  (refine dP [] ?_;exact⟨congrArg Value.bool (hf.trans rfl).symm,rfl⟩)
def tv (t:T5):Value:= .agg #[Z9 Z8 t.c0,Z9 Z8 t.c1,Z9 Z8 t.c2,Z9 Z8 t.c3,Z9 Z8 t.c4]
theorem qD (x:Int):CtQ AC 252 [Z9 Z8 x] [] (.bool false):=by
 refine cG func252 fun _=>?_;repeat(refine sA ?_;intros)
 (refine dP [] ?_;exact⟨by simp[Gx,Jq],rfl⟩)
theorem Og (x y:Int):CtQ AC 250 [Z9 Z8 x,Z9 Z8 y] [] (Z9 Z8 (Ec x y)):=by
 refine cG func250 fun _=>?_;repeat' (first|(refine st ?_;intros)|refine cq qD ?_|(refine sp ?_ ?_<;>intros)|fail)
 all_goals(refine dP [] ?_;refine⟨?_,rfl⟩)
 all_goals simp only[Gx,Ec]
 all_goals first|rw[if_pos oA17]|rw[if_neg oA17,if_pos oA17]|rw[if_neg oA17,if_neg oA17]
theorem Vb (a0 a1 a2 a3 a4 k:Int) (h1:1≤k) (h2:k≤5):([Z9 Z8 a0,Z9 Z8 a1,Z9 Z8 a2,Z9 Z8 a3,Z9 Z8 a4]:List Value)[(k-1).toNat]? =some (Z9 Z8 (T5.col ⟨a0,a1,a2,a3,a4⟩ (k.natAbs-1))):=by
 obtain rfl|rfl|rfl|rfl|rfl:k=1∨k=2∨k=3∨k=4∨k=5:=by omega
 all_goals rfl
theorem qE (o0 o1 o2 o3 o4:Int) (i:Nat) (h:i<5):∃k,([Z9 Z8 o0,Z9 Z8 o1,Z9 Z8 o2,Z9 Z8 o3,Z9 Z8 o4]:List Value)[i]? =some (Z9 Z8 k)∧[o0,o1,o2,o3,o4].drop i=k::[o0,o1,o2,o3,o4].drop (i+1)∧k∈[o0,o1,o2,o3,o4]:=by
 match i with
 |0=>exact⟨o0,rfl,rfl,by simp⟩
 |1=>exact⟨o1,rfl,rfl,by simp⟩
 |2=>exact⟨o2,rfl,rfl,by simp⟩
 |3=>exact⟨o3,rfl,rfl,by simp⟩
 |4=>exact⟨o4,rfl,rfl,by simp⟩
theorem Ys (a0 a1 a2 a3 a4 c0 c1 c2 c3 c4 o0 o1 o2 o3 o4:Int):CtQ AC 244 [.agg #[Z9 Z8 a0,Z9 Z8 a1,Z9 Z8 a2,Z9 Z8 a3,Z9 Z8 a4],.agg #[Z9 Z8 c0,Z9 Z8 c1,Z9 Z8 c2,Z9 Z8 c3,Z9 Z8 c4],.agg #[Z9 Z8 o0,Z9 Z8 o1,Z9 Z8 o2,Z9 Z8 o3,Z9 Z8 o4]] [] (Z9 Z8 (Cz ⟨o0,o1,o2,o3,o4⟩ ⟨a0,a1,a2,a3,a4⟩ ⟨c0,c1,c2,c3,c4⟩)):=by
 refine cG func244 fun _=>?_;by_cases hF:Ge ⟨o0,o1,o2,o3,o4⟩=true
 ·have aa:=qC hF;simp only[T5.toList] at aa;simp only[Cz,hF,if_true,T5.toList];have ac:(!Ge ⟨o0,o1,o2,o3,o4⟩)=false:=by rw[hF];rfl
  generalize ab:Kg [o0,o1,o2,o3,o4] ⟨a0,a1,a2,a3,a4⟩ ⟨c0,c1,c2,c3,c4⟩=res;repeat(first|(refine sA ?_;intros)|refine cq Nj ?_|refine cq Og ?_)
  rename_i b1 b2 b3;refine G.loop (X:=Nat) (fun i=>i≤5∧res=Kg ([o0,o1,o2,o3,o4].drop i) ⟨a0,a1,a2,a3,a4⟩ ⟨c0,c1,c2,c3,c4⟩)
   (fun i=>[(15,Z9 Z8 i),(14,.agg #[Z9 Z8 o0,Z9 Z8 o1,Z9 Z8 o2,Z9 Z8 o3,Z9 Z8 o4]),(3,.pointer (some ⟨b1,0,none⟩)),(4,.pointer (some ⟨b2,0,none⟩))])
   (fun _=>[[(b1,row [Z9 Z8 a0,Z9 Z8 a1,Z9 Z8 a2,Z9 Z8 a3,Z9 Z8 a4] 33)],[(b2,row [Z9 Z8 c0,Z9 Z8 c1,Z9 Z8 c2,Z9 Z8 c3,Z9 Z8 c4] 33)]])
   (fun i=>5-i) 0 ⟨by decide,ab.symm⟩ (body:=?_)
  rintro i ⟨hi,hf⟩;by_cases h5:i<5
  ·obtain⟨k,hk,hd,hm⟩:=qE o0 o1 o2 o3 o4 i h5;obtain⟨ad,ae⟩:=aa k hm;rw[hd,Kg] at hf;by_cases h0:k=0
   ·rw[if_pos h0] at hf;repeat(first|(refine sA ?_;intros)|refine cq Nj ?_|refine cq Og ?_)
    (refine dP [] ?_;exact⟨congrArg (Value.int .i64) hf.symm,rfl⟩)
   ·rw[if_neg h0] at hf;by_cases hn:k<0
    ·have g1:=Vb a0 a1 a2 a3 a4 (-k) oM oM;have g2:=Vb c0 c1 c2 c3 c4 (-k) oM oM;rw[Int.natAbs_neg] at g1 g2;simp only[hn,if_true] at hf;by_cases hz:Ec (T5.col ⟨c0,c1,c2,c3,c4⟩ (k.natAbs-1)) (T5.col ⟨a0,a1,a2,a3,a4⟩ (k.natAbs-1))=0
     ·rw[if_neg (by simpa using hz)] at hf;repeat(first|(refine sA ?_;intros)|refine cq Nj ?_|refine cq Og ?_)
      exact Dn.round (i+1) ⟨oM,hf⟩ oM
     ·rw[if_pos hz] at hf;repeat(first|(refine sA ?_;intros)|refine cq Nj ?_|refine cq Og ?_)
      (refine dP [] ?_;exact⟨congrArg (Value.int .i64) hf.symm,rfl⟩)
    ·have g1:=Vb a0 a1 a2 a3 a4 k oM oM;have g2:=Vb c0 c1 c2 c3 c4 k oM oM;simp only[hn,if_false] at hf;by_cases hz:Ec (T5.col ⟨a0,a1,a2,a3,a4⟩ (k.natAbs-1)) (T5.col ⟨c0,c1,c2,c3,c4⟩ (k.natAbs-1))=0
     ·rw[if_neg (by simpa using hz)] at hf;repeat(first|(refine sA ?_;intros)|refine cq Nj ?_|refine cq Og ?_)
      exact Dn.round (i+1) ⟨oM,hf⟩ oM
     ·rw[if_pos hz] at hf;repeat(first|(refine sA ?_;intros)|refine cq Nj ?_|refine cq Og ?_)
      (refine dP [] ?_;exact⟨congrArg (Value.int .i64) hf.symm,rfl⟩)
  ·repeat(first|(refine sA ?_;intros)|refine cq Nj ?_|refine cq Og ?_)
   obtain rfl:i=5:=by omega
   (refine dP [] ?_;exact⟨congrArg (Value.int .i64) hf.symm,rfl⟩)
 ·simp only[Bool.not_eq_true] at hF;simp only[Cz,hF];have ac:(!Ge ⟨o0,o1,o2,o3,o4⟩)=true:=by rw[hF];rfl
  repeat(first|(refine sA ?_;intros)|refine cq Nj ?_|refine cq Og ?_)
  (refine dP [] ?_;exact⟨rfl,rfl⟩)
open Go.Spc
abbrev pv (b:Nat):Value:= .pointer (some ⟨b,0,none⟩)
abbrev wd (c:Int):Int:=AL .u64 c
def Av (c:Int):Prop:= -9223372036854775808≤c∧c≤9223372036854775807
def okT (k:Nat) (t:T5):Prop:=(∀c∈t.toList,Av c)∧∀i,k≤i→t.col i=0
theorem eL {c:Int} (h:Av c):AL .i64 (wd c)=c:=by
 obtain⟨h1,h2⟩:=h;have h3:(9223372036854775808:Int)=2^(64-1):=by decide
 simp only[wd,AL,IntKind.bits,IntKind.signed,Bool.true_and,Bool.false_and,decide_eq_true_eq,←h3];simp;split<;>omega
def tw (k:Nat) (t:T5):List Int:=(t.toList.take k).map wd
def Bl (k:Nat) (ts:List T5):List Int:=ts.flatMap (tw k)
theorem Kh {k:Nat} (t:T5) (hk:k≤5):(tw k t).length=k:=by simp[tw,T5.toList];omega
theorem Nk {k:Nat} (hk:k≤5) (ts:List T5):(Bl k ts).length=ts.length*k:=by
 induction ts with
 |nil=>simp[Bl]
 |cons t ts ih=>
  simp only[Bl,List.flatMap_cons,AH,Kh t hk,AJ] at ih⊢;rw[ih,BH];omega
@[simp] theorem Yt (k:Nat) (a b:List T5):Bl k (a++b)=Bl k a++Bl k b:=by simp[Bl]
@[simp] theorem words_nil (k:Nat):Bl k []=[]:=rfl
def Pz (d:Nat→Option (List Int)) (size k h first:Nat) (ts:List T5) (nb:Nat):Prop:=
 ∀j,j<nb→d (first+j)=some (Cm size ((first+j:Nat):Int) (k:Int) (Bl k ((ts.drop (j*h)).take h)))
structure Fl where
 first:Nat
 blocks:Nat
 width:Nat
 count:Nat
 deriving DecidableEq
def Fl.ext (f:Fl):Ext:=(f.first,f.blocks)
def flv (f:Fl):Value:= .agg #[Z9 Z8 f.first,Z9 Z8 f.blocks,Z9 Z8 f.width,Z9 Z8 f.count]
abbrev Ad (size k:Nat):Nat:=(size-2)/k
abbrev Ac (size k c:Nat):Nat:=(c+Ad size k-1)/Ad size k
structure Be (d:Nat→Option (List Int)) (size:Nat) (Lv:List Ext) (f:Fl) (ts:List T5):Prop where
 w1:1≤f.width
 w2:f.width≤5
 len:ts.length=f.count
 cnt:f.count≤100000000
 blk:f.blocks=Ac size f.width f.count
 fit:∀t∈ts,okT f.width t
 onto:Pz d size f.width (Ad size f.width) f.first ts f.blocks
 live:f.blocks≠0→f.ext∈Lv
theorem Be.keep {d d':Nat→Option (List Int)} {size:Nat} {Lv:List Ext} {f:Fl} {ts:List T5} (h:Be d size Lv f ts) (hd:∀x,inF Lv x→d' x=d x):Be d' size Lv f ts:=by
 have ho:Pz d' size f.width (Ad size f.width) f.first ts f.blocks:=by
  intro j hj;rw[hd]
  ·exact h.onto j hj
  ·exact⟨f.ext,h.live oM,by simp[Fl.ext],by simp[Fl.ext];omega⟩
 exact{h with onto:=ho}
theorem Be.sub {d:Nat→Option (List Int)} {size:Nat} {Lv Lv':List Ext} {f:Fl} {ts:List T5} (h:Be d size Lv f ts) (hs:∀e∈Lv,e∈Lv'):Be d size Lv' f ts:=
 {h with live:=fun hb=>hs _ (h.live hb)}
structure Ht (σ:Sp) (live:List Ext):Prop where
 fit:∀e∈live,1≤e.2∧e.1+e.2≤σ.n
 apart:live.Pairwise fun a b=>a.1+a.2≤b.1∨b.1+b.2≤a.1
 free:∀x,x<σ.n→(inF σ.free x↔¬inF live x)
 sum:Bc σ.free+Bc live=σ.n
theorem Ti {a b:List Ext} (h:a.Perm b):Bc a=Bc b:=(h.map _).sum_nat
theorem Oh {a b:List Ext} (h:a.Perm b) (x:Nat):inF a x↔inF b x:=by
 unfold inF;constructor
 ·rintro⟨e,he,h2⟩;exact⟨e,h.mem_iff.1 he,h2⟩
 ·rintro⟨e,he,h2⟩;exact⟨e,h.mem_iff.2 he,h2⟩
theorem Ht.perm {σ:Sp} {l l':List Ext} (h:Ht σ l) (hp:l.Perm l'):Ht σ l' where
 fit:=fun e he=>h.fit e (hp.mem_iff.2 he)
 apart:=(hp.pairwise_iff (fun {a b} aa=>aa.symm)).1 h.apart
 free:=fun x hx=>by rw[h.free x hx,Oh hp]
 sum:=by rw[←Ti hp];exact h.sum
theorem Ht.other {σ:Sp} {e:Ext} {l:List Ext} (h:Ht σ (e::l)) {x:Nat} (h1:e.1≤x) (h2:x<e.1+e.2):¬inF l x:=by rintro⟨y,hy,h3,h4⟩;have:=List.rel_of_pairwise_cons h.apart hy;omega
structure Wk where
 δ:Dv
 α:Ar
 σ:Sp
 live:List Ext
def Dw (ba:Nat) (α:Ar) (c:Aa):Prop:=∃c0,Jt ba α c0∧c.Perm c0
theorem Dw.perm {ba:Nat} {α:Ar} {c c':Aa} (h:Dw ba α c) (hp:c'.Perm c):Dw ba α c':=
 let ⟨c0,h1,h2⟩:=h;⟨c0,h1,hp.trans h2⟩
theorem Jt.ar {ba:Nat} {α:Ar} {c:Aa} (h:Jt ba α c):Dw ba α c:=⟨c,h,.refl _⟩
theorem Dw.open_ {ba:Nat} {α:Ar} {c:Aa} (h:Dw ba α c) {g:Gr} (hg:g∈α.gs):∃c1,c.Perm (c1++[g.obj]):=by
 obtain⟨c0,⟨bm,ck,rfl,_⟩,hp⟩:=h;have hm:g.obj∈((ba,row (Hs α bm) 108)::(bm,Bi Cv (α.gs.map Gr.ent) ck)::α.gs.map Gr.obj):=by simp only[AM,AN];exact .inr (.inr ⟨g,hg,rfl⟩)
 obtain⟨l1,l2,he⟩:=EF hm;refine⟨l1++l2,hp.trans ?_⟩;rw[he];exact B4.trans (CI (l₁:=[g.obj]))
theorem Dw.num {ba:Nat} {α:Ar} {c:Aa} (h:Dw ba α c):α.used≤α.room∧α.room≤1000000000∧α.peak≤α.room∧α.used=(α.gs.map (·.n)).sum:=by obtain⟨c0,⟨bm,ck,_,h1,h2,h3,_,h5⟩,_⟩:=h;exact⟨h1,h2,h3,h5⟩
def Ab (bw bd ba bs:Nat):Aa:=[(bw,row [pv bd,pv ba,pv bs] 105)]
structure Wc (bd ba bs:Nat) (W:Wk) (cd ca cs:Aa):Prop where
 dev:Dg bd W.δ cd
 ar:Dw ba W.α ca
 sp:Kf bs W.σ cs
 nn:W.δ.blocks=W.σ.n
 live:Ht W.σ W.live
theorem Dg.num {bd:Nat} {δ:Dv} {c:Aa} (h:Dg bd δ c):(8≤δ.size∧δ.size≤256)∧δ.blocks≤1000000∧(-1≤δ.fault∧δ.fault≤1000000000):=by obtain⟨bl,bn,pp,np,cp,xs,pc,es,ck,aa,_,_,_,_,_,h1,h2,h3⟩:=h;exact⟨h1,h2,h3⟩
structure Ev (W W':Wk) (k m:Nat):Prop where
 size:W'.δ.size=W.δ.size
 n:W'.σ.n=W.σ.n
 acts:W.δ.acts≤W'.δ.acts∧W'.δ.acts≤W.δ.acts+k
 fault:W.δ.fault= -1→W'.δ.fault= -1
 room:W'.α.room=W.α.room
 big:big W.σ.free≤big W'.σ.free+m
theorem Ev.refl (W:Wk):Ev W W 0 0:=⟨rfl,rfl,⟨AI _,AI _⟩,id,rfl,AI _⟩
theorem Ev.trans {W W1 W2:Wk} {k1 m1 k2 m2:Nat} (h:Ev W W1 k1 m1) (h2:Ev W1 W2 k2 m2):Ev W W2 (k1+k2) (m1+m2):=
 ⟨h2.size.trans h.size,h2.n.trans h.n,⟨A5 h.acts.1 h2.acts.1,by have:=h.acts.2;have:=h2.acts.2;omega⟩,fun e=>h2.fault (h.fault e),h2.room.trans h.room,by have:=h.big;have:=h2.big;omega⟩
theorem Ev.weak {W W':Wk} {k m k' m':Nat} (h:Ev W W' k m) (hk:k≤k') (hm:m≤m'):Ev W W' k' m':=
 {h with acts:=⟨h.acts.1,A5 h.acts.2 oM⟩,big:=A5 h.big oM}
theorem Qa {c c0:Aa} (h:c.Perm c0):(([c]:Hp).flatten).Perm (([c0]:Hp).flatten):=by simpa using h
theorem aRoom (ba:Nat) (α:Ar) (c:Aa) (h:Dw ba α c):CtQ AC 72 [pv ba] [c] (Z9 Z8 α.room):=by obtain⟨c0,h1,h2⟩:=h;exact CtQ.convP (eH ba α c0 h1) (Qa h2)
theorem Ri (ba:Nat) (α:Ar) (c:Aa) (h:Dw ba α c):CtQ AC 23 [pv ba] [c] (Z9 Z8 α.used):=by obtain⟨c0,h1,h2⟩:=h;exact CtQ.convP (eI ba α c0 h1) (Qa h2)
theorem aPeak (ba:Nat) (α:Ar) (c:Aa) (h:Dw ba α c):CtQ AC 71 [pv ba] [c] (Z9 Z8 α.peak):=by obtain⟨c0,h1,h2⟩:=h;exact CtQ.convP (qA ba α c0 h1) (Qa h2)
theorem Vc (ba:Nat) (α:Ar) (c:Aa) (h:Dw ba α c):CtQ AC 106 [pv ba] [c] (Z9 Z8 ((α.room:Int)-(α.used:Int))):=by obtain⟨c0,h1,h2⟩:=h;exact CtQ.convP (pW ba α c0 h1) (Qa h2)
theorem aFull (ba:Nat) (α:Ar) (c:Aa) (h:Dw ba α c) (n:Int) (hn:0≤n) (hr:(α.room:Int)-(α.used:Int)<n):CtQ AC 157 [pv ba,Z9 Z8 n] [c] (.tuple #[.pointer none,Z9 Z8 7]):=by obtain⟨c0,h1,h2⟩:=h;exact CtQ.convP (pX ba α c0 h1 n hn hr) (Qa h2)
theorem Yu (ba:Nat) (α:Ar) (c:Aa) (h:Dw ba α c) (n:Nat) (hn:n≤α.room-α.used):Ct AC 157 [pv ba,Z9 Z8 n] [c] fun v H'=> ∃(g:Gr) (c':Aa) (α':Ar),g.n=n∧v= .tuple #[pv g.bb,Z9 Z8 0]∧Dw ba α' c'∧α'.gs.Perm (g::α.gs)∧α'.room=α.room∧H'=[c',[(g.br,row (Ag (BT n 0)) 174)]]:=by
 obtain⟨c0,h1,h2⟩:=h;refine Ct.convP (pY ba α c0 h1 n hn) (Qa h2) ?_;rintro v H' ⟨g,c',e1,e2,e3,rfl⟩;refine⟨_,⟨g,c',_,e1,e2,e3.ar,?_,rfl,rfl⟩,?_⟩
 ·show(α.gs++[g]).Perm _;exact CI
 ·rw[dZ]
theorem Oi (ba:Nat) (α:Ar) (c:Aa) (h:Dw ba α c) (g:Gr) (G:List Gr) (hg:α.gs.Perm (g::G)):Cb AC 160 [pv ba,pv g.bb] [c] fun v H'=> ∃(c':Aa) (α':Ar),v= .bool true∧Dw ba α' c'∧α'.gs.Perm G∧α'.room=α.room∧H'=[c']:=by
 obtain⟨c0,h1,h2⟩:=h;obtain⟨l1,l2,he⟩:=EF (hg.mem_iff.2 AE);refine Cb.conv (pZ ba α c0 h1 l1 l2 g he) (Qa h2) ?_;rintro v H' ⟨c',rfl,e3,rfl⟩;refine⟨_,⟨c',_,rfl,e3.ar,?_,rfl,rfl⟩,.refl _⟩;show(l1++l2).Perm G;rw[he] at hg;exact((B4.symm.trans hg)).cons_inv
theorem Nl (ba:Nat) (α:Ar) (c:Aa) (h:Dw ba α c) (g:Gr) (G:List Gr) (hg:α.gs.Perm (g::G)):Ct AC 160 [pv ba,pv g.bb] [c] fun v H'=> ∃(c':Aa) (α':Ar),v= .bool true∧Dw ba α' c'∧α'.gs.Perm G∧α'.room=α.room∧H'=[c']:=(Oi ba α c h g G hg).1
theorem Tj (bw bd ba bs:Nat):CtQ AC 34 [pv bw] [Ab bw bd ba bs] (pv bd):=by
 unfold Ab;refine cG func34 fun _=>?_;repeat(refine sA ?_;intros)
 (refine dP [[(bw,row [pv bd,pv ba,pv bs] 105)]] ?_;exact⟨rfl,rfl⟩)
theorem Rj (bw bd ba bs:Nat):CtQ AC 22 [pv bw] [Ab bw bd ba bs] (pv ba):=by
 unfold Ab;refine cG func22 fun _=>?_;repeat(refine sA ?_;intros)
 (refine dP [[(bw,row [pv bd,pv ba,pv bs] 105)]] ?_;exact⟨rfl,rfl⟩)
theorem qF (bw bd ba bs:Nat):CtQ AC 69 [pv bw] [Ab bw bd ba bs] (pv bs):=by
 unfold Ab;refine cG func69 fun _=>?_;repeat(refine sA ?_;intros)
 (refine dP [[(bw,row [pv bd,pv ba,pv bs] 105)]] ?_;exact⟨rfl,rfl⟩)
theorem Qb (bw bd ba bs:Nat) (δ:Dv) (cd:Aa) (h:Dg bd δ cd) (k:Nat) (h1:1≤k) (h2:k≤5):CtQ AC 156 [pv bw,Z9 Z8 k] [Ab bw bd ba bs,cd] (Z9 Z8 ((Ad δ.size k:Nat):Int)):=by
 have hS:=Ml bd δ cd h;obtain⟨hs,_⟩:=h.num;have hq:((δ.size:Int)-2).tdiv (k:Int)=((Ad δ.size k:Nat):Int):=by rw[show(δ.size:Int)-2=((δ.size-2:Nat):Int) by omega,CR oM];simp[Ad]
 have aa:Ad δ.size k≤256:=A5 (CW _ _) oM;have hw:AL .i64 (((δ.size:Int)-2).tdiv (k:Int))=((Ad δ.size k:Nat):Int):=by rw[hq];exact Ah oM
 unfold Ab;refine cG func156 fun _=>?_;repeat(refine sA ?_;intros)
 (refine dP [[(bw,row [pv bd,pv ba,pv bs] 105)],cd] ?_;exact⟨rfl,rfl⟩)
theorem Bh {s k:Nat} (hs:8≤s) (h1:1≤k) (h2:k≤5):1≤Ad s k:=(CN oM).2 oM
theorem Yv {s k:Nat}:Ad s k*k≤s-2:=DW _ _
theorem Yw (bw bd ba bs:Nat) (δ:Dv) (cd:Aa) (h:Dg bd δ cd) (k c:Nat) (h1:1≤k) (h2:k≤5) (hc:c≤100000000):CtQ AC 158 [pv bw,Z9 Z8 k,Z9 Z8 c] [Ab bw bd ba bs,cd] (Z9 Z8 ((Ac δ.size k c:Nat):Int)):=by
 have hS:=Qb bw bd ba bs δ cd h k h1 h2;obtain⟨hs,_⟩:=h.num;have hp:=Bh hs.1 h1 h2;have ab:Ad δ.size k≤256:=A5 (CW _ _) oM;have hq:((c:Int)+((Ad δ.size k:Nat):Int)-1).tdiv ((Ad δ.size k:Nat):Int)=((Ac δ.size k c:Nat):Int):=by rw[show(c:Int)+((Ad δ.size k:Nat):Int)-1=((c+Ad δ.size k-1:Nat):Int) by omega,CR oM];simp[Ac]
 have aa:Ac δ.size k c≤1000000000:=A5 (CW _ _) oM;have hw:AL .i64 (((c:Int)+((Ad δ.size k:Nat):Int)-1).tdiv ((Ad δ.size k:Nat):Int))=((Ac δ.size k c:Nat):Int):=by rw[hq];exact Ah oM
 generalize Ad δ.size k=hk at*;refine cG func158 fun _=>?_;repeat(refine sA ?_;intros)
 (refine dP [Ab bw bd ba bs,cd] ?_;exact⟨rfl,rfl⟩)
def Cc (bw first blocks k count bound bb n at_:Nat) (closed:Bool):List Value:=
 [pv bw,Z9 Z8 first,Z9 Z8 blocks,Z9 Z8 k,Z9 Z8 count,Z9 Z8 bound,pv bb,Z9 Z8 n,Z9 Z8 at_,.bool closed]
def eM (bw bd ba bs:Nat) (W:Wk) (k bound:Nat) (v:Value) (H':Hp):Prop:=
 (Ac W.δ.size k bound≤big W.σ.free∧∃(bx first:Nat) (g:Gr) (cd ca cs:Aa) (W':Wk),v= .tuple #[pv bx,Z9 Z8 0]∧
  H'=[Ab bw bd ba bs,cd,ca,cs,[(bx,row (Cc bw first (Ac W.δ.size k bound) k 0 bound g.bb 0 0 false) 168)],[(g.br,row (Ag (BT W.δ.size 0)) 174)]]∧
  Wc bd ba bs W' cd ca cs∧Ev W W' 0 (Ac W.δ.size k bound)∧W'.δ=W.δ∧g.n=W.δ.size∧W'.α.gs.Perm (g::W.α.gs)∧
  (if Ac W.δ.size k bound=0 then W'.live=W.live∧W'.σ=W.σ else W'.live=(first,Ac W.δ.size k bound)::W.live))∨
 (big W.σ.free<Ac W.δ.size k bound∧v= .tuple #[.pointer none,Z9 Z8 5]∧∃(cd ca cs:Aa) (W':Wk),H'=[Ab bw bd ba bs,cd,ca,cs]∧Wc bd ba bs W' cd ca cs∧Ev W W' 0 0∧W'.δ=W.δ∧W'.σ=W.σ∧W'.live=W.live∧W'.α.gs.Perm W.α.gs)
theorem qG {σ σ':Sp} {live:List Ext} {f m:Nat} (h:Ht σ live) (hm:1≤m) (hn:σ'.n=σ.n) (h1:∀x,f≤x→x<f+m→inF σ.free x) (h2:f+m≤σ.n) (h3:∀x,inF σ'.free x↔inF σ.free x∧¬(f≤x∧x<f+m)) (h4:Bc σ'.free+m=Bc σ.free):Ht σ' ((f,m)::live):=by
 refine⟨?_,?_,?_,?_⟩
 ·intro e he;rw[hn];rcases AM.1 he with rfl|he
  ·exact⟨hm,h2⟩
  ·exact h.fit e he
 ·refine BF.2 ⟨fun e he=>?_,h.apart⟩;dsimp only;by_cases hh:f+m≤e.1∨e.1+e.2≤f
  ·exact hh
  ·exfalso;have hf:=h.fit e he;have hx:inF σ.free (max f e.1):=h1 _ oM oM;exact(h.free _ oM).1 hx ⟨e,he,oM,oM⟩
 ·intro x hx;rw[hn] at hx;rw[h3,h.free x hx,Ke];dsimp only;constructor
  ·rintro⟨a,b⟩ (c|c)
   ·exact b c
   ·exact a c
  ·intro a;exact⟨fun c=>a (.inr c),fun c=>a (.inl c)⟩
 ·rw[hn,Uw];have:=h.sum;dsimp only;omega
theorem Tk {σ σ':Sp} {live:List Ext} {f m:Nat} (h:Ht σ ((f,m)::live)) (hn:σ'.n=σ.n) (h3:∀x,inF σ'.free x↔inF σ.free x∨(f≤x∧x<f+m)) (h4:Bc σ'.free=Bc σ.free+m):Ht σ' live:=by
 refine⟨fun e he=>?_,(BF.1 h.apart).2,fun x hx=>?_,?_⟩
 ·rw[hn];exact h.fit e (AF _ he)
 ·rw[hn] at hx;rw[h3,h.free x hx,Ke];dsimp only;constructor
  ·rintro(a|a) hb
   ·exact a (.inr hb)
   ·exact h.other (e:=(f,m)) a.1 a.2 hb
  ·intro a;by_cases hf:f≤x∧x<f+m
   ·exact .inr hf
   ·left;rintro(c|c)
    ·exact hf c
    ·exact a c
 ·have:=h.sum;rw[Uw] at this;rw[hn];dsimp only at this;omega
theorem Qc {σ:Sp} {live:List Ext} {f m:Nat} (h:Ht σ ((f,m)::live)):(1≤m∧f+m≤σ.n)∧∀x,f≤x→x<f+m→¬inF σ.free x:=by refine⟨h.fit _ AE,fun x h1 h2 h3=>?_⟩;have:=h.fit _ AE;dsimp only at this;exact(h.free x oM).1 h3 (by rw[Ke];exact .inl ⟨h1,h2⟩)
theorem qH (bw bd ba bs:Nat) (W:Wk) (cd ca cs:Aa) (h:Wc bd ba bs W cd ca cs) (k bound:Nat) (h1:1≤k) (h2:k≤5) (hb:bound≤100000000) (hr:W.δ.size≤W.α.room-W.α.used):Ct AC 89 [pv bw,Z9 Z8 k,Z9 Z8 bound] [Ab bw bd ba bs,cd,ca,cs] (eM bw bd ba bs W k bound):=by
 have hH:=Qb bw bd ba bs W.δ cd h.dev k h1 h2;have hB:=Yw bw bd ba bs W.δ cd h.dev k bound h1 h2 hb;obtain⟨hs,_⟩:=h.dev.num;have hp:=Bh hs.1 h1 h2;have hS:=Ml bd W.δ cd h.dev;have hn:=h.ar.num;have hG:=Yu ba W.α ca h.ar W.δ.size oM;unfold eM;have ao:Ad W.δ.size k≤256:=A5 (CW _ _) oM;have ai:Ac W.δ.size k bound≤1000000000:=A5 (CW _ _) oM;generalize an:Ac W.δ.size k bound=nb at*;generalize Ad W.δ.size k=hk at*;unfold Ab at hH hB⊢;refine cG func89 fun _=>?_;repeat(first|(refine st ?_;intros)|refine G.draw (id:=3) [(8,.quiet)] (h:=?_)|refine G.draw [] (h:=?_)|refine cq hH ?_|refine cq hS ?_|refine cq hB ?_)
 refine cL hG ?_;rintro _ _ ⟨g,aa,α',ag,rfl,ac,ad,ae,rfl⟩;try dsimp only[AA,AB]
 repeat(first|(refine st ?_;intros)|refine G.draw (id:=3) [(8,.quiet)] (h:=?_)|refine G.draw [] (h:=?_)|refine cq hH ?_|refine cq hS ?_|refine cq hB ?_)
 by_cases h0:nb=0
 ·subst h0;repeat(first|(refine st ?_;intros)|refine G.draw (id:=3) [(8,.quiet)] (h:=?_)|refine G.draw [] (h:=?_)|refine cq hH ?_|refine cq hS ?_|refine cq hB ?_)
  rename_i bx;(refine dP [[(bw,row [pv bd,pv ba,pv bs] 105)],cd,aa,cs,[(bx,row (Cc bw 0 0 k 0 bound g.bb 0 0 false) 168)],[(g.br,row (Ag (BT W.δ.size 0)) 174)]] ?_;left);refine⟨AU _,bx,0,g,cd,aa,cs,{W with α:=α'},rfl,rfl,⟨h.dev,ac,h.sp,h.nn,h.live⟩,⟨rfl,rfl,⟨AI _,AI _⟩,id,ae,AI _⟩,rfl,ag,ad,?_⟩;simp
 ·by_cases ab:nb≤big W.σ.free
  ·have hT:=oV bs W.σ cs h.sp nb oM ab;repeat(first|(refine st ?_;intros)|refine G.draw (id:=3) [(8,.quiet)] (h:=?_)|refine G.draw [] (h:=?_)|refine cq hH ?_|refine cq hS ?_|refine cq hB ?_)
   refine cL hT ?_;rintro _ _ ⟨f,cs',σ',rfl,aj,e1,e2,e3,e4,e5,e6,rfl⟩;try dsimp only[AA,AB]
   repeat(first|(refine st ?_;intros)|refine G.draw (id:=3) [(8,.quiet)] (h:=?_)|refine G.draw [] (h:=?_)|refine cq hH ?_|refine cq hS ?_|refine cq hB ?_)
   rename_i bx;(refine dP [[(bw,row [pv bd,pv ba,pv bs] 105)],cd,aa,cs',[(bx,row (Cc bw f nb k 0 bound g.bb 0 0 false) 168)],[(g.br,row (Ag (BT W.δ.size 0)) 174)]] ?_;left);refine⟨ab,bx,f,g,cd,aa,cs',{W with α:=α',σ:=σ',live:=(f,nb)::W.live},rfl,rfl,⟨h.dev,ac,aj,h.nn.trans e1.symm,qG h.live oM e1 e2 e3 e4 e5⟩,⟨rfl,e1,⟨AI _,AI _⟩,id,ae,e6⟩,rfl,ag,ad,?_⟩;rw[if_neg h0]
  ·have hT:=oW bs W.σ cs h.sp nb oM oM ai;have hR:=Nl ba α' aa ac g W.α.gs ad;repeat(first|(refine st ?_;intros)|refine G.draw (id:=3) [(8,.quiet)] (h:=?_)|refine G.draw [] (h:=?_)|refine cq hH ?_|refine cq hS ?_|refine cq hB ?_)
   refine cL hT ?_;rintro _ _ ⟨rfl,rfl⟩;try dsimp only[AA,AB]
   repeat(first|(refine st ?_;intros)|refine G.draw (id:=3) [(8,.quiet)] (h:=?_)|refine G.draw [] (h:=?_)|refine cq hH ?_|refine cq hS ?_|refine cq hB ?_)
   refine cL hR ?_;rintro _ _ ⟨ah,α2,rfl,ak,al,am,rfl⟩;try dsimp only[AA,AB]
   repeat(first|(refine st ?_;intros)|refine G.draw (id:=3) [(8,.quiet)] (h:=?_)|refine G.draw [] (h:=?_)|refine cq hH ?_|refine cq hS ?_|refine cq hB ?_)
   (refine dP [[(bw,row [pv bd,pv ba,pv bs] 105)],cd,ah,cs] ?_;right);exact⟨oM,rfl,cd,ah,cs,{W with α:=α2},rfl,⟨h.dev,ak,h.sp,h.nn,h.live⟩,⟨rfl,rfl,⟨AI _,AI _⟩,id,am.trans ae,AI _⟩,rfl,rfl,rfl,al⟩
def Bm (first nb:Nat) (Lv live:List Ext):Prop:=if nb=0 then live.Perm Lv else live.Perm ((first,nb)::Lv)
def Qd (bw bd ba bs bx:Nat) (W:Wk) (Gs:List Gr) (Lv:List Ext) (first nb k bound bb:Nat) (cb:Aa) (kk:Nat) (δ':Dv) (H':Hp):Prop:=
 ∃(cd ca cs:Aa) (W':Wk) (cnt n a:Nat),H'=[Ab bw bd ba bs,cd,ca,cs,[(bx,row (Cc bw first nb k cnt bound bb n a true) 168)],cb]∧
  Wc bd ba bs W' cd ca cs∧Ev W W' kk 0∧W'.δ=δ'∧W'.α.gs.Perm Gs∧W'.live.Perm Lv
theorem qI (bw first nb k cnt bound bb n a bx:Nat):Cb AC 90 [pv bx] [[(bx,row (Cc bw first nb k cnt bound bb n a true) 168)]] (fun v' H'=>v'= .tuple #[]∧H'=[[(bx,row (Cc bw first nb k cnt bound bb n a true) 168)]]):=by
 unfold Cc;refine Cb.intro func90 rfl ntmps90 (nle rfl) fun _=>?_;dsimp only[Cy,AD];repeat(refine sA ?_;intros)
 (refine dP [[(bx,row [pv bw,Z9 Z8 first,Z9 Z8 nb,Z9 Z8 k,Z9 Z8 cnt,Z9 Z8 bound,pv bb,Z9 Z8 n,Z9 Z8 a,.bool true] 168)]] ?_;exact⟨rfl,rfl⟩)
theorem eN (bw bd ba bs:Nat) (W:Wk) (cd ca cs:Aa) (h:Wc bd ba bs W cd ca cs) (bx first nb k cnt bound n a:Nat) (g:Gr) (Gs:List Gr) (hg:W.α.gs.Perm (g::Gs)) (Lv:List Ext) (hl:Bm first nb Lv W.live) (cb:Aa):Cb AC 90 [pv bx] [Ab bw bd ba bs,cd,ca,cs,[(bx,row (Cc bw first nb k cnt bound g.bb n a false) 168)],cb] fun v H'=> v= .tuple #[]∧Qd bw bd ba bs bx W Gs Lv first nb k bound g.bb cb 0 W.δ H':=by
 have hR:=Nl ba W.α ca h.ar g Gs hg;unfold Ab Cc;by_cases h0:nb=0
 ·subst h0;refine Cb.intro func90 rfl ntmps90 (nle rfl) fun _=>?_;dsimp only[Cy,AD];repeat(refine sA ?_;intros)
  refine cL hR ?_;rintro _ _ ⟨aa,α',rfl,ab,ac,ad,rfl⟩;repeat(refine sA ?_;intros)
  (refine dE [[(bw,row [pv bd,pv ba,pv bs] 105)],cd,aa,cs,[(bx,row [pv bw,Z9 Z8 first,Z9 Z8 ((0:Nat):Int),Z9 Z8 k,Z9 Z8 cnt,Z9 Z8 bound,pv g.bb,Z9 Z8 n,Z9 Z8 a,.bool true] 168)],cb] ?_;refine⟨rfl,?_⟩);refine⟨cd,aa,cs,{W with α:=α'},cnt,n,a,rfl,⟨h.dev,ab,h.sp,h.nn,h.live⟩,⟨rfl,rfl,⟨AI _,AI _⟩,id,ad,AI _⟩,rfl,ac,?_⟩;simpa[Bm] using hl
 ·unfold Bm at hl;rw[if_neg h0] at hl;have ae:=h.live.perm hl;obtain⟨⟨f1,f2⟩,f3⟩:=Qc ae;have ag:=Tg bs W.σ cs h.sp first nb f1 f2 f3
  refine Cb.intro func90 rfl ntmps90 (nle rfl) fun _=>?_;dsimp only[Cy,AD];repeat(refine sA ?_;intros)
  refine cL hR ?_;rintro _ _ ⟨aa,α',rfl,ab,ac,ad,rfl⟩;repeat(refine sA ?_;intros)
  refine cL ag ?_;rintro _ _ ⟨cs',σ',rfl,ah,e1,e3,e4,e5,rfl⟩;repeat(refine sA ?_;intros)
  (refine dE [[(bw,row [pv bd,pv ba,pv bs] 105)],cd,aa,cs',[(bx,row [pv bw,Z9 Z8 first,Z9 Z8 nb,Z9 Z8 k,Z9 Z8 cnt,Z9 Z8 bound,pv g.bb,Z9 Z8 n,Z9 Z8 a,.bool true] 168)],cb] ?_;refine⟨rfl,?_⟩);exact⟨cd,aa,cs',{W with α:=α',σ:=σ',live:=Lv},cnt,n,a,rfl,⟨h.dev,ab,ah,h.nn.trans e1.symm,Tk ae e1 e3 e4⟩,⟨rfl,e1,⟨AI _,AI _⟩,id,ad,by show _≤big σ'.free+0;omega⟩,rfl,ac,.refl _⟩
theorem qJ (bw bd ba bs:Nat) (W:Wk) (cd ca cs:Aa) (h:Wc bd ba bs W cd ca cs) (bx first nb k cnt bound n a:Nat) (g:Gr) (Gs:List Gr) (hg:W.α.gs.Perm (g::Gs)) (Lv:List Ext) (hl:Bm first nb Lv W.live) (cb:Aa):Ct AC 90 [pv bx] [Ab bw bd ba bs,cd,ca,cs,[(bx,row (Cc bw first nb k cnt bound g.bb n a false) 168)],cb] fun v H'=> v= .tuple #[]∧Qd bw bd ba bs bx W Gs Lv first nb k bound g.bb cb 0 W.δ H':=(eN bw bd ba bs W cd ca cs h bx first nb k cnt bound n a g Gs hg Lv hl cb).1
def eO (bw bd ba bs bx:Nat) (W:Wk) (ca cs:Aa) (first nb k cnt bound:Nat) (g:Gr) (a:Nat) (pw:List Int) (cb:Aa) (H':Hp):Prop:=
 ∃cd aa,H'=[Ab bw bd ba bs,cd,aa,cs,[(bx,row (Cc bw first nb k cnt bound g.bb 0 (a+1) false) 168)],cb]∧aa.Perm ca∧
  Dg bd (W.δ.wrote (first+a) (Cm W.δ.size ((first+a:Nat):Int) (k:Int) pw)) cd
theorem eP (bw bd ba bs:Nat) (W:Wk) (cd ca cs:Aa) (h:Wc bd ba bs W cd ca cs) (bx first nb k cnt bound n a:Nat) (g:Gr) (hg:g∈W.α.gs) (ag:g.n=W.δ.size) (buf pw:List Int) (am:buf.length=W.δ.size) (ai:buf.take n=pw) (ae:pw.length=n) (hn:n≤W.δ.size-2) (ha:first+a<W.δ.blocks) (hk:k≤5) (hf:W.δ.fault≠0) (ah:W.δ.acts≤1000000000000):Ct AC 163 [pv bx] [Ab bw bd ba bs,cd,ca,cs,[(bx,row (Cc bw first nb k cnt bound g.bb n a false) 168)],[(g.br,row (Ag buf) 174)]] fun v H'=> v=Z9 Z8 0∧eO bw bd ba bs bx W ca cs first nb k cnt bound g a pw [(g.br,row (Ag buf) 174)] H':=by
 obtain⟨⟨aj,ak⟩,an,ao⟩:=h.dev.num;have hS:=Ml bd W.δ cd h.dev;obtain⟨c1,ac⟩:=h.ar.open_ hg;have al:AL .i64 ((first:Int)+(a:Int))=((first+a:Nat):Int):=by rw[←DE];exact Ah oM
 have hP:=fun cap=>eA W.δ.size ((first+a:Nat):Int) (k:Int) g.br 0 n cap (Ag buf) 174 (0,0) pw ⟨aj,ak⟩ oM hn (by rw[CX];rw[←ai];simp[Ag]) ae;have ad:(Cm W.δ.size ((first+a:Nat):Int) (k:Int) pw).length=W.δ.size:=Yp _ _ _ _ oM;have hW:=fun bl=>pS bd W.δ cd h.dev (first+a) ha hf ah bl 0 W.δ.size (Ag (Cm W.δ.size ((first+a:Nat):Int) (k:Int) pw)) 174 (0,0) (Cm W.δ.size ((first+a:Nat):Int) (k:Int) pw) (by rw[CX,A6 (by rw[Ni,ad];exact AI _)]) ad;refine Ct.convP (H2:=[Ab bw bd ba bs,cd,c1,[g.obj],cs,[(bx,row (Cc bw first nb k cnt bound g.bb n a false) 168)],[(g.br,row (Ag buf) 174)]])
  (R2:=fun v H'=>v=Z9 Z8 0∧∃aa,H'=[Ab bw bd ba bs,aa,c1,[g.obj],cs,[(bx,row (Cc bw first nb k cnt bound g.bb 0 (a+1) false) 168)],[(g.br,row (Ag buf) 174)]]∧Dg bd (W.δ.wrote (first+a) (Cm W.δ.size ((first+a:Nat):Int) (k:Int) pw)) aa) ?_ ?_ ?_
 ·generalize Cm W.δ.size ((first+a:Nat):Int) (k:Int) pw=sw at*;unfold Ab Cc Gr.obj;rw[ag];refine cG func163 fun _=>?_;repeat(first|(refine st ?_;intros)|refine G.draw (id:=1) [(7,.quiet)] (h:=?_)|refine G.draw [] (h:=?_)|refine cq hS ?_)
  refine cL (hP W.δ.size) ?_;rintro _ _ ⟨bl,rfl,rfl⟩;try dsimp only[AA,AB]
  repeat(first|(refine st ?_;intros)|refine G.draw (id:=1) [(7,.quiet)] (h:=?_)|refine G.draw [] (h:=?_)|refine cq hS ?_)
  refine cL (hW bl) ?_;rintro _ _ ⟨aa,rfl,ab,rfl⟩;try dsimp only[AA,AB]
  repeat(first|(refine st ?_;intros)|refine G.draw (id:=1) [(7,.quiet)] (h:=?_)|refine G.draw [] (h:=?_)|refine cq hS ?_)
  (refine dP [[(bw,row [pv bd,pv ba,pv bs] 105)],aa,c1,[(g.bb,row [.slice (some ⟨g.br,0,none⟩) W.δ.size W.δ.size] 177)],cs,[(bx,row [pv bw,Z9 Z8 first,Z9 Z8 nb,Z9 Z8 k,Z9 Z8 cnt,Z9 Z8 bound,pv g.bb,Z9 Z8 0,Z9 Z8 ((a:Int)+1),.bool false] 168)],[(g.br,row (Ag buf) 174)]] ?_;
   exact⟨rfl,aa,rfl,ab⟩)
 ·simp only[AX,A4,AQ,AT];refine BI _ (BI _ ?_);rw[←AT c1];exact DF _ ac
 ·rintro v H' ⟨rfl,aa,rfl,ab⟩;refine⟨_,⟨rfl,aa,c1++[g.obj],rfl,ac.symm,ab⟩,?_⟩;simp
theorem eQ (bw bd ba bs:Nat) (W:Wk) (cd ca cs:Aa) (h:Wc bd ba bs W cd ca cs) (bx first nb k cnt bound n a:Nat) (g:Gr) (Gs:List Gr) (hg:W.α.gs.Perm (g::Gs)) (Lv:List Ext) (hl:Bm first nb Lv W.live) (ak:g.n=W.δ.size) (buf pw:List Int) (au:buf.length=W.δ.size) (al:buf.take n=pw) (aj:pw.length=n) (hn:n≤W.δ.size-2) (ha:first+a<W.δ.blocks) (hk:k≤5) (hf:W.δ.fault=0):Ct AC 163 [pv bx] [Ab bw bd ba bs,cd,ca,cs,[(bx,row (Cc bw first nb k cnt bound g.bb n a false) 168)],[(g.br,row (Ag buf) 174)]] fun v H'=> v=Z9 Z8 6∧Qd bw bd ba bs bx W Gs Lv first nb k bound g.bb [(g.br,row (Ag buf) 174)] 0 W.δ.failed H':=by
 obtain⟨⟨am,an⟩,av,aw⟩:=h.dev.num;have hS:=Ml bd W.δ cd h.dev;obtain⟨c1,ad⟩:=h.ar.open_ (hg.mem_iff.2 AE);have aq:AL .i64 ((first:Int)+(a:Int))=((first+a:Nat):Int):=by rw[←DE];exact Ah oM
 have hP:=fun cap=>eA W.δ.size ((first+a:Nat):Int) (k:Int) g.br 0 n cap (Ag buf) 174 (0,0) pw ⟨am,an⟩ oM hn (by rw[CX];rw[←al];simp[Ag]) aj;have hW:=fun bl=>pT bd W.δ cd h.dev (first+a) ha hf bl 0 W.δ.size (Ag (Cm W.δ.size ((first+a:Nat):Int) (k:Int) pw)) 174 (0,0);have hD:=fun ab (hd:Dg bd W.δ.failed ab)=>qJ bw bd ba bs {W with δ:=W.δ.failed} ab (c1++[g.obj]) cs ⟨hd,h.ar.perm ad.symm,h.sp,h.nn,h.live⟩ bx first nb k cnt bound n a g Gs hg Lv hl [(g.br,row (Ag buf) 174)]
 refine Ct.convP (H2:=[Ab bw bd ba bs,cd,c1,[g.obj],cs,[(bx,row (Cc bw first nb k cnt bound g.bb n a false) 168)],[(g.br,row (Ag buf) 174)]])
  (R2:=fun v H'=>v=Z9 Z8 6∧Qd bw bd ba bs bx W Gs Lv first nb k bound g.bb [(g.br,row (Ag buf) 174)] 0 W.δ.failed H') ?_ ?_ ?_
 ·generalize Cm W.δ.size ((first+a:Nat):Int) (k:Int) pw=sw at*;have ae:([g.obj]:Aa)=[(g.bb,row [.slice (some ⟨g.br,0,none⟩) W.δ.size W.δ.size] 177)]:=by unfold Gr.obj;rw[ak]
  rw[ae] at hD⊢;unfold Ab Cc at hD⊢;refine cG func163 fun _=>?_;repeat(first|(refine st ?_;intros)|refine G.draw (id:=1) [(7,.quiet)] (h:=?_)|refine G.draw [] (h:=?_)|refine cq hS ?_)
  refine cL (hP W.δ.size) ?_;rintro _ _ ⟨bl,rfl,rfl⟩;try dsimp only[AA,AB]
  repeat(first|(refine st ?_;intros)|refine G.draw (id:=1) [(7,.quiet)] (h:=?_)|refine G.draw [] (h:=?_)|refine cq hS ?_)
  refine cL (hW bl) ?_;rintro _ _ ⟨ab,rfl,ao,rfl⟩;try dsimp only[AA,AB]
  repeat(first|(refine st ?_;intros)|refine G.draw (id:=1) [(7,.quiet)] (h:=?_)|refine G.draw [] (h:=?_)|refine cq hS ?_)
  apply R1.join (c1:=c1) (c2:=[(g.bb,row [.slice (some ⟨g.br,0,none⟩) W.δ.size W.δ.size] 177)])
  ·(repeat(first|exact Ae.here|apply Ae.there))
  ·(repeat(first|exact Ae.here|apply Ae.there))
  refine cL (hD ab ao) ?_;rintro _ _ ⟨rfl,ag,ah,ai,W',ac,n',a',rfl,aa⟩;try dsimp only[AA,AB]
  unfold Ab Cc;repeat(first|(refine st ?_;intros)|refine G.draw (id:=1) [(7,.quiet)] (h:=?_)|refine G.draw [] (h:=?_)|refine cq hS ?_)
  (refine dP [[(bw,row [pv bd,pv ba,pv bs] 105)],ag,ah,ai,[(bx,row [pv bw,Z9 Z8 first,Z9 Z8 nb,Z9 Z8 k,Z9 Z8 ac,Z9 Z8 bound,pv g.bb,Z9 Z8 n',Z9 Z8 a',.bool true] 168)],[(g.br,row (Ag buf) 174)]] ?_;refine⟨rfl,ag,ah,ai,W',ac,n',a',rfl,aa.1,?_,aa.2.2⟩);have he:=aa.2.1;exact⟨he.size,he.n,he.acts,fun e=>by omega,he.room,he.big⟩
 ·simp only[AX,A4,AQ,AT];refine BI _ (BI _ ?_);rw[←AT c1];exact DF _ ad
 ·rintro v H' ⟨rfl,h2⟩;exact⟨_,⟨rfl,h2⟩,.refl _⟩
structure Il (d:Nat→Option (List Int)) (size k nb bound first:Nat) (ps:List T5) (buf:List Int):Prop where
 w1:1≤k
 w2:k≤5
 hb:bound≤100000000
 nbe:nb=Ac size k bound
 cnt:ps.length≤bound
 blen:buf.length=size
 bufw:buf.take ((ps.length%Ad size k)*k)=Bl k (ps.drop ((ps.length/Ad size k)*Ad size k))
 onto:Pz d size k (Ad size k) first ps (ps.length/Ad size k)
 fit:∀t∈ps,okT k t
theorem Vd {h p:Nat} (hh:1≤h):(p%h+1=h→(p+1)/h=p/h+1∧(p+1)%h=0)∧(p%h+1≠h→(p+1)/h=p/h∧(p+1)%h=p%h+1):=by
 have h1:=Nat.div_add_mod p h;have h2:=Nat.mod_lt p (show 0<h by omega);constructor
 ·intro e;have e2:p+1=h*(p/h+1):=by rw[Nat.mul_succ];omega
  constructor
  ·rw[e2,Nat.mul_div_cancel_left _ oM]
  ·rw[e2,Nat.mul_mod_right]
 ·intro e;have e2:p+1=p%h+1+h*(p/h):=oM;constructor
  ·rw[e2,Nat.add_mul_div_left _ _ oM,Nat.div_eq_of_lt oM,BU]
  ·rw[e2,Nat.add_mul_mod_self_left,Nat.mod_eq_of_lt oM]
def Fh (buf:List Int) (n:Nat) (ws:List Int):List Int:=buf.take n++(ws++buf.drop (n+ws.length))
theorem Tl {buf ws:List Int} {n:Nat} (h:n+ws.length≤buf.length):(Fh buf n ws).length=buf.length:=by simp[Fh];omega
theorem eR (buf:List Int) (n:Nat):Fh buf n []=buf:=by simp[Fh]
theorem eS {buf ws:List Int} {n i:Nat} {w:Int} (hw:ws[i]? =some w) (h:n+ws.length≤buf.length):(Fh buf n (ws.take i)).set (n+i) w=Fh buf n (ws.take (i+1)):=by
 have hi:i<ws.length:=(AK.1 hw).1;have aa:ws[i]=w:=(AK.1 hw).2;have e1:(ws.take i).length=i:=by simp;omega
 have e2:(ws.take (i+1)).length=i+1:=by simp;omega
 unfold Fh;rw[e1,e2];have e3:(buf.take n).length=n:=by simp;omega
 rw[EA _ _ oM,e3,show n+i-n=i by omega,EA _ _ oM,e1,Nat.sub_self];have e4:buf.drop (n+i)=buf[n+i]' oM::buf.drop (n+i+1):=List.drop_eq_getElem_cons oM;rw[e4,List.set_cons_zero,BP,hw,Nat.add_assoc];simp
theorem Yx {buf ws:List Int} {n:Nat} (h:n+ws.length≤buf.length):(Fh buf n ws).take (n+ws.length)=buf.take n++ws:=by unfold Fh;rw[←AT,CP oA16,A6 oA16]
theorem eT {d:Nat→Option (List Int)} {size k h first:Nat} {ps:List T5} {t:T5} {nb:Nat} (ho:Pz d size k h first ps nb) (hn:nb*h≤ps.length):Pz d size k h first (ps++[t]) nb:=by intro j hj;rw[ho j hj];have:(j+1)*h≤nb*h:=BB _ hj;rw[BH] at this;rw[DB oM,CP (by rw[CL];omega)]
theorem Il.room {d:Nat→Option (List Int)} {size k nb bound first:Nat} {ps:List T5} {buf:List Int} (h:Il d size k nb bound first ps buf) (hs:8≤size):(ps.length%Ad size k)*k+k≤size-2:=by have hp:=Bh hs h.w1 h.w2;have h1:=Nat.mod_lt ps.length (show 0<Ad size k by omega);have h2:=Yv (s:=size) (k:=k);have h3:(ps.length%Ad size k+1)*k≤Ad size k*k:=BB _ h1;rw[BH] at h3;omega
theorem Il.at_lt {d:Nat→Option (List Int)} {size k nb bound first:Nat} {ps:List T5} {buf:List Int} (h:Il d size k nb bound first ps buf) (hs:8≤size) (hl:ps.length<bound):ps.length/Ad size k<nb:=by
 have hp:=Bh hs h.w1 h.w2;rw[h.nbe];have e:=Nat.div_add_mod ps.length (Ad size k);have h1:Ad size k*(ps.length/Ad size k)≤bound-1:=oM;have:ps.length/Ad size k+1≤(bound+Ad size k-1)/Ad size k:=by rw[CN oM,BH,EM];omega
 exact this
theorem Il.put {d:Nat→Option (List Int)} {size k nb bound first:Nat} {ps:List T5} {buf:List Int} (h:Il d size k nb bound first ps buf) (hs:8≤size) (hl:ps.length<bound) {t:T5} (ht:okT k t) (ac:ps.length%Ad size k+1≠Ad size k):Il d size k nb bound first (ps++[t]) (Fh buf ((ps.length%Ad size k)*k) (tw k t)):=by
 have hp:=Bh hs h.w1 h.w2;have hr:=h.room hs;obtain⟨e1,e2⟩:=(Vd (p:=ps.length) hp).2 ac;have ab:=Kh t h.w2;have aa:(ps.length%Ad size k)*k+(tw k t).length≤buf.length:=by rw[h.blen,ab];omega
 have em:=DW ps.length (Ad size k);refine⟨h.w1,h.w2,h.hb,h.nbe,by simp;omega,by rw[Tl aa,h.blen],?_,?_,?_⟩
 ·simp only[AH,AJ,AO,BU,e1,e2];have:=Yx aa;rw[ab,←BH] at this;rw[this,h.bufw,DB em,Yt];simp[Bl]
 ·simp only[AH,AJ,AO,BU,e1];exact eT h.onto em
 ·intro x hx;rcases AS.1 hx with hx|hx
  ·exact h.fit x hx
  ·simp only[AW] at hx;subst hx;exact ht
theorem Il.flushed {d:Nat→Option (List Int)} {size k nb bound first:Nat} {ps:List T5} {buf:List Int} (h:Il d size k nb bound first ps buf) (hs:8≤size) (hl:ps.length<bound) {t:T5} (ht:okT k t) (he:ps.length%Ad size k+1=Ad size k):Il (Gz d (first+ps.length/Ad size k) (Cm size ((first+ps.length/Ad size k:Nat):Int) (k:Int) ((Fh buf ((ps.length%Ad size k)*k) (tw k t)).take ((ps.length%Ad size k)*k+k)))) size k nb bound first (ps++[t]) (Fh buf ((ps.length%Ad size k)*k) (tw k t)):=by
 have hp:=Bh hs h.w1 h.w2;have hr:=h.room hs;obtain⟨e1,e2⟩:=(Vd (p:=ps.length) hp).1 he;have ab:=Kh t h.w2;have aa:(ps.length%Ad size k)*k+(tw k t).length≤buf.length:=by rw[h.blen,ab];omega
 have em:=DW ps.length (Ad size k);have edm:=Nat.div_add_mod ps.length (Ad size k);refine⟨h.w1,h.w2,h.hb,h.nbe,by simp;omega,by rw[Tl aa,h.blen],?_,?_,?_⟩
 ·simp only[AH,AJ,AO,BU,e1,e2,Nat.zero_mul,List.take_zero];rw[List.drop_of_length_le]
  ·rfl
  ·simp only[AH,AJ,AO,BH];rw[EM] at edm;omega
 ·simp only[AH,AJ,AO,BU,e1];intro j hj;by_cases ac:j=ps.length/Ad size k
  ·subst ac;have:=Yx aa;rw[ab] at this;simp only[Gz,if_true];rw[this,h.bufw,DB em,A6,Yt]
   ·simp[Bl]
   ·simp only[AH,AJ,AO,CL];rw[EM] at edm;omega
  ·have:¬(first+j=first+ps.length/Ad size k):=by omega
   simp only[Gz,this,if_false];exact eT h.onto em j oM
 ·intro x hx;rcases AS.1 hx with hx|hx
  ·exact h.fit x hx
  ·simp only[AW] at hx;subst hx;exact ht
end Go.Proofs.YtaofijjjheiknaaGreat
namespace Go.Tup
theorem eU (x y:Int):Ec y x= -Ec x y:=by
 unfold Ec;by_cases h1:x<y
 ·rw[if_pos h1,if_neg oM,if_pos h1];rfl
 ·by_cases h2:y<x
  ·simp only[if_pos h2,if_neg h1]
  ·simp only[if_neg h2,if_neg h1,Int.neg_zero]
theorem eV:∀(l:List Int) (a b:T5),Kg l a b= -Kg l b a
 |[],_,_=>rfl
 |k::l,a,b=>by
  have ih:=eV l a b;simp only[Kg];by_cases h0:k=0
  ·simp[h0]
  ·simp only[h0,if_false];by_cases hn:k<0
   ·simp only[hn,if_true];rw[eU (a.col (k.natAbs-1))];split<;>split<;>omega
   ·simp only[hn,if_false];rw[eU (b.col (k.natAbs-1))];split<;>split<;>omega
theorem Mm (o a b:T5):Cz o a b= -Cz o b a:=by
 unfold Cz;split
 ·exact eV _ a b
 ·rfl
theorem Rk {x y:Int}:Ec x y=0↔x=y:=by
 unfold Ec;split
 ·omega
 ·split<;>omega
theorem Rn {x y:Int}:0<Ec x y↔y<x:=by
 unfold Ec;split
 ·omega
 ·split<;>omega
theorem eW:∀(l:List Int) (a b c:T5),Kg l a b≤0→Kg l b c≤0→Kg l a c≤0
 |[],_,_,_,_,_=>by simp[Kg]
 |k::l,a,b,c,h1,h2=>by
  simp only[Kg] at h1 h2⊢;by_cases h0:k=0
  ·simp[h0]
  ·simp only[h0,if_false] at h1 h2⊢;have ih:=eW l a b c;by_cases hn:k<0
   ·simp only[hn,if_true] at h1 h2⊢;generalize a.col (k.natAbs-1)=x at*;generalize b.col (k.natAbs-1)=y at*;generalize c.col (k.natAbs-1)=z at*;have e1:= @Rk y x;have e2:= @Rk z y;have e3:= @Rk z x;have p1:= @Rn y x;have p2:= @Rn z y;have p3:= @Rn z x;by_cases q1:Ec y x=0<;>by_cases q2:Ec z y=0<;>by_cases q3:Ec z x=0<;>simp only[q1,q2,q3,ne_eq,not_true_eq_false,not_false_eq_true,if_true,if_false] at h1 h2⊢<;>first|exact ih h1 h2|omega
   ·simp only[hn,if_false] at h1 h2⊢;generalize a.col (k.natAbs-1)=x at*;generalize b.col (k.natAbs-1)=y at*;generalize c.col (k.natAbs-1)=z at*;have e1:= @Rk x y;have e2:= @Rk y z;have e3:= @Rk x z;have p1:= @Rn x y;have p2:= @Rn y z;have p3:= @Rn x z;by_cases q1:Ec x y=0<;>by_cases q2:Ec y z=0<;>by_cases q3:Ec x z=0<;>simp only[q1,q2,q3,ne_eq,not_true_eq_false,not_false_eq_true,if_true,if_false] at h1 h2⊢<;>first|exact ih h1 h2|omega
theorem Ve (o a b c:T5) (h1:Cz o a b≤0) (h2:Cz o b c≤0):Cz o a c≤0:=by
 unfold Cz at h1 h2⊢;split
 ·rename_i hf;rw[if_pos hf] at h1 h2;exact eW _ a b c h1 h2
 ·omega
end Go.Tup
namespace Go.Tup
open Go.SL
def Ak (t:T5):List Value:=[.int .i64 t.c0,.int .i64 t.c1,.int .i64 t.c2,.int .i64 t.c3,.int .i64 t.c4]
def flat:List T5→List Value
 |[]=>[]
 |t::ts=>Ak t++flat ts
theorem eX:∀ts,(flat ts).length=ts.length*5
 |[]=>rfl
 |t::ts=>by simp[flat,eX ts,Ak];omega
theorem flat_append:∀(ts us:List T5),flat (ts++us)=flat ts++flat us
 |[],us=>rfl
 |t::ts,us=>by simp[flat,flat_append ts us]
theorem eY:∀(ts:List T5) (i:Nat),(flat ts).drop (i*5)=flat (ts.drop i)
 |ts,0=>by simp
 |[],i+1=>by simp[flat]
 |t::ts,i+1=>by have:=eY ts i;rw[flat,List.drop_append,List.drop_eq_nil_of_le (by simp[Ak];omega),List.nil_append,List.drop_succ_cons,←this];congr 1;simp[Ak];omega
def RV (p:Option Addr) (n:Nat) (ts:List T5) (c:Aa):Prop:=
 ts.length=n∧((n=0∧c=[])∨∃b off cs T fz,p=some ⟨b,off,none⟩∧c=[(b,An cs T fz)]∧(cs.drop off).take (n*5)=flat ts)
theorem RV.pos {p:Option Addr} {n:Nat} {ts:List T5} {c:Aa} (h:RV p n ts c) (hn:0<n):∃b off cs T fz,p=some ⟨b,off,none⟩∧c=[(b,An cs T fz)]∧∀i,i<n→(cs.drop (off+i*5)).take 5=Ak (ts.getD i ⟨0,0,0,0,0⟩):=by
 obtain⟨hl,⟨h0,_⟩|⟨b,off,cs,T,fz,rfl,rfl,h⟩⟩:=h
 ·omega
 ·refine⟨b,off,cs,T,fz,rfl,rfl,fun i hi=>?_⟩;have h2:=congrArg (fun l=>(l.drop (i*5)).take 5) h;simp only[eY] at h2;rw[List.drop_take,List.drop_drop,List.take_take] at h2;rw[show min 5 (n*5-i*5)=5 by omega] at h2;rw[h2];have aa:i<ts.length:=oM;rw[List.drop_eq_getElem_cons aa,flat,List.take_left' (by simp[Ak])];congr 1;simp[List.getD_eq_getElem?_getD,aa]
theorem RV.vec {E:Nat} {p:Option Addr} {n cap:Nat} {ts:List T5} {c:Aa} (h:Vec E 5 p n cap (flat ts) c):RV p n ts c:=by
 have hl:ts.length=n:=by have:=h.1;rw[eX] at this;omega
 rcases h.2 with⟨_,h0,_,hc⟩|⟨b,rest,hp,hc,_,_,_⟩
 ·exact⟨hl,.inl ⟨h0,hc⟩⟩
 ·refine⟨hl,.inr ⟨b,0,flat ts++rest,E,(0,0),hp,hc,?_⟩⟩;rw[List.drop_zero,←h.1,List.take_left]
def at5 (ts:List T5) (i:Nat):T5:=ts.getD i ⟨0,0,0,0,0⟩
end Go.Tup
namespace Go.Proofs.YtaofijjjheiknaaGreat
open Go.SL Go.Spc Go.Tup
theorem Yy (x:Int):CtQ AC 162 [Z9 Z8 x] [] (.bool (dec (x≠0))):=by
 refine cG func162 fun _=>?_;repeat(refine sA ?_;intros)
 (refine dP [] ?_;exact⟨rfl,rfl⟩)
theorem qK (b off n cap:Nat) (cs:List Value) (E:Nat) (fz:Nat×Nat) (hm:n≤1000) (hz:∀i,i<n→cs[off+i]? =some (Z9 Z8 0)):CtQ AC 207 [.slice (some ⟨b,off,none⟩) n cap,.func (.func 162) #[] #[]] [[(b,An cs E fz)]] (Z9 Z8 (-1)):=by
 refine cG func207 fun _=>?_;repeat(first|(refine sA ?_;intros)|refine cq Yy ?_)
 refine G.loop (X:=Nat) (fun i=>i≤n) (fun i=>[(8,Z9 Z8 i),(7,Z9 Z8 n),(0,.slice (some ⟨b,off,none⟩) n cap),(1,.func (.func 162) #[] #[])]) (fun _=>[[(b,An cs E fz)]]) (fun i=>n-i) 0 oM (body:=?_);intro i hi;by_cases h9:i<n
 ·have hg:=hz i h9;repeat(first|(refine sA ?_;intros)|refine cq Yy ?_)
  exact Dn.round (i+1) oM oM
 ·repeat(first|(refine sA ?_;intros)|refine cq Yy ?_)
  (refine dP [[(b,An cs E fz)]] ?_;exact⟨rfl,rfl⟩)
theorem eZ (b off n cap:Nat) (cs:List Value) (E:Nat) (fz:Nat×Nat) (hm:n≤1000) (hz:∀i,i<n→cs[off+i]? =some (Z9 Z8 0)):CtQ AC 161 [.slice (some ⟨b,off,none⟩) n cap,.func (.func 162) #[] #[]] [[(b,An cs E fz)]] (.bool false):=by
 have hI:=qK b off n cap cs E fz hm hz;refine cG func161 fun _=>?_;repeat(refine sA ?_;intros)
 (refine dP [[(b,An cs E fz)]] ?_;exact⟨by rw[Jq oA18];rfl,rfl⟩)
theorem Yz (t:T5) (i:Nat) (h:i<5):(Ak t)[i]? =some (Z9 Z8 (t.col i)):=by
 match i,h with
 |0,_=>rfl
 |1,_=>rfl
 |2,_=>rfl
 |3,_=>rfl
 |4,_=>rfl
theorem Vf (t:T5) (k i:Nat) (h:i<k) (hk:k≤5):(tw k t)[i]? =some (wd (t.col i)):=by
 unfold tw;rw[List.getElem?_map,BW,if_pos h];have h5:i<5:=oM
 match i,h5 with
 |0,_=>rfl
 |1,_=>rfl
 |2,_=>rfl
 |3,_=>rfl
 |4,_=>rfl
def PutOk (bw bd ba bs bx:Nat) (W:Wk) (ca cs:Aa) (first nb k bound:Nat) (g:Gr) (ps:List T5) (buf:List Int) (t:T5) (H':Hp):Prop:=
 ∃(cd ab:Aa) (δ':Dv) (aa:List Int),H'=[Ab bw bd ba bs,cd,ab,cs,[(bx,row (Cc bw first nb k (ps.length+1) bound g.bb (((ps.length+1)%Ad W.δ.size k)*k) ((ps.length+1)/Ad W.δ.size k) false) 168)],[(g.br,row (Ag aa) 174)]]∧
  ab.Perm ca∧Dg bd δ' cd∧δ'.size=W.δ.size∧δ'.blocks=W.δ.blocks∧(W.δ.fault= -1→δ'.fault= -1)∧δ'.acts=W.δ.acts+((ps.length+1)/Ad W.δ.size k-ps.length/Ad W.δ.size k)∧
  (∀x,¬(first≤x∧x<first+nb)→δ'.disk x=W.δ.disk x)∧Il δ'.disk W.δ.size k nb bound first (ps++[t]) aa
theorem qL (bw bd ba bs:Nat) (W:Wk) (cd ca cs:Aa) (h:Wc bd ba bs W cd ca cs) (bx first nb k bound:Nat) (g:Gr) (Gs:List Gr) (hg:W.α.gs.Perm (g::Gs)) (an:g.n=W.δ.size) (Lv:List Ext) (hl:Bm first nb Lv W.live) (ps:List T5) (buf:List Int) (ho:Il W.δ.disk W.δ.size k nb bound first ps buf) (ao:ps.length<bound) (t:T5) (ht:okT k t) (a5:W.δ.acts≤1000000000000):Ct AC 92 [pv bx,tv t] [Ab bw bd ba bs,cd,ca,cs,[(bx,row (Cc bw first nb k ps.length bound g.bb ((ps.length%Ad W.δ.size k)*k) (ps.length/Ad W.δ.size k) false) 168)],[(g.br,row (Ag buf) 174)]] fun v H'=> (v=Z9 Z8 0∧PutOk bw bd ba bs bx W ca cs first nb k bound g ps buf t H')∨ (v=Z9 Z8 6∧W.δ.fault=0∧∃cb,Qd bw bd ba bs bx W Gs Lv first nb k bound g.bb cb 0 W.δ.failed H'):=by
 obtain⟨⟨ag,bz⟩,b1,b2⟩:=h.dev.num;obtain⟨c1,ay⟩:=h.ar.open_ (hg.mem_iff.2 AE);have hH:=Qb bw bd ba bs W.δ cd h.dev k ho.w1 ho.w2;have a6:=ho.room ag;have a7:=ho.w1;have ah:=ho.w2;have hp:=Bh ag a7 ah;have aq:=ho.blen;have b4:=ho.hb;have ai:=ho.at_lt ag ao;have a8:Ad W.δ.size k≤256:=A5 (CW _ _) oM;generalize ak:(ps.length%Ad W.δ.size k)*k=n0 at*;have az:=Kh t ah;have ae:=fun b3=>eZ b3 k (5-k) (5-k) (Ak t) 33 (0,0) oM (fun i hi=>by rw[Yz t _ oM,ht.2 _ oM]);have aa:=fun b3=>eZ b3 0 0 0 (Ak t) 33 (0,0) oM (fun i hi=>by omega);have bp:AL .i64 (((n0+k:Nat):Int).tdiv (k:Int))=((ps.length%Ad W.δ.size k+1:Nat):Int):=by
  have e1:((n0+k:Nat):Int).tdiv (k:Int)=(((n0+k)/k:Nat):Int):=by rw[CR oM];simp
  have e2:(n0+k)/k=ps.length%Ad W.δ.size k+1:=by rw[←ak,←BH,Nat.mul_div_cancel _ oM]
  rw[e1,e2];have b5:=Nat.mod_lt ps.length (show 0<Ad W.δ.size k by omega);have hw:∀r:Nat,r<1000→AL .i64 ((r:Nat):Int)=(r:Int):=fun r hr=>Ah oM;exact hw _ oM
 have al:([g.obj]:Aa)=[(g.bb,row [.slice (some ⟨g.br,0,none⟩) W.δ.size W.δ.size] 177)]:=by unfold Gr.obj;rw[an]
 have au:(c1++[(g.bb,row [.slice (some ⟨g.br,0,none⟩) W.δ.size W.δ.size] 177)]).Perm ca:=by rw[←al];exact ay.symm
 have h':Wc bd ba bs W cd (c1++[(g.bb,row [.slice (some ⟨g.br,0,none⟩) W.δ.size W.δ.size] 177)]) cs:=⟨h.dev,h.ar.perm au,h.sp,h.nn,h.live⟩
 have a0:nb≠0:=Nat.ne_of_gt (Nat.lt_of_le_of_lt (AU _) ai);have b6:first+nb≤W.δ.blocks:=by unfold Bm at hl;rw[if_neg a0] at hl;rw[h.nn];exact(Qc (h.live.perm hl)).1.2
 obtain⟨B,hB⟩:∃B:Nat→List Int,∀i,B i=Fh buf n0 ((tw k t).take i):=⟨_,fun _=>rfl⟩
 have a9:B 0=buf:=by rw[hB,List.take_zero,eR]
 have a1:B k=Fh buf n0 (tw k t):=by rw[hB,A6 oM]
 have aj:∀i,(B i).length=W.δ.size:=fun i=>by rw[hB,Tl (by rw[BJ,az,aq];omega),aq]
 have bq:AL .i64 ((ps.length:Int)+1)=((ps.length+1:Nat):Int):=by rw[Ah oM];rfl
 have av:=fun hf=>eP bw bd ba bs W cd _ cs h' bx first nb k (ps.length+1) bound (n0+k) (ps.length/Ad W.δ.size k) g (hg.mem_iff.2 AE) an (B k) ((B k).take (n0+k)) (aj k) rfl (by rw[BJ,aj];omega) oM oM ah hf a5
 have aw:=fun hf=>eQ bw bd ba bs W cd _ cs h' bx first nb k (ps.length+1) bound (n0+k) (ps.length/Ad W.δ.size k) g Gs hg Lv hl an (B k) ((B k).take (n0+k)) (aj k) rfl (by rw[BJ,aj];omega) oM oM ah hf
 refine Ct.convP (H2:=[Ab bw bd ba bs,cd,c1,[(g.bb,row [.slice (some ⟨g.br,0,none⟩) W.δ.size W.δ.size] 177)],cs,[(bx,row (Cc bw first nb k ps.length bound g.bb n0 (ps.length/Ad W.δ.size k) false) 168)],[(g.br,row (Ag (B 0)) 174)]])
  (R2:=fun v H'=>(v=Z9 Z8 0∧ps.length%Ad W.δ.size k+1≠Ad W.δ.size k∧H'=[Ab bw bd ba bs,cd,c1,[(g.bb,row [.slice (some ⟨g.br,0,none⟩) W.δ.size W.δ.size] 177)],cs,[(bx,row (Cc bw first nb k (ps.length+1) bound g.bb (n0+k) (ps.length/Ad W.δ.size k) false) 168)],[(g.br,row (Ag (B k)) 174)]])∨
   (v=Z9 Z8 0∧ps.length%Ad W.δ.size k+1=Ad W.δ.size k∧W.δ.fault≠0∧eO bw bd ba bs bx W (c1++[(g.bb,row [.slice (some ⟨g.br,0,none⟩) W.δ.size W.δ.size] 177)]) cs first nb k (ps.length+1) bound g (ps.length/Ad W.δ.size k) ((B k).take (n0+k)) [(g.br,row (Ag (B k)) 174)] H')∨
   (v=Z9 Z8 6∧W.δ.fault=0∧∃cb,Qd bw bd ba bs bx W Gs Lv first nb k bound g.bb cb 0 W.δ.failed H')) ?_ ?_ ?_
 ·have bc:tv t= .agg (Ak t).toArray:=rfl;rw[bc];have a2:=Yz t;have h5:k=5∨k<5:=oM;have be:=Vf t k;unfold Cc Ab at*;generalize b7:Ak t=tc at*;rcases h5 with h5|h5;all_goals
   refine cG func92 fun _=>?_;repeat(first|(refine sv ?_;intros)|refine gD ?_|refine cq ae ?_|refine cq aa ?_|refine cq hH ?_)
   rename_i b3;refine G.loop (X:=Nat) (fun i=>i≤k) (fun i=>[(43,Z9 Z8 i),(42,Z9 Z8 k),(41,.slice (some ⟨b3,0,none⟩) k 5),(0,pv bx)])
    (fun i=>[[(b3,row tc 33)],[(bw,row [pv bd,pv ba,pv bs] 105)],cd,c1,[(g.bb,row [.slice (some ⟨g.br,0,none⟩) W.δ.size W.δ.size] 177)],cs,[(bx,row [pv bw,Z9 Z8 first,Z9 Z8 nb,Z9 Z8 k,Z9 Z8 ps.length,Z9 Z8 bound,pv g.bb,Z9 Z8 ((n0+i:Nat):Int),Z9 Z8 ((ps.length/Ad W.δ.size k:Nat):Int),.bool false] 168)],[(g.br,row (Ag (B i)) 174)]])
    (fun i=>k-i) 0 oM (body:=?_)
   intro i hi;by_cases bf:i<k
   ·have b8:=a2 i oM;have bu:(Ag (B i)).set (n0+i) (.int .u64 (wd (t.col i)))=Ag (B (i+1)):=by rw[Th,hB,hB,eS (be i bf ah) (by rw[az,aq];omega)]
    have bv:(Ag (B i)).length=W.δ.size:=by rw[Ni,aj]
    have b9:AL .i64 (((n0+i:Nat):Int)+1)=((n0+(i+1):Nat):Int):=by rw[Ah oM];rfl
    repeat(first|(refine sv ?_;intros)|refine gD ?_|refine cq ae ?_|refine cq aa ?_|refine cq hH ?_)
    exact Dn.round (i+1) oM oM
   ·have bg:k=i:=oM;subst bg;by_cases he:ps.length%Ad W.δ.size k+1=Ad W.δ.size k
    ·repeat(first|(refine sv ?_;intros)|refine gD ?_|refine cq ae ?_|refine cq aa ?_|refine cq hH ?_)
     apply R1.join (c1:=c1) (c2:=[(g.bb,row [.slice (some ⟨g.br,0,none⟩) W.δ.size W.δ.size] 177)])
     ·(repeat(first|exact Ae.here|apply Ae.there))
     ·(repeat(first|exact Ae.here|apply Ae.there))
     by_cases hf:W.δ.fault=0
     ·have aw:=aw hf;refine cL aw ?_;rintro _ _ ⟨rfl,ab,ac,a3,W',am,n',a',rfl,ad⟩;try dsimp only[AA,AB]
      unfold Ab Cc;repeat(first|(refine sv ?_;intros)|refine gD ?_|refine cq ae ?_|refine cq aa ?_|refine cq hH ?_)
      (refine dP [[(bw,row [pv bd,pv ba,pv bs] 105)],ab,ac,a3,[(bx,row [pv bw,Z9 Z8 first,Z9 Z8 nb,Z9 Z8 k,Z9 Z8 am,Z9 Z8 bound,pv g.bb,Z9 Z8 n',Z9 Z8 a',.bool true] 168)],[(g.br,row (Ag (B k)) 174)]] ?_;
       exact .inr (.inr ⟨rfl,hf,_,ab,ac,a3,W',am,n',a',rfl,ad⟩))
     ·have av:=av hf;refine cL av ?_;rintro _ _ ⟨rfl,ab,ac,rfl,ad⟩;try dsimp only[AA,AB]
      unfold Ab Cc;repeat(first|(refine sv ?_;intros)|refine gD ?_|refine cq ae ?_|refine cq aa ?_|refine cq hH ?_)
      (refine dP [[(bw,row [pv bd,pv ba,pv bs] 105)],ab,ac,cs,[(bx,row [pv bw,Z9 Z8 first,Z9 Z8 nb,Z9 Z8 k,Z9 Z8 ((ps.length+1:Nat):Int),Z9 Z8 bound,pv g.bb,Z9 Z8 ((0:Nat):Int),Z9 Z8 ((ps.length/Ad W.δ.size k+1:Nat):Int),.bool false] 168)],[(g.br,row (Ag (B k)) 174)]] ?_;
       exact .inr (.inl ⟨rfl,he,hf,ab,ac,rfl,ad⟩))
    ·repeat(first|(refine sv ?_;intros)|refine gD ?_|refine cq ae ?_|refine cq aa ?_|refine cq hH ?_)
     (refine dP [[(bw,row [pv bd,pv ba,pv bs] 105)],cd,c1,[(g.bb,row [.slice (some ⟨g.br,0,none⟩) W.δ.size W.δ.size] 177)],cs,[(bx,row [pv bw,Z9 Z8 first,Z9 Z8 nb,Z9 Z8 k,Z9 Z8 ((ps.length+1:Nat):Int),Z9 Z8 bound,pv g.bb,Z9 Z8 ((n0+k:Nat):Int),Z9 Z8 ((ps.length/Ad W.δ.size k:Nat):Int),.bool false] 168)],[(g.br,row (Ag (B k)) 174)]] ?_;
      exact .inl ⟨rfl,he,rfl⟩)
 ·rw[a9,←al];simp only[AX,A4,AQ,AT];refine BI _ (BI _ ?_);rw[←AT c1];exact DF _ ay
 ·have ax:W.δ.fault= -1→Hq W.δ.fault= -1:=fun e=>by unfold Hq;rw[e];rfl
  rintro v H' (⟨rfl,a4,rfl⟩|⟨rfl,he,hf,ab,ac,rfl,bh,bi⟩|⟨rfl,hf,bk⟩)
  ·obtain⟨e1,e2⟩:=(Vd (p:=ps.length) hp).2 a4;have e3:(ps.length%Ad W.δ.size k+1)*k=n0+k:=by rw[BH,ak]
   refine⟨_,.inl ⟨rfl,cd,c1++[(g.bb,row [.slice (some ⟨g.br,0,none⟩) W.δ.size W.δ.size] 177)],W.δ,B k,rfl,au,h.dev,rfl,rfl,id,by rw[e1];omega,fun _ _=>rfl,?_⟩,?_⟩
   ·rw[a1,←ak];exact ho.put ag ao ht a4
   ·rw[e1,e2,e3];simp
  ·obtain⟨e1,e2⟩:=(Vd (p:=ps.length) hp).1 he;refine⟨_,.inl ⟨rfl,ab,ac,_,B k,rfl,bh.trans au,bi,rfl,rfl,ax,by rw[e1,Nat.add_sub_cancel_left];rfl,fun x hx=>?_,?_⟩,?_⟩
   ·simp only[Dv.wrote,Gz];rw[if_neg];rintro rfl;exact hx ⟨Nat.le_add_right _ _,Nat.add_lt_add_left ai _⟩
   ·have:=ho.flushed ag ao ht he;rw[ak,←a1] at this;exact this
   ·rw[e1,e2,Nat.zero_mul]
  ·exact⟨_,.inr ⟨rfl,hf,bk⟩,.refl _⟩
end Go.Proofs.YtaofijjjheiknaaGreat
