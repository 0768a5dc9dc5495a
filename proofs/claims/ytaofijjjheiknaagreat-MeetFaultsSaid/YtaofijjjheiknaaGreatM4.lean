/-
  Parts of the proof, put together (4). No condition.
-/
import Derived.Test.YtaofijjjheiknaaGreatM3
set_option linter.unusedVariables false
set_option linter.unusedSimpArgs false
set_option linter.unnecessarySimpa false
set_option maxHeartbeats 4000000
open Go.IntKind renaming wrap→AJ
open Go.Proofs.Tryz renaming prog→AC
open Int renaming tdiv_eq_ediv_of_nonneg→CE
open List renaming cons_append→AA,nil_append→AB,getElem?_eq_getElem→AE,mem_cons_self→AH,mem_cons_of_mem→AI,length_cons→AL,mem_cons→AM,getD_eq_getElem?_getD→AN,mem_append→AO,append_assoc→AP,append_nil→AQ,mem_singleton→AT,mem_map→AU,flatten_cons→AW,map_append→AX,length_map→AY,map_cons→AZ,take_of_length_le→A4,flatten_nil→A5,getElem?_eq_none→BL,getElem?_drop→BR,getElem?_take→BW,replicate→BY,perm_append_comm→B3,perm_middle→B4,nodup_cons→CB,take_append_of_le_length→CR,drop_zero→CT,sum_append→CV,getElem?_set_ne→DC,eq_nil_of_length_eq_zero→DZ,append_of_mem→EA
open List.Perm renaming append_left→BE,append_right→DB
open Nat renaming reduceAdd→AD,le_refl→AG,le_trans→BB,zero_add→BT,div_le_self→CW
namespace Go.Proofs.YtaofijjjheiknaaGreat
open Go.SL Go.Spc
theorem aHn {n first m f bl:Nat} {A1 B1 L R:List Ext} (aa:fok n (A1++L++(R++B1))) (hm:1≤m) (hfm:first+m≤n)
  (hL:L=[]∧f=first∨∃e0:Ext,L=[e0]∧e0.1+e0.2=first∧f=e0.1) (hR:R=[]∧f+bl=first+m∨∃e1:Ext,R=[e1]∧e1.1=first+m∧f+bl=e1.1+e1.2)
  (hA:∀e∈A1,e.1+e.2<f) (hB:∀e∈B1,f+bl<e.1):Gave n (A1++L++(R++B1)) (A1++[(f,bl)]++B1) first m:=by
 obtain⟨h1,h2,h3⟩:=aCu.1 aa
 obtain⟨h4,h5,h6⟩:=aCu.1 h1
 obtain⟨h7,h8,h9⟩:=aCu.1 h2
 have hf:f≤first∧first+m≤f+bl∧f+bl≤n:=by
  rcases hL with⟨rfl,e⟩|⟨e0,rfl,e,e'⟩<;>rcases hR with⟨rfl,g⟩|⟨e1,rfl,g,g'⟩
  ·omega
  ·have:=h7.1 e1 oA15;omega
  ·omega
  ·have:=h7.1 e1 oA15;omega
 refine⟨aCu.2 ⟨aCu.2 ⟨h4,aCo.2 ⟨⟨oD,oD⟩,bFv n,by simp⟩,fun x hx y hy=> ?_⟩,h8,fun x hx y hy=> ?_⟩,fun x=> ?_,?_,?_⟩
 ·simp only[AT] at hy;subst hy;exact hA x hx
 ·rcases AO.1 hx with hx|hx
  ·have:=hA x hx;have:=hB y hy;omega
  ·simp only[AT] at hx;subst hx;exact hB y hy
 ·simp only[aOr,aDs,aYg,or_false]
  clear h1 h2 h3 h4 h5 h6 h7 h8 h9 hA hB aa
  rcases hL with⟨rfl,e⟩|⟨e0,rfl,e,e'⟩<;>rcases hR with⟨rfl,g⟩|⟨e1,rfl,g,g'⟩<;>simp only[aDs,aYg,or_false,false_or]<;>
   by_cases hP:inF A1 x<;>by_cases hQ:inF B1 x<;>simp only[hP,hQ,true_or,or_true,false_or,or_false]<;>omega
 ·rcases hL with⟨rfl,e⟩|⟨e0,rfl,e,e'⟩<;>rcases hR with⟨rfl,g⟩|⟨e1,rfl,g,g'⟩<;>simp<;>omega
 ·rcases hL with⟨rfl,e⟩|⟨e0,rfl,e,e'⟩<;>rcases hR with⟨rfl,g⟩|⟨e1,rfl,g,g'⟩<;>simp only[aYi,big,AB]<;>omega
theorem aOs (bs:Nat) (σ:Sp) (c:aAc) (h:aEx bs σ c) (first m:Nat) (hm:1≤m) (hfm:first+m≤σ.n) (hd:∀x,first≤x→x<first+m→¬inF σ.free x):
  Ct AC 154 [.pointer (some ⟨bs,0,none⟩),.int .i64 (first:Int),.int .i64 (m:Int)] [c] fun v H'=>
   ∃(c':aAc) (σ':Sp),v= .int .i64 0∧aEx bs σ' c'∧σ'.n=σ.n∧(∀x,inF σ'.free x↔inF σ.free x∨(first≤x∧x<first+m))∧aBg σ'.free=aBg σ.free+m∧big σ.free≤big σ'.free∧H'=[c']:=by
 obtain⟨n,free⟩:=σ
 obtain⟨p,cap,vc,rfl,hV,aa,hn⟩:=h
 dsimp only at hV aa hn hfm hd
 obtain⟨A,B,aj,hA,hB⟩:=bOd first free aa
 have fin:∀ab,Gave n free ab first m→Ct AC 154 [.pointer (some ⟨bs,0,none⟩),.int .i64 (first:Int),.int .i64 (m:Int)] [[(bs,row (aAp n p free.length cap) 144)],vc] (fun v H'=>
   v= .int .i64 0∧∃p' ad ag,H'=[[(bs,row (aAp n p' ab.length ad) 144)],ag]∧Vec 141 2 p' ab.length ad (aAe ab) ag)→Ct AC 154 [.pointer (some ⟨bs,0,none⟩),.int .i64 (first:Int),.int .i64 (m:Int)] [(bs,row (aAp n p free.length cap) 144)::vc] fun v H'=>
   ∃(c':aAc) (σ':Sp),v= .int .i64 0∧aEx bs σ' c'∧σ'.n=n∧(∀x,inF σ'.free x↔inF free x∨(first≤x∧x<first+m))∧aBg σ'.free=aBg free+m∧big free≤big σ'.free∧H'=[c']:=by
  intro ab hg hc
  refine Ct.conv hc oA15 ?_
  rintro v H' ⟨rfl,p',ad,ag,rfl,ak⟩
  exact⟨_,⟨_,⟨n,ab⟩,rfl,⟨p',ad,ag,rfl,ak,hg.1,hn⟩,rfl,hg.2.1,hg.2.2.1,hg.2.2.2,rfl⟩,by simp⟩
 subst aj
 obtain⟨ae,ac,ai⟩:=aCu.1 aa
 have al:A=[]∨∃A2 e0,A=A2++[e0]:=by
  rcases List.eq_nil_or_concat A with h|⟨A2,e0,h⟩
  ·exact .inl h
  ·exact .inr ⟨A2,e0,by simpa using h⟩
 have ah:∀e1 B2,B=e1::B2→first+m≤e1.1:=by
  rintro e1 B2 rfl
  exact aYh (hB e1 AH) (ac.1 e1 AH).1 (fun x h1 h2 hh=>hd x h1 h2 (by rw[aOr];exact .inr hh)) hm
 rcases al with rfl|⟨A2,e0,rfl⟩
 ·rcases B with _|⟨e1,B2⟩
  ·have hg:=aHn (n:=n) (first:=first) (m:=m) (f:=first) (bl:=m) (A1:=[]) (B1:=[]) (L:=[]) (R:=[]) (by simpa using aa) hm hfm (.inl ⟨rfl,rfl⟩) (.inl ⟨rfl,oM⟩) oA15
     oA15
   refine fin _ (by simpa using hg) ?_
   simpa using bPq bs n cap p vc first m hn hm hfm (by simpa using aa) (by simpa using hA) (by simpa using hB) (by simpa using hV)
  ·have hb:=ah e1 B2 rfl
   by_cases hb:e1.1=first+m
   ·have hg:=aHn (n:=n) (first:=first) (m:=m) (f:=first) (bl:=m+e1.2) (A1:=[]) (B1:=B2) (L:=[]) (R:=[e1]) (by simpa using aa) hm hfm (.inl ⟨rfl,rfl⟩) (.inr ⟨e1,rfl,hb,oM⟩) oA15
      (fun e he=>by
       have:=(aCo.1 ac).2.2 e he;omega)
    refine fin _ (by simpa using hg) ?_
    simpa using bPs bs n cap p vc first m hn hm hfm B2 e1 hb (by simpa using aa) (by simpa using hA) (by simpa using hB) (by simpa using hV)
   ·have hb:first+m<e1.1:=oM
    have hg:=aHn (n:=n) (first:=first) (m:=m) (f:=first) (bl:=m) (A1:=[]) (B1:=(e1::B2)) (L:=[]) (R:=[]) (by simpa using aa) hm hfm (.inl ⟨rfl,rfl⟩) (.inl ⟨rfl,oM⟩) oA15
      (fun e he=>by
       rcases AM.1 he with rfl|he
       ·omega
       ·have:=(aCo.1 ac).2.2 e he;omega)
    refine fin _ (by simpa using hg) ?_
    simpa using bPr bs n cap p vc first m hn hm hfm B2 e1 hb (by simpa using aa) (by simpa using hA) (by simpa using hB) (by simpa using hV)
 ·have ha:=hA e0 oA15
  by_cases ha:e0.1+e0.2=first
  ·rcases B with _|⟨e1,B2⟩
   ·have hg:=aHn (n:=n) (first:=first) (m:=m) (f:=e0.1) (bl:=m+e0.2) (A1:=A2) (B1:=[]) (L:=[e0]) (R:=[]) (by simpa using aa) hm hfm (.inr ⟨e0,rfl,ha,rfl⟩) (.inl ⟨rfl,oM⟩) (fun e he=>(aCu.1 ae).2.2 e he e0 oA15)
      oA15
    refine fin _ (by simpa using hg) ?_
    simpa using bPw bs n cap p vc first m hn hm hfm A2 e0 ha (by simpa using aa) (by simpa using hA) (by simpa using hB) (by simpa using hV)
   ·have hb:=ah e1 B2 rfl
    by_cases hb:e1.1=first+m
    ·have hg:=aHn (n:=n) (first:=first) (m:=m) (f:=e0.1) (bl:=m+e1.2+e0.2) (A1:=A2) (B1:=B2) (L:=[e0]) (R:=[e1]) (by simpa using aa) hm hfm (.inr ⟨e0,rfl,ha,rfl⟩) (.inr ⟨e1,rfl,hb,oM⟩) (fun e he=>(aCu.1 ae).2.2 e he e0 oA15)
       (fun e he=>by
        have:=(aCo.1 ac).2.2 e he;omega)
     refine fin _ (by simpa using hg) ?_
     simpa using bPy bs n cap p vc first m hn hm hfm A2 e0 B2 e1 ha hb (by simpa using aa) (by simpa using hA) (by simpa using hB) (by simpa using hV)
    ·have hb:first+m<e1.1:=oM
     have hg:=aHn (n:=n) (first:=first) (m:=m) (f:=e0.1) (bl:=m+e0.2) (A1:=A2) (B1:=(e1::B2)) (L:=[e0]) (R:=[]) (by simpa using aa) hm hfm (.inr ⟨e0,rfl,ha,rfl⟩) (.inl ⟨rfl,oM⟩) (fun e he=>(aCu.1 ae).2.2 e he e0 oA15)
       (fun e he=>by
        rcases AM.1 he with rfl|he
        ·omega
        ·have:=(aCo.1 ac).2.2 e he;omega)
     refine fin _ (by simpa using hg) ?_
     simpa using bPx bs n cap p vc first m hn hm hfm A2 e0 B2 e1 ha hb (by simpa using aa) (by simpa using hA) (by simpa using hB) (by simpa using hV)
  ·have ha:e0.1+e0.2<first:=oM
   rcases B with _|⟨e1,B2⟩
   ·have hg:=aHn (n:=n) (first:=first) (m:=m) (f:=first) (bl:=m) (A1:=(A2++[e0])) (B1:=[]) (L:=[]) (R:=[]) (by simpa using aa) hm hfm (.inl ⟨rfl,rfl⟩) (.inl ⟨rfl,oM⟩) (fun e he=>by
       rcases AO.1 he with he|he
       ·have:=(aCu.1 ae).2.2 e he e0 oA15;omega
       ·simp only[AT] at he;subst he;exact ha)
      oA15
    refine fin _ (by simpa using hg) ?_
    simpa using bPt bs n cap p vc first m hn hm hfm A2 e0 ha (by simpa using aa) (by simpa using hA) (by simpa using hB) (by simpa using hV)
   ·have hb:=ah e1 B2 rfl
    by_cases hb:e1.1=first+m
    ·have hg:=aHn (n:=n) (first:=first) (m:=m) (f:=first) (bl:=m+e1.2) (A1:=(A2++[e0])) (B1:=B2) (L:=[]) (R:=[e1]) (by simpa using aa) hm hfm (.inl ⟨rfl,rfl⟩) (.inr ⟨e1,rfl,hb,oM⟩) (fun e he=>by
        rcases AO.1 he with he|he
        ·have:=(aCu.1 ae).2.2 e he e0 oA15;omega
        ·simp only[AT] at he;subst he;exact ha)
       (fun e he=>by
        have:=(aCo.1 ac).2.2 e he;omega)
     refine fin _ (by simpa using hg) ?_
     simpa using bPv bs n cap p vc first m hn hm hfm A2 e0 B2 e1 ha hb (by simpa using aa) (by simpa using hA) (by simpa using hB) (by simpa using hV)
    ·have hb:first+m<e1.1:=oM
     have hg:=aHn (n:=n) (first:=first) (m:=m) (f:=first) (bl:=m) (A1:=(A2++[e0])) (B1:=(e1::B2)) (L:=[]) (R:=[]) (by simpa using aa) hm hfm (.inl ⟨rfl,rfl⟩) (.inl ⟨rfl,oM⟩) (fun e he=>by
        rcases AO.1 he with he|he
        ·have:=(aCu.1 ae).2.2 e he e0 oA15;omega
        ·simp only[AT] at he;subst he;exact ha)
       (fun e he=>by
        rcases AM.1 he with rfl|he
        ·omega
        ·have:=(aCo.1 ac).2.2 e he;omega)
     refine fin _ (by simpa using hg) ?_
     simpa using bPu bs n cap p vc first m hn hm hfm A2 e0 B2 e1 ha hb (by simpa using aa) (by simpa using hA) (by simpa using hB) (by simpa using hV)
theorem aYl (n:Nat) (h1:1≤n) (h2:n≤1000000):Ct AC 49 [.int .i64 0,.int .i64 (n:Int)] [] fun v H'=>
  ∃bs c',v= .pointer (some ⟨bs,0,none⟩)∧aEx bs ⟨n,[(0,n)]⟩ c'∧H'=[c']:=by
 refine Ct.conv (H2:=[]) (R2:=fun v H'=>∃bs vb,v= .pointer (some ⟨bs,0,none⟩)∧H'=[[(bs,row [.int .i64 0,.int .i64 (n:Int),.slice (some ⟨vb,0,none⟩) 1 1] 144)],[(vb,row [.int .i64 0,.int .i64 (n:Int)] 141)]]) ?_ rfl ?_
 ·refine Ct.go Tryz.func49 Tryz.ntmps49 fun w0=> ?_
  repeat(refine st ?_;intros)
  rename_i bs vb
  (refine Dn.post (Hr:=[[(bs,row [.int .i64 0,.int .i64 (n:Int),.slice (some ⟨vb,0,none⟩) 1 1] 144)],[(vb,row [.int .i64 0,.int .i64 (n:Int)] 141)]]) Tryz.results49 (hR:= ?_);exact⟨bs,vb,rfl,rfl⟩)
 ·rintro v H' ⟨bs,vb,rfl,rfl⟩
  refine⟨_,⟨bs,_,rfl,⟨some ⟨vb,0,none⟩,1,_,rfl,⟨rfl,.inr ⟨vb,[],rfl,rfl,by simp[aAe],AG _,by decide⟩⟩,?_,h2⟩,rfl⟩,by simp[aAp,aAe]⟩
  exact aCo.2 ⟨⟨h1,oD⟩,bFv n,by simp⟩
theorem aVe {n:Nat}:∀{l:List Ext} {k:Nat},fok n l→(∀e∈l,k≤e.1)→k≤n→aBg l≤n-k
 |[],_,_,_,_=>by simp
 |e::l,k,h,hk,hn=>by
  obtain⟨h1,h2,h3⟩:=aCo.1 h
  have:=aVe (k:=e.1+e.2) h2 (fun y hy=>Nat.le_of_lt (h3 y hy)) h1.2
  have:=hk e AH
  simp only[aJb]
  omega
theorem bGb (p:Option Addr) (m cap:Nat) (xs:List Value) (c:aAc) (hV:Vec 141 2 p m cap xs c) (hm:m≤1000000) (h1:xs.all Value.oneCell'=true):
  Ct AC 181 [.slice p m cap] [c] fun v H'=>
   ∃p' cap' c',v= .slice p' m cap'∧Vec 141 2 p' m cap' xs c'∧H'=[c',c]:=by
 obtain⟨aa,⟨rfl,rfl,rfl,rfl⟩|⟨b,rest,rfl,rfl,ac,ad,ae⟩⟩:=hV
 ·obtain rfl:xs=[]:=DZ (by simpa using aa)
  refine Ct.go Tryz.func181 Tryz.ntmps181 fun w0=> ?_
  repeat(refine st ?_;intros)
  (refine Dn.post (Hr:=[[],[]]) Tryz.results181 (hR:= ?_);exact⟨none,0,[],rfl,Vec.nil _ _,rfl⟩)
 ·by_cases h0:m=0
  ·subst h0
   obtain rfl:xs=[]:=DZ (by simpa using aa)
   have hz:(0:Nat)≤0:=AG _
   refine Ct.go Tryz.func181 Tryz.ntmps181 fun w0=> ?_
   repeat(refine st ?_;intros)
   rename_i b0
   (refine Dn.post (Hr:=[[(b0,row [] 141)],[(b,row ([]++rest) 141)]]) Tryz.results181 (hR:= ?_);exact⟨some ⟨b0,0,none⟩,0,_,rfl,⟨rfl,.inr ⟨b0,[],rfl,rfl,by simp[aAe],AG _,by decide⟩⟩,rfl⟩)
  ·have hd:((xs++rest).drop 0).take (m*2)=xs:=aNo aa
   refine Ct.go Tryz.func181 Tryz.ntmps181 fun w0=> ?_
   repeat(refine st ?_;intros)
   rename_i b0
   have hN:Vec 141 2 (some ⟨b0,0,none⟩) 0 0 [] [(b0,row [] 141)]:=⟨rfl,.inr ⟨b0,[],rfl,rfl,by simp[aAe],AG _,by decide⟩⟩
   repeat(refine st ?_;intros)
   rename_i p' cap' c' ab
   (refine Dn.post (Hr:=[c',[(b,row (xs++rest) 141)]]) Tryz.results181 (hR:= ?_);refine⟨p',cap',c',?_,?_,rfl⟩)
   ·show Value.slice p' (0+m) cap'=_
    rw[BT]
   ·simpa using ab
theorem bDm (bs:Nat) (σ:Sp) (c:aAc) (h:aEx bs σ c):Ct AC 128 [.pointer (some ⟨bs,0,none⟩)] [c] fun v H'=>
  ∃p' cap' c',v= .slice p' σ.free.length cap'∧Vec 141 2 p' σ.free.length cap' (aAe σ.free) c'∧H'=[c',c]:=by
 obtain⟨n,free⟩:=σ
 obtain⟨p,cap,vc,rfl,hV,ab,hn⟩:=h
 dsimp only at hV ab hn⊢
 have ac:=aDx ab (k:=0) oM oM
 have hC:=bGb p free.length cap (aAe free) vc hV oM (aFx free)
 refine Ct.conv (H2:=[[(bs,row (aAp n p free.length cap) 144)],vc]) (R2:=fun v H'=>∃p' cap' c',v= .slice p' free.length cap'∧Vec 141 2 p' free.length cap' (aAe free) c'∧H'=[c',[(bs,row (aAp n p free.length cap) 144)],vc]) ?_ oA15 ?_
 ·unfold aAp
  refine Ct.go Tryz.func128 Tryz.ntmps128 fun w0=> ?_
  repeat(refine st ?_;intros)
  refine R.call (hct:=hC) (h:= ?_)
  rintro _ _ ⟨p',cap',c',rfl,aa,rfl⟩
  try dsimp only[AA,AB]
  repeat(refine st ?_;intros)
  (refine Dn.post (Hr:=[c',[(bs,row [.int .i64 0,.int .i64 (n:Int),.slice p free.length cap] 144)],vc]) Tryz.results128 (hR:= ?_);exact⟨p',cap',c',rfl,aa,rfl⟩)
 ·rintro v H' ⟨p',cap',c',rfl,aa,rfl⟩
  exact⟨_,⟨p',cap',c',rfl,aa,rfl⟩,by simp⟩
theorem bLh (bs:Nat) (σ:Sp) (c:aAc) (h:aEx bs σ c):CtQ AC 70 [.pointer (some ⟨bs,0,none⟩)] [c] (.int .i64 (aBg σ.free:Int)):=by
 have hX:=bDm bs σ c h
 obtain⟨n,free⟩:=σ
 obtain⟨p,cap,vc,_,_,aa,hn⟩:=h
 dsimp only at aa hn hX⊢
 have ae:=aDx aa (k:=0) oM oM
 have ag:=aVe aa (k:=0) oM oM
 refine Ct.go Tryz.func70 Tryz.ntmps70 fun w0=> ?_
 repeat(refine st ?_;intros)
 refine R.call (hct:=hX) (h:= ?_)
 rintro _ _ ⟨p',ab,c',rfl,ac,rfl⟩
 try dsimp only[AA,AB]
 repeat(refine st ?_;intros)
 refine G.loop (X:=Nat) (fun i=>i≤free.length) (fun i=>[(9,.int .i64 (i:Int)),(8,.int .i64 (free.length:Int)),(7,.slice p' free.length ab),(3,.int .i64 (aBg (free.take i):Int))])
  (fun _=>[c',c]) (fun i=>free.length-i) 0 oM (body:= ?_)
 intro i hi
 by_cases ad:i<free.length
 ·obtain⟨A,x,B,hs,hA⟩:=aNp (l:=free) (i:=i) ad
  obtain⟨_,h0|⟨vb,rest,rfl,rfl,ah,ai,aj⟩⟩:=ac
  ·omega
  obtain⟨g1,g2,g3⟩:=aVd (rest:=rest) (B:=B) (e:=x) hA
  rw[←hs] at g1 g2 g3
  generalize aAe free++rest=cells at*
  have e1:free.take i=A:=by rw[hs,←hA];simp
  have e2:free.take (i+1)=A++[x]:=by rw[hs,←hA,List.take_length_add_append];rfl
  have e3:aBg free=aBg A+(x.2+aBg B):=by rw[hs];simp
  rw[e1]
  repeat(refine st ?_;intros)
  refine Dn.round (i+1) oM oM ?_ oA1
  rw[e2,bFw,show aBg [x]=x.2 by simp]
  exact⟨rfl,rfl,rfl,rfl,trivial⟩
 ·obtain rfl:i=free.length:=by omega
  rw[List.take_length]
  repeat(refine st ?_;intros)
  (refine Dn.post (Hr:=[c]) Tryz.results70 (hR:= ?_);exact⟨rfl,rfl⟩)
def aAg (ws:List Int):List Value:=ws.map (Value.int .u64)
@[simp] theorem aBz (ws:List Int):(aAg ws).length=ws.length:=by simp[aAg]
theorem aLy (ws:List Int):(aAg ws).all Value.oneCell'=true:=by
 induction ws with
 |nil=>rfl
 |cons w ws ih=>simpa[aAg,Value.oneCell'] using ih
theorem aOt (b off n cap:Nat) (cs:List Value) (E:Nat) (fz:Nat×Nat) (ws:List Int) (hn:0<n) (hm:n≤1000000) (ad:(cs.drop off).take n=aAg ws) (hl:ws.length=n):
  Ct AC 228 [.slice (some ⟨b,off,none⟩) n cap] [[(b,aBs cs E fz)]] fun v H'=>
   ∃p cap' c',v= .slice p n cap'∧Vec 174 1 p n cap' (aAg ws) c'∧H'=[c',[(b,aBs cs E fz)]]:=by
 have aa:(cs.drop off).take (n*1)=aAg ws:=by rw[Nat.mul_one];exact ad
 have ab:(aAg ws).length=n*1:=by rw[aBz,hl,Nat.mul_one]
 have ac:=aLy ws
 refine Ct.go Tryz.func228 Tryz.ntmps228 fun w0=> ?_
 repeat(refine st ?_;intros)
 rename_i b0
 have hV:Vec 174 1 (some ⟨b0,0,none⟩) 0 0 [] [(b0,row [] 174)]:=⟨by simp,.inr ⟨b0,[],rfl,rfl,by simp,AG _,by decide⟩⟩
 apply R.append
 ·exact rfl
 ·exact rfl
 ·exact hV
 ·repeat(first|exact aAn.here|apply aAn.there|exact aAn.nil)
 ·repeat(first|exact Has.here|apply Has.there)
 ·exact aa
 ·exact ab
 ·exact ac
 ·exact rfl
 ·exact hn
 ·simp only[maxLen];omega
 ·omega
 ·exact rfl
 ·exact nle rfl
 intro p' cap' c' ae
 have ag:Vec 174 1 p' n cap' (aAg ws) c':=by simpa using ae
 repeat(refine st ?_;intros)
 (refine Dn.post (Hr:=[c',[(b,aBs cs E fz)]]) Tryz.results228 (hR:= ?_);exact⟨p',cap',c',by show Value.slice p' (0+n) cap'=_;rw[BT],ag,rfl⟩)
def it {α:Type} (f:α→α):Nat→α→α
 |0,s=>s
 |j+1,s=>f (it f j s)
def bGc (u:Int):Int:=aGu .xor .u32 (u.fdiv (2^min (Int.toNat 1) IntKind.u32.bits)) (aGu .and .u32 3988292384 (IntKind.u32.wrap (-aGu .and .u32 u 1)))
def aKc (p:Int×Int):Int×Int:=(it bGc 8 (aGu .xor .u32 p.1 (IntKind.u32.wrap (aGu .and .u64 p.2 255))),p.2.fdiv (2^min (Int.toNat 8) IntKind.u64.bits))
def aVf (s x:Int):Int:=aFz .u32 (it aKc 8 (aFz .u32 s,x)).1
theorem aSp (s x:Int):CtQ AC 240 [.int .u32 s,.int .u64 x] [] (.int .u32 (aVf s x)):=by
 refine Ct.go Tryz.func240 Tryz.ntmps240 fun w0=> ?_
 repeat(refine st ?_;intros)
 refine G.loop (X:=Nat) (fun i=>i≤8) (fun i=>[(8,.int .i64 (i:Int)),(5,.int .u32 (it aKc i (aFz .u32 s,x)).1),(1,.int .u64 (it aKc i (aFz .u32 s,x)).2)]) (fun _=>[]) (fun i=>8-i) 0 oA14 (body:= ?_)
 intro i hi
 generalize hp:it aKc i (aFz .u32 s,x)=p
 obtain⟨t,y⟩:=p
 dsimp only
 by_cases h8:i<8
 ·repeat(refine st ?_;intros)
  refine G.loop (X:=Nat) (fun j=>j≤8) (fun j=>[(17,.int .i64 (j:Int)),(8,.int .i64 (i:Int)),(1,.int .u64 (y.fdiv (2^min (Int.toNat 8) IntKind.u64.bits))),(5,.int .u32 (it bGc j (aGu .xor .u32 t (IntKind.u32.wrap (aGu .and .u64 y 255)))))]) (fun _=>[]) (fun j=>8-j) 0 oA14 (body:= ?_)
  intro j hj
  generalize hu:it bGc j (aGu .xor .u32 t (IntKind.u32.wrap (aGu .and .u64 y 255)))=u
  by_cases h9:j<8
  ·repeat(refine st ?_;intros)
   refine Dn.round (j+1) oM oM ?_ oA1
   refine⟨rfl,rfl,rfl,?_,trivial⟩
   simp only[it,hu]
   rfl
  ·obtain rfl:j=8:=by omega
   repeat(refine st ?_;intros)
   refine Dn.round (i+1) oM oM ?_ oA1
   have e:it aKc (i+1) (aFz .u32 s,x)=(u,y.fdiv (2^min (Int.toNat 8) IntKind.u64.bits)):=by
    show aKc (it aKc i (aFz .u32 s,x))=_
    rw[hp,←hu];rfl
   rw[e]
   exact⟨rfl,rfl,rfl,trivial⟩
 ·obtain rfl:i=8:=by omega
  have e:aFz .u32 t=aVf s x:=by unfold aVf;rw[hp]
  repeat(refine st ?_;intros)
  (refine Dn.post (Hr:=[]) Tryz.results240 (hR:= ?_);exact⟨by rw[←e];rfl,rfl⟩)
def aRe (ws:List Int):Int:=ws.foldl aVf 0
theorem aVg {cs:List Value} {off n:Nat} {ws:List Int} (h:(cs.drop off).take n=aAg ws) (hl:ws.length=n) {i:Nat} (hi:i<n):cs[off+i]? =some (.int .u64 (ws.getD i 0)):=by
 have h2:=congrArg (·[i]?) h
 simp only[BW,hi,if_true,BR] at h2
 rw[h2]
 have aa:i<ws.length:=oM
 simp[aAg,AN,aa]
theorem Sum_ct (b off n cap:Nat) (cs:List Value) (E:Nat) (fz:Nat×Nat) (ws:List Int) (hm:n≤1000000) (aa:(cs.drop off).take n=aAg ws) (hl:ws.length=n):
  CtQ AC 241 [.slice (some ⟨b,off,none⟩) n cap] [[(b,aBs cs E fz)]] (.int .u32 (aRe ws)):=by
 refine Ct.go Tryz.func241 Tryz.ntmps241 fun w0=> ?_
 repeat(first|(refine st ?_;intros)|refine cq aSp ?_)
 refine G.loop (X:=Nat) (fun i=>i≤n) (fun i=>[(8,.int .i64 (i:Int)),(7,.int .i64 (n:Int)),(6,.slice (some ⟨b,off,none⟩) n cap),(3,.int .u32 ((ws.take i).foldl aVf 0))]) (fun _=>[[(b,aBs cs E fz)]]) (fun i=>n-i) 0 oM (body:= ?_)
 intro i hi
 by_cases h9:i<n
 ·have hg:=aVg aa hl h9
  have e:(ws.take (i+1)).foldl aVf 0=aVf ((ws.take i).foldl aVf 0) (ws.getD i 0):=by
   rw[List.take_add_one,List.foldl_append]
   have ab:i<ws.length:=oM
   simp[AN,ab]
  repeat(first|(refine st ?_;intros)|refine cq aSp ?_)
  refine Dn.round (i+1) oM oM ?_ oA1
  rw[e]
  exact⟨rfl,rfl,rfl,rfl,trivial⟩
 ·obtain rfl:i=n:=by omega
  have e:(ws.take i).foldl aVf 0=aRe ws:=by unfold aRe;rw[A4 oM]
  rw[e]
  repeat(first|(refine st ?_;intros)|refine cq aSp ?_)
  (refine Dn.post (Hr:=[[(b,aBs cs E fz)]]) Tryz.results241 (hR:= ?_);exact⟨rfl,rfl⟩)
theorem bBj (size aa:Int) (h:8≤size∧size≤256) (ha:0≤aa):CtQ AC 224 [.int .i64 size,.int .i64 aa] [] (.bool true):=by
 obtain⟨h1,h2⟩:=h
 refine Ct.go Tryz.func224 Tryz.ntmps224 fun w0=> ?_
 repeat(refine st ?_;intros)
 (refine Dn.post (Hr:=[]) Tryz.results224 (hR:= ?_);exact⟨by first|rfl|(rw[aBf oM];rfl),rfl⟩)
def aYm (ws:List Int) (n address:Int):Int:=
 aGu .or .u64 (IntKind.u64.wrap ((n+1)*2^min (Int.toNat 32) IntKind.u64.bits)) (IntKind.u64.wrap (aVf (aVf (aRe ws) (n+1)) address))
theorem bGd (b n m cap:Nat) (aa:Int) (cs:List Value) (E:Nat) (fz:Nat×Nat) (ws:List Int) (hm:m≤256) (ad:1≤m) (ac:m≤cap) (hn:n≤256) (ha:0≤aa∧aa≤1000000000) (ab:(cs.drop 0).take (m-1)=aAg ws) (hl:ws.length=m-1):
  CtQ AC 225 [.slice (some ⟨b,0,none⟩) m cap,.int .i64 (n:Int),.int .i64 aa] [[(b,aBs cs E fz)]] (.int .u64 (aYm ws n aa)):=by
 have hS:=fun cap=>Sum_ct b 0 (m-1) cap cs E fz ws oM ab hl
 have e1:((m:Int)-1).toNat=m-1:=oM
 refine Ct.go Tryz.func225 Tryz.ntmps225 fun w0=> ?_
 repeat(first|(refine st ?_;intros)|refine cq hS ?_|refine cq aSp ?_)
 (refine Dn.post (Hr:=[[(b,aBs cs E fz)]]) Tryz.results225 (hR:= ?_);exact⟨rfl,rfl⟩)
def aHo (size:Nat) (tag:Int) (pw:List Int):List Int:=(pw++BY (size-pw.length) 0).set (size-2) tag
def aDd (size:Nat) (address tag:Int) (pw:List Int):List Int:=(aHo size tag pw).set (size-1) (aYm ((aHo size tag pw).take (size-1)) pw.length address)
theorem bOe (m:Nat):aEu m [.int .u64 0]=aAg (BY m 0):=by
 induction m with
 |zero=>rfl
 |succ m ih=>rw[aEu,ih];rfl
theorem aGw (ws:List Int) (i:Nat) (w:Int):(aAg ws).set i (.int .u64 w)=aAg (ws.set i w):=by
 unfold aAg;rw[List.map_set]
theorem setL_w {size:Nat} {pw:List Int} (h:pw.length≤size):aFm (aEu size [.int .u64 0]) 0 (aAg pw)=aAg (pw++BY (size-pw.length) 0):=by
 rw[bOe,aGb _ _ _ (by simp[aBz];exact h)]
 simp[aAg]
theorem bOf (size:Nat) (aa ab:Int) (b q m cap:Nat) (cs:List Value) (E:Nat) (fz:Nat×Nat) (pw:List Int) (hs:8≤size∧size≤256) (ha:0≤aa∧aa≤1000000000) (hm:m≤size-2) (ai:(cs.drop q).take m=aAg pw) (hl:pw.length=m):
  Ct AC 208 [.int .i64 (size:Int),.int .i64 aa,.int .u64 ab,.slice (some ⟨b,q,none⟩) m cap] [[(b,aBs cs E fz)]] fun v H'=>
   ∃bl,v= .tuple #[.slice (some ⟨bl,0,none⟩) size size,.int .i64 0]∧H'=[[(bl,row (aAg (aDd size aa ab pw)) 174)],[(b,aBs cs E fz)]]:=by
 have hR:=bBj (size:Int) aa oM ha.1
 have ac:(aHo size ab pw).length=size:=by simp[aHo];omega
 have ag:=setL_w (size:=size) (pw:=pw) oM
 have ad:(aAg (pw++BY (size-pw.length) 0)).set (size-2) (.int .u64 ab)=aAg (aHo size ab pw):=aGw (pw++BY (size-pw.length) 0) (size-2) ab
 have hL:=fun bl=>bGd bl m size size aa (aAg (aHo size ab pw)) 174 (0,0) ((aHo size ab pw).take (size-1)) oM oM (AG _) oM ha (by simp[aAg,List.map_take]) (by simp[ac])
 have ae:(aAg (aHo size ab pw)).set (size-1) (.int .u64 (aYm ((aHo size ab pw).take (size-1)) m aa))=aAg (aDd size aa ab pw):=by unfold aDd;rw[aGw,hl]
 have e1:((size:Int)-2).toNat=size-2:=oM
 have e2:((size:Int)-1).toNat=size-1:=oM
 have ah:Nat.min m size=m:=Nat.min_eq_left oM
 have aj:(aAg pw).length=m:=by rw[aBz,hl]
 have ak:=aLy pw
 have al:(aEu size [Value.int .u64 0]).length=size:=by rw[aCk];simp
 refine Ct.go Tryz.func208 Tryz.ntmps208 fun w0=> ?_
 repeat(first|(refine st ?_;intros)|refine cq hR ?_|refine cq hL ?_)
 rename_i bl
 (refine Dn.post (Hr:=[[(bl,row (aAg (aDd size aa ab pw)) 174)],[(b,aBs cs E fz)]]) Tryz.results208 (hR:= ?_);exact⟨bl,rfl,rfl⟩)
theorem aYn (x:Int):CtQ AC 230 [.int .u64 x] [] (.bool (dec (x≠0))):=by
 refine Ct.go Tryz.func230 Tryz.ntmps230 fun w0=> ?_
 repeat(refine st ?_;intros)
 (refine Dn.post (Hr:=[]) Tryz.results230 (hR:= ?_);exact⟨rfl,rfl⟩)
theorem bGe (b off n cap:Nat) (cs:List Value) (E:Nat) (fz:Nat×Nat) (ws:List Int) (hm:n≤1000000) (ab:(cs.drop off).take n=aAg ws) (hl:ws.length=n) (hz:∀w∈ws,w=0):
  CtQ AC 242 [.slice (some ⟨b,off,none⟩) n cap,.func (.func 230) #[] #[]] [[(b,aBs cs E fz)]] (.int .i64 (-1)):=by
 refine Ct.go Tryz.func242 Tryz.ntmps242 fun w0=> ?_
 repeat(first|(refine st ?_;intros)|refine cq aYn ?_)
 refine G.loop (X:=Nat) (fun i=>i≤n) (fun i=>[(8,.int .i64 (i:Int)),(7,.int .i64 (n:Int)),(0,.slice (some ⟨b,off,none⟩) n cap),(1,.func (.func 230) #[] #[])]) (fun _=>[[(b,aBs cs E fz)]]) (fun i=>n-i) 0 oM (body:= ?_)
 intro i hi
 by_cases h9:i<n
 ·have hg:=aVg ab hl h9
  have h0:ws.getD i 0=0:=by
   have aa:i<ws.length:=oM
   rw[AN,AE aa]
   exact hz _ (List.getElem_mem aa)
  rw[h0] at hg
  repeat(first|(refine st ?_;intros)|refine cq aYn ?_)
  exact Dn.round (i+1) oM oM
 ·repeat(first|(refine st ?_;intros)|refine cq aYn ?_)
  (refine Dn.post (Hr:=[[(b,aBs cs E fz)]]) Tryz.results242 (hR:= ?_);exact⟨rfl,rfl⟩)
theorem aVh (b off n cap:Nat) (cs:List Value) (E:Nat) (fz:Nat×Nat) (ws:List Int) (hm:n≤1000000) (aa:(cs.drop off).take n=aAg ws) (hl:ws.length=n) (hz:∀w∈ws,w=0):
  CtQ AC 229 [.slice (some ⟨b,off,none⟩) n cap,.func (.func 230) #[] #[]] [[(b,aBs cs E fz)]] (.bool false):=by
 have hI:=bGe b off n cap cs E fz ws hm aa hl hz
 refine Ct.go Tryz.func229 Tryz.ntmps229 fun w0=> ?_
 repeat(first|(refine st ?_;intros)|refine cq hI ?_)
 (refine Dn.post (Hr:=[[(b,aBs cs E fz)]]) Tryz.results229 (hR:= ?_);exact⟨by rw[aBu oA14];rfl,rfl⟩)
theorem bDn (s x:Int):0≤aVf s x∧aVf s x<4294967296:=by
 unfold aVf aFz aGu
 simp only[AJ,IntKind.bits,IntKind.signed,Bool.false_and]
 simp
 omega
theorem bGf (ws:List Int) (n:Nat) (a:Int) (hn:n≤256):(aYm ws n a).fdiv (2^min (Int.toNat 32) IntKind.u64.bits)=(n:Int)+1:=by
 unfold aYm
 have hc:=bDn (aVf (aRe ws) ((n:Int)+1)) a
 generalize aVf (aVf (aRe ws) ((n:Int)+1)) a=c at hc
 obtain⟨c,rfl⟩:∃k:Nat,c=(k:Int):=⟨c.toNat,oM⟩
 have e0:(2:Int)^min (Int.toNat 32) IntKind.u64.bits=4294967296:=by decide
 rw[e0,aCe oM,aCe oM]
 have e1:((n:Int)+1)*4294967296=(((n+1)*4294967296:Nat):Int):=oM
 rw[e1]
 have e3:aGu .or .u64 (((n+1)*4294967296:Nat):Int) (c:Int)=IntKind.u64.wrap ((BitVec.ofInt 64 (((n+1)*4294967296:Nat):Int)|||BitVec.ofInt 64 (c:Int)).toNat:Int):=rfl
 rw[e3,BitVec.toNat_or,BitVec.ofInt_natCast,BitVec.ofInt_natCast,BitVec.toNat_ofNat,BitVec.toNat_ofNat]
 rw[Nat.mod_eq_of_lt oM,Nat.mod_eq_of_lt oM]
 have e2:(n+1)*4294967296|||c=(n+1)*4294967296+c:=by
  have:=Nat.shiftLeft_add_eq_or_of_lt (a:=n+1) (b:=c) (i:=32) oM
  rw[Nat.shiftLeft_eq] at this
  exact this.symm
 rw[e2,aCe oM]
 rw[Int.fdiv_eq_ediv_of_nonneg _ oA14]
 omega
theorem aIh (size:Nat) (aa ab:Int) (pw:List Int) (h:pw.length≤size):(aDd size aa ab pw).length=size:=by simp[aDd,aHo];omega
theorem aRf (size:Nat) (aa ab:Int) (pw:List Int):(aDd size aa ab pw).take (size-1)=(aHo size ab pw).take (size-1):=by
 unfold aDd
 rw[List.take_set_of_le (AG _)]
theorem bDo (size:Nat) (aa ab:Int) (pw:List Int) (hs:8≤size) (h:pw.length≤size-2):(aDd size aa ab pw).getD (size-1) 0=aYm ((aHo size ab pw).take (size-1)) pw.length aa:=by
 have:(aHo size ab pw).length=size:=by simp[aHo];omega
 simp[aDd,AN,this,show size-1<size by omega]
theorem aVi (size:Nat) (aa ab:Int) (pw:List Int) (hs:8≤size) (h:pw.length≤size-2) (i:Nat) (hi:i<size-2):(aDd size aa ab pw).getD i 0=pw.getD i 0:=by
 unfold aDd aHo
 simp only[AN]
 rw[DC oM,DC oM,List.getElem?_append]
 split
 ·rfl
 ·rename_i hh
  rw[List.getElem?_replicate,if_pos oM,BL oM]
  rfl
theorem bGg (size:Nat) (aa ab:Int) (pw:List Int) (hs:8≤size) (h:pw.length≤size-2):(aDd size aa ab pw).getD (size-2) 0=ab:=by
 unfold aDd aHo
 simp only[AN]
 rw[DC oM,List.getElem?_set_self oA12]
 rfl
theorem w_get {ws:List Int} {rest:List Value} {i:Nat} {v:Int} (hi:i<ws.length) (h:ws.getD i 0=v):(aAg ws++rest)[i]? =some (.int .u64 v):=by
 rw[List.getElem?_append_left (by simpa using hi)]
 rw[AN,AE hi] at h
 simp only[Option.getD_some] at h
 simp[aAg,AE hi,h]
theorem bOg {ws:List Int} {rest:List Value} {k:Nat} (hk:k≤ws.length):((aAg ws++rest).drop 0).take k=aAg (ws.take k):=by
 rw[CT,CR (by simpa using hk)]
 simp[aAg,List.map_take]
theorem w_drop {ws:List Int} {rest:List Value} {a k:Nat} (hk:a+k≤ws.length):((aAg ws++rest).drop a).take k=aAg ((ws.drop a).take k):=by
 rw[List.drop_append_of_le_length oA12,CR oA12]
 simp[aAg,List.map_take,List.map_drop]
theorem Get_ct (size aa ab:Nat) (pw:List Int) (b cap:Nat) (rest:List Value) (E:Nat) (hs:8≤size∧size≤256) (ad:size≤cap) (ha:aa≤1000000000) (n:Nat) (hn:n=pw.length) (h1:1≤n) (h2:n≤size-2):
  Ct AC 211 [.slice (some ⟨b,0,none⟩) size cap,.int .i64 (aa:Int)] [[(b,row (aAg (aDd size aa ab pw)++rest) E)]] fun v H'=>
   ∃p cap' c',v= .tuple #[.slice p n cap',.int .u64 (ab:Int),.int .i64 0]∧Vec 174 1 p n cap' (aAg pw) c'∧H'=[c',[(b,row (aAg (aDd size aa ab pw)++rest) E)]]:=by
 subst hn
 obtain⟨ac,ak⟩:=hs
 have hR:=bBj (size:Int) (aa:Int) oM oM
 have ah:=aIh size aa ab pw oM
 have ag:=w_get (rest:=rest) oM (bDo size aa ab pw ac h2)
 have ai:=w_get (rest:=rest) oM (bGg size aa ab pw ac h2)
 have hL:=bGd b pw.length size cap (aa:Int) (aAg (aDd size aa ab pw)++rest) E (0,0) ((aHo size ab pw).take (size-1)) oM oM ad oM oM
  (by rw[←aRf size aa ab pw];exact bOg oM) (by rw[←aRf size aa ab pw];simp;omega)
 have ae:=aVh b pw.length (size-2-pw.length) (cap-pw.length) (aAg (aDd size aa ab pw)++rest) E (0,0) (((aDd size aa ab pw).drop pw.length).take (size-2-pw.length)) oM (w_drop oM) oA12 (by
  intro w hw
  obtain⟨i,hi⟩:=List.getElem?_of_mem hw
  rw[BW] at hi
  split at hi
  ·rw[BR] at hi
   have:=aVi size aa ab pw ac h2 (pw.length+i) oM
   rw[AN,hi,AN,BL oM] at this
   simpa using this
  ·cases hi)
 have hC:=aOt b 0 pw.length cap (aAg (aDd size aa ab pw)++rest) E (0,0) pw h1 oM (by
  rw[bOg oM]
  congr 1
  apply List.ext_getElem
  ·simp;omega
  ·intro i i1 i2
   have:=aVi size aa ab pw ac h2 i oM
   simp only[AN,AE i2] at this
   rw[AE oM] at this
   simpa using this) rfl
 have aj:=bGf ((aHo size ab pw).take (size-1)) pw.length (aa:Int) oM
 generalize aYm ((aHo size ab pw).take (size-1)) pw.length (aa:Int)=lw at*
 have e1:((size:Int)-1).toNat=size-1:=oM
 have e2:((size:Int)-2).toNat=size-2:=oM
 have e3:((pw.length:Int)+1-1)=(pw.length:Int):=oM
 have e4:(((pw.length:Int)+1)-1).toNat=pw.length:=oM
 have e5:AJ .i64 ((pw.length:Int)+1-1)=(pw.length:Int):=by rw[e3];exact aAd oM
 have e6:dec (lw≠lw)=false:=aBu oA15
 generalize aAg (aDd size aa ab pw)++rest=cells at*
 refine Ct.go Tryz.func211 Tryz.ntmps211 fun w0=> ?_
 repeat(first|(refine st ?_;intros)|refine G.draw (id:=5) [(17,.quiet),(26,.quiet)] (h:= ?_)|refine G.drawOrd (id:=7) [0,1,2,4,5,6,7,8,3,9,10,11] [(3,.eff [8])] (h:= ?_)|refine cq hR ?_|refine cq hL ?_|refine cq ae ?_)
 refine R.callX (hct:=hC) (h:= ?_)
 rintro _ _ ⟨p,cap',c',rfl,hV,rfl⟩
 try dsimp only[AA,AB]
 refine nx ?_
 repeat(first|(refine st ?_;intros)|refine G.draw (id:=5) [(17,.quiet),(26,.quiet)] (h:= ?_)|refine G.drawOrd (id:=7) [0,1,2,4,5,6,7,8,3,9,10,11] [(3,.eff [8])] (h:= ?_)|refine cq hR ?_|refine cq hL ?_|refine cq ae ?_)
 (refine Dn.post (Hr:=[c',[(b,row cells E)]]) Tryz.results211 (hR:= ?_);exact⟨p,cap',c',rfl,hV,rfl⟩)
def aBl (size blocks:Nat) (bl bn:Nat) (pp:Option Addr) (np cp:Nat) (fault:Int) (acts:Nat):List Value:=
 [.int .i64 (size:Int),.int .i64 (blocks:Int),.map (some bl),.map (some bn),.slice pp np cp,.int .i64 (-1),.int .i64 fault,.bool false,.int .i64 (acts:Int)]
section
variable (bd size blocks bl bn:Nat) (pp:Option Addr) (np cp:Nat) (fault:Int) (acts:Nat)
theorem aJc:CtQ AC 226 [.pointer (some ⟨bd,0,none⟩)] [[(bd,row (aBl size blocks bl bn pp np cp fault acts) 116)]] (.bool false):=by
 unfold aBl
 refine Ct.go Tryz.func226 Tryz.ntmps226 fun w0=> ?_
 repeat(refine st ?_;intros)
 (refine Dn.post (Hr:=[[(bd,row [.int .i64 (size:Int),.int .i64 (blocks:Int),.map (some bl),.map (some bn),.slice pp np cp,.int .i64 (-1),.int .i64 fault,.bool false,.int .i64 (acts:Int)] 116)]]) Tryz.results226 (hR:= ?_);exact⟨rfl,rfl⟩)
theorem aVj:Ct AC 227 [.pointer (some ⟨bd,0,none⟩)] [[(bd,row (aBl size blocks bl bn pp np cp 0 acts) 116)]] fun v H'=>
  v= .int .i64 6∧H'=[[(bd,row (aBl size blocks bl bn pp np cp (-1) acts) 116)]]:=by
 unfold aBl
 refine Ct.go Tryz.func227 Tryz.ntmps227 fun w0=> ?_
 repeat(refine st ?_;intros)
 (refine Dn.post (Hr:=[[(bd,row [.int .i64 (size:Int),.int .i64 (blocks:Int),.map (some bl),.map (some bn),.slice pp np cp,.int .i64 (-1),.int .i64 (-1),.bool false,.int .i64 (acts:Int)] 116)]]) Tryz.results227 (hR:= ?_);exact⟨rfl,rfl⟩)
def aVk (fault:Int):Int:=if 0<fault then fault-1 else fault
theorem bOh (hf:fault≠0) (hb: -1≤fault∧fault≤1000000000) (ha:acts≤1000000000000):Ct AC 227 [.pointer (some ⟨bd,0,none⟩)] [[(bd,row (aBl size blocks bl bn pp np cp fault acts) 116)]] fun v H'=>
  v= .int .i64 0∧H'=[[(bd,row (aBl size blocks bl bn pp np cp (aVk fault) (acts+1)) 116)]]:=by
 unfold aBl aVk
 by_cases h0:0<fault
 ·rw[if_pos h0]
  refine Ct.go Tryz.func227 Tryz.ntmps227 fun w0=> ?_
  repeat(refine st ?_;intros)
  (refine Dn.post (Hr:=[[(bd,row [.int .i64 (size:Int),.int .i64 (blocks:Int),.map (some bl),.map (some bn),.slice pp np cp,.int .i64 (-1),.int .i64 (fault-1),.bool false,.int .i64 ((acts:Int)+1)] 116)]]) Tryz.results227 (hR:= ?_);exact⟨rfl,rfl⟩)
 ·rw[if_neg h0]
  refine Ct.go Tryz.func227 Tryz.ntmps227 fun w0=> ?_
  repeat(refine st ?_;intros)
  (refine Dn.post (Hr:=[[(bd,row [.int .i64 (size:Int),.int .i64 (blocks:Int),.map (some bl),.map (some bn),.slice pp np cp,.int .i64 (-1),.int .i64 fault,.bool false,.int .i64 ((acts:Int)+1)] 116)]]) Tryz.results227 (hR:= ?_);exact⟨rfl,rfl⟩)
end
theorem aVl (size blocks:Nat) (hs:8≤size∧size≤256) (hb:blocks≤1000000):Ct AC 46 [.int .i64 (size:Int),.int .i64 (blocks:Int)] [] fun v H'=>
  ∃bd bl bn,v= .tuple #[.pointer (some ⟨bd,0,none⟩),.int .i64 0]∧H'=[[(bd,row (aBl size blocks bl bn none 0 0 (-1) 0) 116)],[(bn,.map #[] 0)]]:=by
 refine Ct.go Tryz.func46 Tryz.ntmps46 fun w0=> ?_
 repeat(refine st ?_;intros)
 rename_i bl bn bd
 (refine Dn.post (Hr:=[[(bd,row (aBl size blocks bl bn none 0 0 (-1) 0) 116)],[(bn,.map #[] 0)]]) Tryz.results46 (hR:= ?_);exact⟨bd,bl,bn,rfl,rfl⟩)
structure Db where
 key:Nat
 p:Option Addr
 cap:Nat
 ws:List Int
 born:Nat
 ch:aAc
def Db.ent (size:Nat) (e:Db):Ent Int:=⟨(e.key:Int),.slice e.p size e.cap,e.born⟩
def Db.ok (size:Nat) (e:Db):Prop:=Vec 174 1 e.p size e.cap (aAg e.ws) e.ch
def aNq:List Db→Nat→Option (List Int)
 |[],_=>none
 |e::es,i=>if e.key=i then some e.ws else aNq es i
def aHx (d:Nat→Option (List Int)) (i:Nat) (ws:List Int):Nat→Option (List Int):=fun j=>if j=i then some ws else d j
def chs (es:List Db):aAc:=(es.map (·.ch)).flatten
theorem aYo (size i:Nat):∀(es:List Db) (j:Nat),aFd (i:Int) (es.map (Db.ent size)) j=none∧aNq es i=none∨
  ∃l1 e l2,es=l1++e::l2∧e.key=i∧aNq es i=some e.ws∧aFd (i:Int) (es.map (Db.ent size)) j=some (j+l1.length,.slice e.p size e.cap)∧∀x,(∀k,aNq (l1++x::l2) k=if x.key=i∧k=i then some x.ws else if x.key=i then aNq es k else aNq (l1++x::l2) k)
 |[],_=> .inl ⟨rfl,rfl⟩
 |e::es,j=>by
  by_cases h:e.key=i
  ·refine .inr ⟨[],e,es,rfl,h,by simp[aNq,h],?_,fun x k=> ?_⟩
   ·simp[aFd,Db.ent,h]
   ·by_cases hx:x.key=i
    ·by_cases hk:k=i
     ·simp[aNq,hx,hk]
     ·have:¬i=k:=fun e=>hk e.symm
      simp[aNq,hx,hk,h,this]
    ·simp[hx]
  ·have ab:¬((i:Int)=(e.key:Int)):=oM
   rcases aYo size i es (j+1) with⟨h1,h2⟩|⟨l1,e',l2,h1,h2,h3,h4,h5⟩
   ·refine .inl ⟨?_,?_⟩
    ·simp only[AZ,aFd]
     have aa:¬((i:Int)=(Db.ent size e).key):=ab
     rw[if_neg aa];exact h1
    ·simp[aNq,h,h2]
   ·refine .inr ⟨e::l1,e',l2,by rw[h1];rfl,h2,by simp only[aNq,if_neg h,h3],?_,fun x k=> ?_⟩
    ·simp only[AZ,aFd]
     have aa:¬((i:Int)=(Db.ent size e).key):=ab
     rw[if_neg aa]
     simp only[AL]
     rw[h4,Nat.add_assoc,Nat.add_comm 1]
    ·have:=h5 x k
     simp only[AA,aNq]
     by_cases hk:e.key=k
     ·have ac:¬k=i:=fun hh=>h (hk.trans hh)
      simp[hk,ac]
     ·simp only[if_neg hk]
      exact this
theorem set_db (size i:Nat) (p:Option Addr) (cap:Nat) (ws:List Int) (ch:aAc) (ck:Nat) (es:List Db):∃es2 ck2 old born,
  bDi (i:Int) (.slice p size cap) (es.map (Db.ent size)) ck=(es2.map (Db.ent size),ck2)∧(∀k,aNq es2 k=aHx (aNq es) i ws k)∧
  (chs es++ch).Perm (chs es2++old)∧∀e∈es2,e∈es∨e=⟨i,p,cap,ws,born,ch⟩:=by
 rcases aYo size i es 0 with⟨h1,h2⟩|⟨l1,e,l2,rfl,h2,h3,h4,h5⟩
 ·refine⟨es++[⟨i,p,cap,ws,ck,ch⟩],ck+1,[],ck,?_,?_,?_,?_⟩
  ·simp[bDi,h1,Db.ent]
  ·intro k
   have:∀(es:List Db),aNq es i=none→aNq (es++[⟨i,p,cap,ws,ck,ch⟩]) k=aHx (aNq es) i ws k:=by
    intro es
    induction es with
    |nil=>
     intro _
     by_cases hk:k=i
     ·simp[aNq,aHx,hk]
     ·have:¬i=k:=fun e=>hk e.symm
      simp[aNq,aHx,hk,this]
    |cons e es ih=>
     intro h
     simp only[aNq] at h
     split at h
     ·cases h
     ·rename_i hn
      have:=ih h
      simp only[AA,aNq,aHx] at this⊢
      split
      ·rename_i hk
       rw[if_neg (fun hh=>hn (hk.trans hh))]
      ·exact this
   exact this es h2
  ·simp[chs]
  ·intro e he
   rcases AO.1 he with h|h
   ·exact .inl h
   ·exact .inr oA11
 ·refine⟨l1++⟨i,p,cap,ws,e.born,ch⟩::l2,ck,e.ch,e.born,?_,?_,?_,?_⟩
  ·simp only[bDi,h4,BT]
   refine Prod.ext ?_ rfl
   simp only[AX,AZ]
   have hm:∀(l1:List (Ent Int)) (x:Ent Int) (l2:List (Ent Int)) (f:Ent Int→Ent Int),(l1++x::l2).modify l1.length f=l1++f x::l2:=by
    intro l1 x l2 f
    induction l1 with
    |nil=>rfl
    |cons y l1 ih=>simp[ih]
   have:=hm (l1.map (Db.ent size)) (e.ent size) (l2.map (Db.ent size)) fun e=>{e with val:= .slice p size cap}
   rw[AY] at this
   rw[this]
   simp[Db.ent,h2]
  ·intro k
   rw[h5 ⟨i,p,cap,ws,e.born,ch⟩ k]
   simp[aHx]
  ·simp only[chs,AX,AZ,List.flatten_append,AW,AP]
   refine BE _ ?_
   refine B3.trans ?_
   rw[←AP]
   exact DB _ B3
  ·intro x hx
   rcases AO.1 hx with h|h
   ·exact .inl (List.mem_append_left _ h)
   ·rcases AM.1 h with rfl|h
    ·exact .inr rfl
    ·exact .inl (List.mem_append_right _ (AI _ h))
structure Dv where
 size:Nat
 blocks:Nat
 disk:Nat→Option (List Int)
 fault:Int
 acts:Nat
def aEc (bd:Nat) (δ:Dv) (c:aAc):Prop:=
 ∃bl bn pp np cp xs pc es ck aa,c=(bd,row (aBl δ.size δ.blocks bl bn pp np cp δ.fault δ.acts) 116)::(bn,aEn aMx (es.map (Db.ent δ.size)) ck)::(pc++(chs es++aa))∧
  Vec 231 2 pp np cp xs pc∧(∀e∈es,e.ok δ.size)∧(∀i,aNq es i=δ.disk i)∧np≤δ.acts∧(8≤δ.size∧δ.size≤256)∧δ.blocks≤1000000∧(-1≤δ.fault∧δ.fault≤1000000000)
theorem aGq (bd:Nat) (δ:Dv) (c:aAc) (h:aEc bd δ c):CtQ AC 107 [.pointer (some ⟨bd,0,none⟩)] [c] (.int .i64 (δ.size:Int)):=by
 obtain⟨bl,bn,pp,np,cp,xs,pc,es,ck,aa,rfl,_⟩:=h
 refine CtQ.conv (H2:=[[(bd,row (aBl δ.size δ.blocks bl bn pp np cp δ.fault δ.acts) 116)],(bn,aEn aMx (es.map (Db.ent δ.size)) ck)::(pc++(chs es++aa))]) ?_ rfl
 unfold aBl
 refine Ct.go Tryz.func107 Tryz.ntmps107 fun w0=> ?_
 repeat(refine st ?_;intros)
 (refine Dn.post (Hr:=[[(bd,row [.int .i64 (δ.size:Int),.int .i64 (δ.blocks:Int),.map (some bl),.map (some bn),.slice pp np cp,.int .i64 (-1),.int .i64 δ.fault,.bool false,.int .i64 (δ.acts:Int)] 116)],(bn,aEn aMx (es.map (Db.ent δ.size)) ck)::(pc++(chs es++aa))]) Tryz.results107 (hR:= ?_);exact⟨rfl,rfl⟩)
def Dv.acted (δ:Dv):Dv:={δ with fault:=aVk δ.fault,acts:=δ.acts+1}
def Dv.failed (δ:Dv):Dv:={δ with fault:= -1}
def Dv.wrote (δ:Dv) (i:Nat) (ws:List Int):Dv:={δ with fault:=aVk δ.fault,acts:=δ.acts+1,disk:=aHx δ.disk i ws}
theorem aRg {f:Int} (h: -1≤f∧f≤1000000000): -1≤aVk f∧aVk f≤1000000000:=by unfold aVk;split<;>omega
theorem bLi (bd:Nat) (δ:Dv) (c:aAc) (h:aEc bd δ c) (i:Nat) (hi:i<δ.blocks) (hf:δ.fault≠0) (ha:δ.acts≤1000000000000) (b off cap:Nat) (cs:List Value) (E:Nat) (fz:Nat×Nat) (ws:List Int)
  (ap:(cs.drop off).take δ.size=aAg ws) (hl:ws.length=δ.size):
  Ct AC 209 [.pointer (some ⟨bd,0,none⟩),.int .i64 (i:Int),.slice (some ⟨b,off,none⟩) δ.size cap] [c,[(b,aBs cs E fz)]] fun v H'=>
   ∃c',v= .int .i64 0∧aEc bd (δ.wrote i ws) c'∧H'=[c',[(b,aBs cs E fz)]]:=by
 obtain⟨bl,bn,pp,np,cp,xs,pc,es,ck,ac,rfl,hV,aq,au,ax,av,aw,ao⟩:=h
 have hD:=aJc bd δ.size δ.blocks bl bn pp np cp δ.fault δ.acts
 have hA:=bOh bd δ.size δ.blocks bl bn pp np cp δ.fault δ.acts hf ao ha
 have hC:=aOt b off δ.size cap cs E fz ws oM oM ap hl
 unfold aBl at hD hA
 refine Ct.conv (H2:=[[(bd,row (aBl δ.size δ.blocks bl bn pp np cp δ.fault δ.acts) 116)],[(bn,aEn aMx (es.map (Db.ent δ.size)) ck)],pc,chs es++ac,[(b,aBs cs E fz)]])
  (R2:=fun v H'=>v= .int .i64 0∧∃p aa c' ab ad p' ae ag,H'=[[(bd,row (aBl δ.size δ.blocks bl bn p' (np+1) ae (aVk δ.fault) (δ.acts+1)) 116)],[(bn,aEn aMx (ab.map (Db.ent δ.size)) ad)],ag,chs es++ac,c',[(b,aBs cs E fz)]]∧
   Vec 174 1 p δ.size aa (aAg ws) c'∧bDi (i:Int) (.slice p δ.size aa) (es.map (Db.ent δ.size)) ck=(ab.map (Db.ent δ.size),ad)∧(∀k,aNq ab k=aHx (aNq es) i ws k)∧(∃al,Vec 231 2 p' (np+1) ae al ag)∧
   (∃old born,(chs es++c').Perm (chs ab++old)∧∀e∈ab,e∈es∨e=⟨i,p,aa,ws,born,c'⟩)) ?_ oA15 ?_
 ·unfold aBl
  refine Ct.go Tryz.func209 Tryz.ntmps209 fun w0=> ?_
  repeat(first|(refine st ?_;intros)|refine cq hD ?_|refine cq hC ?_|refine cq hA ?_)
  refine R.call (hct:=hA) (h:= ?_)
  rintro _ _ ⟨rfl,rfl⟩
  try dsimp only[AA,AB]
  repeat(first|(refine st ?_;intros)|refine cq hD ?_|refine cq hC ?_|refine cq hA ?_)
  refine R.call (hct:=hC) (h:= ?_)
  rintro _ _ ⟨p,aa,c',rfl,am,rfl⟩
  try dsimp only[AA,AB]
  repeat(first|(refine st ?_;intros)|refine cq hD ?_|refine cq hC ?_|refine cq hA ?_)
  obtain⟨ab,ad,old,born,ai,aj,ah,ak⟩:=set_db δ.size i p aa ws c' ck es
  apply R.mapUpdate (K:=Int) (mk:=aMx) (es:=es.map (Db.ent δ.size)) (ck:=ck) (key:=(i:Int)) (es':=ab.map (Db.ent δ.size)) (ck':=ad)
  ·exact rfl
  ·repeat(first|exact Has.here|apply Has.there)
  ·exact rfl
  ·exact rfl
  ·exact aFq.int rfl
  ·exact ai
  ·repeat(first|exact Upd.here|apply Upd.there)
  ·exact rfl
  repeat(first|(refine st ?_;intros)|refine cq hD ?_|refine cq hC ?_|refine cq hA ?_)
  rename_i p' ae ag an
  (refine Dn.post (Hr:=[[(bd,row [.int .i64 (δ.size:Int),.int .i64 (δ.blocks:Int),.map (some bl),.map (some bn),.slice p' (np+1) ae,.int .i64 (-1),.int .i64 (aVk δ.fault),.bool false,.int .i64 ((δ.acts+1:Nat):Int)] 116)],[(bn,aEn aMx (ab.map (Db.ent δ.size)) ad)],ag,chs es++ac,c',[(b,aBs cs E fz)]]) Tryz.results209 (hR:= ?_);
   exact⟨rfl,p,aa,c',ab,ad,p',ae,ag,rfl,am,ai,aj,⟨_,an⟩,old,born,ah,ak⟩)
 ·rintro v H' ⟨rfl,p,aa,c',ab,ad,p',ae,ag,rfl,am,ai,aj,⟨al,an⟩,old,born,ah,ak⟩
  refine⟨_,⟨_,rfl,⟨bl,bn,p',np+1,ae,al,ag,ab,ad,old++ac,rfl,an,?_,?_,?_,av,aw,aRg ao⟩,rfl⟩,?_⟩
  ·intro e he
   rcases ak e he with h|rfl
   ·exact aq e h
   ·exact am
  ·intro k
   rw[aj]
   simp only[Dv.wrote,aHx,au]
  ·simp only[Dv.wrote];omega
  ·simp only[AW,A5,AQ,AA,AB]
   refine List.Perm.cons _ (List.Perm.cons _ ?_)
   simp only[AP]
   refine BE _ ?_
   rw[←AP,←AP,←AP,←AP]
   refine DB _ ?_
   refine List.Perm.trans ?_ (ah.append_right ac)
   simp only[AP]
   exact BE _ B3
theorem aYp (bd:Nat) (δ:Dv) (c:aAc) (h:aEc bd δ c) (i:Nat) (hi:i<δ.blocks) (hf:δ.fault=0) (b off cap:Nat) (cs:List Value) (E:Nat) (fz:Nat×Nat):
  Ct AC 209 [.pointer (some ⟨bd,0,none⟩),.int .i64 (i:Int),.slice (some ⟨b,off,none⟩) δ.size cap] [c,[(b,aBs cs E fz)]] fun v H'=>
   ∃c',v= .int .i64 6∧aEc bd δ.failed c'∧H'=[c',[(b,aBs cs E fz)]]:=by
 obtain⟨bl,bn,pp,np,cp,xs,pc,es,ck,aa,rfl,hV,ab,ac,ad,ae,ag,ah⟩:=h
 have hD:=aJc bd δ.size δ.blocks bl bn pp np cp δ.fault δ.acts
 have hA:=aVj bd δ.size δ.blocks bl bn pp np cp δ.acts
 rw[←hf] at hA
 unfold aBl at hD hA
 refine Ct.conv (H2:=[[(bd,row (aBl δ.size δ.blocks bl bn pp np cp δ.fault δ.acts) 116)],[(bn,aEn aMx (es.map (Db.ent δ.size)) ck)],pc,chs es++aa,[(b,aBs cs E fz)]])
  (R2:=fun v H'=>v= .int .i64 6∧H'=[[(bd,row (aBl δ.size δ.blocks bl bn pp np cp (-1) δ.acts) 116)],[(bn,aEn aMx (es.map (Db.ent δ.size)) ck)],pc,chs es++aa,[(b,aBs cs E fz)]]) ?_ oA15 ?_
 ·unfold aBl
  refine Ct.go Tryz.func209 Tryz.ntmps209 fun w0=> ?_
  repeat(first|(refine st ?_;intros)|refine cq hD ?_|refine cq hA ?_)
  refine R.call (hct:=hA) (h:= ?_)
  rintro _ _ ⟨rfl,rfl⟩
  try dsimp only[AA,AB]
  repeat(first|(refine st ?_;intros)|refine cq hD ?_|refine cq hA ?_)
  (refine Dn.post (Hr:=[[(bd,row [.int .i64 (δ.size:Int),.int .i64 (δ.blocks:Int),.map (some bl),.map (some bn),.slice pp np cp,.int .i64 (-1),.int .i64 (-1),.bool false,.int .i64 (δ.acts:Int)] 116)],[(bn,aEn aMx (es.map (Db.ent δ.size)) ck)],pc,chs es++aa,[(b,aBs cs E fz)]]) Tryz.results209 (hR:= ?_);exact⟨rfl,rfl⟩)
 ·rintro v H' ⟨rfl,rfl⟩
  exact⟨_,⟨_,rfl,⟨bl,bn,pp,np,cp,xs,pc,es,ck,aa,rfl,hV,ab,ac,ad,ae,ag,(by decide:(-1:Int)≤-1∧(-1:Int)≤1000000000)⟩,rfl⟩,by simp[Dv.failed]⟩
theorem bDp (bd:Nat) (δ:Dv) (c:aAc) (h:aEc bd δ c) (i:Nat) (hi:i<δ.blocks) (hf:δ.fault=0):
  Ct AC 210 [.pointer (some ⟨bd,0,none⟩),.int .i64 (i:Int)] [c] fun v H'=>
   ∃c',v= .tuple #[.slice none 0 0,.int .i64 6]∧aEc bd δ.failed c'∧H'=[c']:=by
 obtain⟨bl,bn,pp,np,cp,xs,pc,es,ck,aa,rfl,hV,ab,ac,ad,ae,ag,ah⟩:=h
 have hD:=aJc bd δ.size δ.blocks bl bn pp np cp δ.fault δ.acts
 have hA:=aVj bd δ.size δ.blocks bl bn pp np cp δ.acts
 rw[←hf] at hA
 unfold aBl at hD hA
 refine Ct.conv (H2:=[[(bd,row (aBl δ.size δ.blocks bl bn pp np cp δ.fault δ.acts) 116)],[(bn,aEn aMx (es.map (Db.ent δ.size)) ck)],pc,chs es++aa])
  (R2:=fun v H'=>v= .tuple #[.slice none 0 0,.int .i64 6]∧H'=[[(bd,row (aBl δ.size δ.blocks bl bn pp np cp (-1) δ.acts) 116)],[(bn,aEn aMx (es.map (Db.ent δ.size)) ck)],pc,chs es++aa]) ?_ oA15 ?_
 ·unfold aBl
  refine Ct.go Tryz.func210 Tryz.ntmps210 fun w0=> ?_
  repeat(first|(refine st ?_;intros)|refine cq hD ?_|refine cq hA ?_)
  refine R.call (hct:=hA) (h:= ?_)
  rintro _ _ ⟨rfl,rfl⟩
  try dsimp only[AA,AB]
  repeat(first|(refine st ?_;intros)|refine cq hD ?_|refine cq hA ?_)
  (refine Dn.post (Hr:=[[(bd,row [.int .i64 (δ.size:Int),.int .i64 (δ.blocks:Int),.map (some bl),.map (some bn),.slice pp np cp,.int .i64 (-1),.int .i64 (-1),.bool false,.int .i64 (δ.acts:Int)] 116)],[(bn,aEn aMx (es.map (Db.ent δ.size)) ck)],pc,chs es++aa]) Tryz.results210 (hR:= ?_);exact⟨rfl,rfl⟩)
 ·rintro v H' ⟨rfl,rfl⟩
  exact⟨_,⟨_,rfl,⟨bl,bn,pp,np,cp,xs,pc,es,ck,aa,rfl,hV,ab,ac,ad,ae,ag,(by decide:(-1:Int)≤-1∧(-1:Int)≤1000000000)⟩,rfl⟩,by simp[Dv.failed]⟩
theorem bPz (bd:Nat) (δ:Dv) (c:aAc) (h:aEc bd δ c) (i:Nat) (hi:i<δ.blocks) (hf:δ.fault≠0) (ha:δ.acts≤1000000000000) (ws:List Int) (hd:δ.disk i=some ws):
  Ct AC 210 [.pointer (some ⟨bd,0,none⟩),.int .i64 (i:Int)] [c] fun v H'=>
   ∃c' p cap' c2,v= .tuple #[.slice p δ.size cap',.int .i64 0]∧Vec 174 1 p δ.size cap' (aAg ws) c2∧aEc bd δ.acted c'∧H'=[c',c2]:=by
 obtain⟨bl,bn,pp,np,cp,xs,pc,es,ck,aa,rfl,hV,ai,ae,aq,al,am,aj⟩:=h
 have hD:=aJc bd δ.size δ.blocks bl bn pp np cp δ.fault δ.acts
 have hA:=bOh bd δ.size δ.blocks bl bn pp np cp δ.fault δ.acts hf aj ha
 unfold aBl at hD hA
 rcases aYo δ.size i es 0 with⟨h1,h2⟩|⟨l1,e,l2,he,h2,h3,h4,_⟩
 ·rw[ae,hd] at h2;cases h2
 have an:=ai e (by rw[he];simp)
 have ab:e.ws=ws:=by rw[ae,hd] at h3;simpa using h3.symm
 obtain⟨ac,ak⟩:=an
 rcases ak with⟨_,hz,_⟩|⟨be,rest,hp,ao,ap,au,av⟩
 ·omega
 rw[ab] at ac
 have ag:ws.length=δ.size:=by simpa using ac
 have hC:=aOt be 0 δ.size e.cap (aAg ws++rest) 174 (0,0) ws oM oM (by rw[CT,CR oA12,A4 oA12]) ag
 have ad:chs es=chs l1++([(be,row (aAg ws++rest) 174)]++chs l2):=by
  rw[he];simp[chs,ao,ab]
 rw[hp] at h4
 refine Ct.conv (H2:=[[(bd,row (aBl δ.size δ.blocks bl bn pp np cp δ.fault δ.acts) 116)],[(bn,aEn aMx (es.map (Db.ent δ.size)) ck)],pc,chs l1,[(be,row (aAg ws++rest) 174)],chs l2,aa])
  (R2:=fun v H'=>∃p cap' c2,v= .tuple #[.slice p δ.size cap',.int .i64 0]∧Vec 174 1 p δ.size cap' (aAg ws) c2∧H'=[[(bd,row (aBl δ.size δ.blocks bl bn pp np cp (aVk δ.fault) (δ.acts+1)) 116)],[(bn,aEn aMx (es.map (Db.ent δ.size)) ck)],pc,chs l1,[(be,row (aAg ws++rest) 174)],chs l2,aa,c2]) ?_ (by simp[ad]) ?_
 ·unfold aBl
  refine Ct.go Tryz.func210 Tryz.ntmps210 fun w0=> ?_
  repeat(first|(refine st ?_;intros)|refine cq hD ?_|refine cq hA ?_)
  refine R.call (hct:=hA) (h:= ?_)
  rintro _ _ ⟨rfl,rfl⟩
  try dsimp only[AA,AB]
  repeat(first|(refine st ?_;intros)|refine cq hD ?_|refine cq hA ?_)
  apply R.lookupT (K:=Int) (mk:=aMx) (key:=(i:Int))
  ·exact rfl
  ·repeat(first|exact Has.here|apply Has.there)
  ·exact rfl
  ·exact aFq.int rfl
  ·exact h4
  ·exact rfl
  ·exact nle rfl
  repeat(first|(refine st ?_;intros)|refine cq hD ?_|refine cq hA ?_)
  refine R.call (hct:=hC) (h:= ?_)
  rintro _ _ ⟨p,cap',c',rfl,ah,rfl⟩
  try dsimp only[AA,AB]
  repeat(first|(refine st ?_;intros)|refine cq hD ?_|refine cq hA ?_)
  (refine Dn.post (Hr:=[[(bd,row [.int .i64 (δ.size:Int),.int .i64 (δ.blocks:Int),.map (some bl),.map (some bn),.slice pp np cp,.int .i64 (-1),.int .i64 (aVk δ.fault),.bool false,.int .i64 ((δ.acts+1:Nat):Int)] 116)],[(bn,aEn aMx (es.map (Db.ent δ.size)) ck)],pc,chs l1,[(be,row (aAg ws++rest) 174)],chs l2,aa,c']) Tryz.results210 (hR:= ?_);
   exact⟨p,cap',c',rfl,ah,rfl⟩)
 ·rintro v H' ⟨p,cap',c2,rfl,ah,rfl⟩
  refine⟨_,⟨_,p,cap',c2,rfl,ah,⟨bl,bn,pp,np,cp,xs,pc,es,ck,aa,rfl,hV,ai,ae,by simp only[Dv.acted];omega,al,am,aRg aj⟩,rfl⟩,?_⟩
  simp[Dv.acted,ad]
structure Gr where
 bb:Nat
 br:Nat
 n:Nat
 born:Nat
def Gr.ent (g:Gr):Ent Nat:=⟨g.bb,.int .i64 (g.n:Int),g.born⟩
def Gr.obj (g:Gr):Nat×Obj:=(g.bb,row [.slice (some ⟨g.br,0,none⟩) g.n g.n] 177)
structure Ar where
 room:Nat
 used:Nat
 peak:Nat
 gs:List Gr
def aDl (α:Ar) (bm:Nat):List Value:=[.int .i64 (α.room:Int),.int .i64 (α.used:Int),.int .i64 (α.peak:Int),.map (some bm)]
def aEo (ba:Nat) (α:Ar) (c:aAc):Prop:=
 ∃bm ck,c=(ba,row (aDl α bm) 108)::(bm,aEn aIg (α.gs.map Gr.ent) ck)::α.gs.map Gr.obj∧α.used≤α.room∧α.room≤1000000000∧α.peak≤α.room∧α.used≤α.peak∧α.used=(α.gs.map (·.n)).sum
theorem bGh (ba:Nat) (α:Ar) (c:aAc) (h:aEo ba α c):CtQ AC 72 [.pointer (some ⟨ba,0,none⟩)] [c] (.int .i64 (α.room:Int)):=by
 obtain⟨bm,ck,rfl,_⟩:=h
 refine CtQ.conv (H2:=[[(ba,row (aDl α bm) 108)],(bm,aEn aIg (α.gs.map Gr.ent) ck)::α.gs.map Gr.obj]) ?_ rfl
 unfold aDl
 refine Ct.go Tryz.func72 Tryz.ntmps72 fun w0=> ?_
 repeat(refine st ?_;intros)
 (refine Dn.post (Hr:=[[(ba,row [.int .i64 (α.room:Int),.int .i64 (α.used:Int),.int .i64 (α.peak:Int),.map (some bm)] 108)],(bm,aEn aIg (α.gs.map Gr.ent) ck)::α.gs.map Gr.obj]) Tryz.results72 (hR:= ?_);exact⟨rfl,rfl⟩)
theorem bGi (ba:Nat) (α:Ar) (c:aAc) (h:aEo ba α c):CtQ AC 23 [.pointer (some ⟨ba,0,none⟩)] [c] (.int .i64 (α.used:Int)):=by
 obtain⟨bm,ck,rfl,_⟩:=h
 refine CtQ.conv (H2:=[[(ba,row (aDl α bm) 108)],(bm,aEn aIg (α.gs.map Gr.ent) ck)::α.gs.map Gr.obj]) ?_ rfl
 unfold aDl
 refine Ct.go Tryz.func23 Tryz.ntmps23 fun w0=> ?_
 repeat(refine st ?_;intros)
 (refine Dn.post (Hr:=[[(ba,row [.int .i64 (α.room:Int),.int .i64 (α.used:Int),.int .i64 (α.peak:Int),.map (some bm)] 108)],(bm,aEn aIg (α.gs.map Gr.ent) ck)::α.gs.map Gr.obj]) Tryz.results23 (hR:= ?_);exact⟨rfl,rfl⟩)
theorem bQa (ba:Nat) (α:Ar) (c:aAc) (h:aEo ba α c):CtQ AC 106 [.pointer (some ⟨ba,0,none⟩)] [c] (.int .i64 ((α.room:Int)-(α.used:Int))):=by
 have hR:=bGh ba α c h
 have hU:=bGi ba α c h
 obtain⟨bm,ck,_,h1,h2,_⟩:=h
 refine Ct.go Tryz.func106 Tryz.ntmps106 fun w0=> ?_
 repeat(first|(refine st ?_;intros)|refine cq hR ?_|refine cq hU ?_)
 (refine Dn.post (Hr:=[c]) Tryz.results106 (hR:= ?_);exact⟨rfl,rfl⟩)
theorem bDq (ba:Nat) (α:Ar) (c:aAc) (h:aEo ba α c) (n:Int) (hn:0≤n) (hr:(α.room:Int)-(α.used:Int)<n):CtQ AC 157 [.pointer (some ⟨ba,0,none⟩),.int .i64 n] [c] (.tuple #[.pointer none,.int .i64 7]):=by
 obtain⟨bm,ck,rfl,h1,h2,h3,h4,h5⟩:=h
 refine CtQ.conv (H2:=[[(ba,row (aDl α bm) 108)],(bm,aEn aIg (α.gs.map Gr.ent) ck)::α.gs.map Gr.obj]) ?_ rfl
 unfold aDl
 refine Ct.go Tryz.func157 Tryz.ntmps157 fun w0=> ?_
 repeat(refine sv ?_;intros)
 (refine Dn.post (Hr:=[[(ba,row [.int .i64 (α.room:Int),.int .i64 (α.used:Int),.int .i64 (α.peak:Int),.map (some bm)] 108)],(bm,aEn aIg (α.gs.map Gr.ent) ck)::α.gs.map Gr.obj]) Tryz.results157 (hR:= ?_);exact⟨rfl,rfl⟩)
def Ar.grant (α:Ar) (g:Gr):Ar:={room:=α.room,used:=α.used+g.n,peak:=max α.peak (α.used+g.n),gs:=α.gs++[g]}
theorem aRh {k:Nat}:∀(es:List (Ent Nat)) (i:Nat),(∀e∈es,e.key≠k)→aFd k es i=none
 |[],_,_=>rfl
 |e::es,i,h=>by
  unfold aFd
  rw[if_neg (fun he=>h e AH he.symm)]
  exact aRh es (i+1) fun e he=>h e (AI _ he)
theorem bLj (ba:Nat) (α:Ar) (c:aAc) (h:aEo ba α c) (n:Nat) (hn:n≤α.room-α.used):Ct AC 157 [.pointer (some ⟨ba,0,none⟩),.int .i64 (n:Int)] [c] fun v H'=>
  ∃g:Gr,∃c',g.n=n∧v= .tuple #[.pointer (some ⟨g.bb,0,none⟩),.int .i64 0]∧aEo ba (α.grant g) c'∧H'=[c',[(g.br,row (aEu n [.int .u64 0]) 174)]]:=by
 obtain⟨bm,ck,rfl,h1,h2,h3,h4,h5⟩:=h
 refine Ct.conv (H2:=[[(ba,row (aDl α bm) 108)],[(bm,aEn aIg (α.gs.map Gr.ent) ck)],α.gs.map Gr.obj]) (R2:=fun v H'=>∃bb br:Nat,v= .tuple #[.pointer (some ⟨bb,0,none⟩),.int .i64 0]∧
  H'=[[(ba,row (aDl (α.grant ⟨bb,br,n,ck⟩) bm) 108)],[(bm,aEn aIg (α.gs.map Gr.ent++[⟨bb,.int .i64 (n:Int),ck⟩]) (ck+1))],α.gs.map Gr.obj,[(bb,row [.slice (some ⟨br,0,none⟩) n n] 177)],[(br,row (aEu n [.int .u64 0]) 174)]]) ?_ oA15 ?_
 ·unfold aDl
  refine Ct.go Tryz.func157 Tryz.ntmps157 fun w0=> ?_
  repeat(refine sv ?_;intros)
  rename_i br bb
  apply R1.nodup
  ·exact rfl
  intro ab
  have aa:∀e∈α.gs.map Gr.ent,e.key≠bb:=by
   intro e he
   obtain⟨g,hg,rfl⟩:=AU.1 he
   simp only[keys,AW,A5,AQ,AA,AB,AZ,CB,AM,AU,not_or] at ab
   intro ac
   exact ab.1.2.2.2 ⟨Gr.obj g,⟨g,hg,rfl⟩,ac⟩
  apply R.mapUpdate (K:=Nat) (mk:=aIg) (es:=α.gs.map Gr.ent) (ck:=ck) (key:=bb) (es':=α.gs.map Gr.ent++[⟨bb,.int .i64 (n:Int),ck⟩]) (ck':=ck+1)
  ·exact rfl
  ·repeat(first|exact Has.here|apply Has.there)
  ·exact rfl
  ·exact rfl
  ·refine aFq.ptr ⟨_,_,Has.here⟩ fun e he=> ?_
   obtain⟨g,hg,rfl⟩:=AU.1 he
   refine⟨[.slice (some ⟨g.br,0,none⟩) g.n g.n],177,?_⟩
   apply Has.there;apply Has.there;apply Has.there;apply Has.there
   exact Has.in_ (AU.2 ⟨g,hg,rfl⟩)
  ·unfold bDi
   rw[aRh _ 0 aa]
  ·repeat(first|exact Upd.here|apply Upd.there)
  ·exact rfl
  repeat(refine sv ?_;intros)
  (refine Dn.post (Hr:=[[(ba,row [.int .i64 (α.room:Int),.int .i64 ((α.used:Int)+(n:Int)),.int .i64 (max (α.peak:Int) ((α.used:Int)+(n:Int))),.map (some bm)] 108)],[(bm,aEn aIg (α.gs.map Gr.ent++[⟨bb,.int .i64 (n:Int),ck⟩]) (ck+1))],α.gs.map Gr.obj,[(bb,row [.slice (some ⟨br,0,none⟩) n n] 177)],[(br,row (aEu n [.int .u64 0]) 174)]]) Tryz.results157 (hR:= ?_);refine⟨bb,br,rfl,?_⟩)
  have e1:((α.grant ⟨bb,br,n,ck⟩).used:Int)=(α.used:Int)+(n:Int):=by simp[Ar.grant]
  have e2:((α.grant ⟨bb,br,n,ck⟩).peak:Int)=max (α.peak:Int) ((α.used:Int)+(n:Int)):=by simp only[Ar.grant];omega
  rw[e1,e2]
  rfl
 ·rintro v H' ⟨bb,br,rfl,rfl⟩
  refine⟨_,⟨⟨bb,br,n,ck⟩,_,rfl,rfl,⟨bm,ck+1,rfl,?_,?_,?_,?_,?_⟩,rfl⟩,?_⟩
  ·simp only[Ar.grant];omega
  ·simp only[Ar.grant];omega
  ·simp only[Ar.grant];omega
  ·simp only[Ar.grant];omega
  ·simp only[Ar.grant,AX,CV];simp[h5]
  ·simp[Ar.grant,Gr.ent,Gr.obj]
theorem aVm {k:Nat} {g:Ent Nat} (hk:g.key=k):∀(es:List (Ent Nat)) (r:List (Ent Nat)) (i:Nat),(∀e∈es,e.key≠k)→aFd k (es++g::r) i=some (i+es.length,g.val)
 |[],r,i,_=>by simp[aFd,hk]
 |e::es,r,i,h=>by
  rw[AA,aFd,if_neg (fun he=>h e AH he.symm),aVm hk es r (i+1) fun e he=>h e (AI _ he)]
  simp;omega
def Ar.release (α:Ar) (g:Gr) (gs:List Gr):Ar:={room:=α.room,used:=α.used-g.n,peak:=α.peak,gs:=gs}
theorem bDr (ba:Nat) (α:Ar) (c:aAc) (h:aEo ba α c) (l1 l2:List Gr) (g:Gr) (hg:α.gs=l1++g::l2):Cb AC 160 [.pointer (some ⟨ba,0,none⟩),.pointer (some ⟨g.bb,0,none⟩)] [c] fun v H'=>
  ∃c',v= .bool true∧aEo ba (α.release g (l1++l2)) c'∧H'=[c']:=by
 obtain⟨bm,ck,rfl,h1,h2,h3,h4,h5⟩:=h
 rw[hg] at h5
 simp only[AX,AZ,CV,List.sum_cons] at h5
 refine Cb.conv (H2:=[[(ba,row (aDl α bm) 108)],[(bm,aEn aIg (l1.map Gr.ent++g.ent::l2.map Gr.ent) ck)],l1.map Gr.obj,[g.obj],l2.map Gr.obj]) (R2:=fun v H'=>v= .bool true∧
  H'=[[(ba,row (aDl (α.release g (l1++l2)) bm) 108)],[(bm,aEn aIg (l1.map Gr.ent++l2.map Gr.ent) ck)],l1.map Gr.obj,l2.map Gr.obj]) ?_ (List.Perm.of_eq (by simp[hg])) ?_
 ·unfold aDl
  obtain⟨bb,br,n,born⟩:=g
  dsimp only at h5
  simp only[Gr.ent,Gr.obj]
  refine Cb.intro Tryz.func160 rfl Tryz.ntmps160 (nle rfl) fun w0=> ?_;dsimp only[aAa,AD]
  repeat(refine st ?_;intros)
  have ae:(keys [[(ba,row [.int .i64 (α.room:Int),.int .i64 (α.used:Int),.int .i64 (α.peak:Int),.map (some bm)] 108)],[(bm,aEn aIg (l1.map Gr.ent++⟨bb,.int .i64 (n:Int),born⟩::l2.map Gr.ent) ck)],l1.map Gr.obj,[(bb,row [.slice (some ⟨br,0,none⟩) n n] 177)],l2.map Gr.obj]).Nodup→∀e∈l1.map Gr.ent,e.key≠bb:=by
   intro ab e he ag
   obtain⟨g,hg,rfl⟩:=AU.1 he
   simp only[keys,AW,A5,AQ,AA,AB,AZ,AX,CB,List.nodup_append] at ab
   exact ab.2.2.2.2 g.bb (AU.2 ⟨_,AU.2 ⟨g,hg,rfl⟩,rfl⟩) bb AH ag
  have ac:∀w0 S,aFq AC w0 S [[(ba,row [.int .i64 (α.room:Int),.int .i64 (α.used:Int),.int .i64 (α.peak:Int),.map (some bm)] 108)],[(bm,aEn aIg (l1.map Gr.ent++⟨bb,.int .i64 (n:Int),born⟩::l2.map Gr.ent) ck)],l1.map Gr.obj,[(bb,row [.slice (some ⟨br,0,none⟩) n n] 177)],l2.map Gr.obj] 163 aIg bb (l1.map Gr.ent++⟨bb,.int .i64 (n:Int),born⟩::l2.map Gr.ent):=by
   intro w0 S
   refine aFq.ptr ⟨_,_,Has.there (Has.there (Has.there Has.here))⟩ fun e he=> ?_
   rcases AO.1 he with he|he
   ·obtain⟨g,hg,rfl⟩:=AU.1 he
    exact⟨[.slice (some ⟨g.br,0,none⟩) g.n g.n],177,Has.there (Has.there (Has.in_ (AU.2 ⟨g,hg,rfl⟩)))⟩
   ·rcases AM.1 he with rfl|he
    ·exact⟨_,_,Has.there (Has.there (Has.there Has.here))⟩
    ·obtain⟨g,hg,rfl⟩:=AU.1 he
     exact⟨[.slice (some ⟨g.br,0,none⟩) g.n g.n],177,Has.there (Has.there (Has.there (Has.there (Has.in_ (AU.2 ⟨g,hg,rfl⟩)))))⟩
  apply R1.nodup
  ·exact rfl
  intro ab
  have aa:=aVm (k:=bb) (g:=⟨bb,.int .i64 (n:Int),born⟩) rfl (l1.map Gr.ent) (l2.map Gr.ent) 0 (ae ab)
  dsimp only at aa
  have ad:delE bb (l1.map Gr.ent++⟨bb,.int .i64 (n:Int),born⟩::l2.map Gr.ent)=l1.map Gr.ent++l2.map Gr.ent:=by
   unfold delE
   rw[aa]
   simp only[BT,AY]
   rw[List.eraseIdx_append_of_length_le oA15]
   simp
  apply R.lookupT (K:=Nat) (mk:=aIg) (key:=bb)
  ·exact rfl
  ·repeat(first|exact Has.here|apply Has.there)
  ·exact rfl
  ·exact ac _ _
  ·exact aa
  ·exact rfl
  ·exact nle rfl
  repeat(refine st ?_;intros)
  apply R.delete (K:=Nat) (mk:=aIg) (key:=bb)
  ·exact rfl
  ·repeat(first|exact Has.here|apply Has.there)
  ·exact rfl
  ·exact ac _ _
  ·exact ad
  ·repeat(first|exact Upd.here|apply Upd.there)
  ·exact rfl
  repeat(refine st ?_;intros)
  (refine Dn.post (Hr:=[[(ba,row [.int .i64 (α.room:Int),.int .i64 ((α.used:Int)-(n:Int)),.int .i64 (α.peak:Int),.map (some bm)] 108)],[(bm,aEn aIg (l1.map Gr.ent++l2.map Gr.ent) ck)],l1.map Gr.obj,l2.map Gr.obj]) Tryz.results160 (hR:= ?_);refine⟨rfl,?_⟩)
  have e1:((α.release ⟨bb,br,n,born⟩ (l1++l2)).used:Int)=(α.used:Int)-(n:Int):=by simp only[Ar.release];omega
  rw[e1]
  rfl
 ·rintro v H' ⟨rfl,rfl⟩
  refine⟨_,⟨_,rfl,⟨bm,ck,rfl,?_,?_,?_,?_,?_⟩,rfl⟩,?_⟩
  ·simp only[Ar.release];omega
  ·simp only[Ar.release];omega
  ·simp only[Ar.release];omega
  ·simp only[Ar.release];omega
  ·simp only[Ar.release,AX,CV];omega
  ·simp[Ar.release]
theorem bQb (ba:Nat) (α:Ar) (c:aAc) (h:aEo ba α c):CtQ AC 71 [.pointer (some ⟨ba,0,none⟩)] [c] (.int .i64 (α.peak:Int)):=by
 obtain⟨bm,ck,rfl,_⟩:=h
 refine CtQ.conv (H2:=[[(ba,row (aDl α bm) 108)],(bm,aEn aIg (α.gs.map Gr.ent) ck)::α.gs.map Gr.obj]) ?_ rfl
 unfold aDl
 refine Ct.go Tryz.func71 Tryz.ntmps71 fun w0=> ?_
 repeat(refine st ?_;intros)
 (refine Dn.post (Hr:=[[(ba,row [.int .i64 (α.room:Int),.int .i64 (α.used:Int),.int .i64 (α.peak:Int),.map (some bm)] 108)],(bm,aEn aIg (α.gs.map Gr.ent) ck)::α.gs.map Gr.obj]) Tryz.results71 (hR:= ?_);exact⟨rfl,rfl⟩)
theorem aYq (room:Nat) (hr:room≤1000000000):Ct AC 48 [.int .i64 (room:Int)] [] fun v H'=>
  ∃ba c',v= .pointer (some ⟨ba,0,none⟩)∧aEo ba ⟨room,0,0,[]⟩ c'∧H'=[c']:=by
 refine Ct.conv (H2:=[]) (R2:=fun v H'=>∃ba bm,v= .pointer (some ⟨ba,0,none⟩)∧H'=[[(ba,row [.int .i64 (room:Int),.int .i64 0,.int .i64 0,.map (some bm)] 108)],[(bm,aEn aIg [] 0)]]) ?_ rfl ?_
 ·have aa:max (room:Int) 0=(room:Int):=oM
  refine Ct.go Tryz.func48 Tryz.ntmps48 fun w0=> ?_
  repeat(refine st ?_;intros)
  rename_i bm ba
  (refine Dn.post (Hr:=[[(ba,row [.int .i64 (max (room:Int) 0),.int .i64 0,.int .i64 0,.map (some bm)] 108)],[(bm,aEn aIg [] 0)]]) Tryz.results48 (hR:= ?_);exact⟨ba,bm,rfl,by rw[aa]⟩)
 ·rintro v H' ⟨ba,bm,rfl,rfl⟩
  exact⟨_,⟨ba,_,rfl,⟨bm,0,rfl,oD,hr,oD,oD,rfl⟩,rfl⟩,by simp[aDl]⟩
end Go.Proofs.YtaofijjjheiknaaGreat
namespace Go.Tup
structure T5 where
 c0:Int
 c1:Int
 c2:Int
 c3:Int
 c4:Int
 deriving DecidableEq
def T5.toList (t:T5):List Int:=[t.c0,t.c1,t.c2,t.c3,t.c4]
def T5.col (t:T5):Nat→Int
 |0=>t.c0
 |1=>t.c1
 |2=>t.c2
 |3=>t.c3
 |4=>t.c4
 |_=>0
def fGo:List Int→Bool→(Nat→Bool)→Bool
 |[],_,_=>true
 |k::ks,over,s=>
  if(over=true∧k≠0)∨k< -5∨5<k then false
  else if k=0 then fGo ks true s
  else if s k.natAbs=true then false
  else fGo ks over (fun j=>if j=k.natAbs then true else s j)
def aGj (o:T5):Bool:=fGo o.toList false (fun _=>false)
theorem aLz:∀(l:List Int) (over:Bool) (s:Nat→Bool),fGo l over s=true→∀k∈l,-5≤k∧k≤5
 |[],_,_,_,k,hk=>by cases hk
 |x::l,over,s,h,k,hk=>by
  unfold fGo at h
  split at h
  ·cases h
  ·rename_i hb
   have hx: -5≤x∧x≤5:=oM
   rcases List.mem_cons.1 hk with rfl|hk
   ·exact hx
   ·split at h
    ·exact aLz l _ _ h k hk
    ·split at h
     ·cases h
     ·exact aLz l _ _ h k hk
theorem aSq {o:T5} (h:aGj o=true):∀k∈o.toList,-5≤k∧k≤5:=aLz _ _ _ h
def aMa (x y:Int):Int:=if x<y then-1 else if y<x then 1 else 0
def bDs:List Int→T5→T5→Int
 |[],_,_=>0
 |k::ks,a,b=>
  if k=0 then 0
  else
   let c:=if k<0 then aMa (b.col (k.natAbs-1)) (a.col (k.natAbs-1)) else aMa (a.col (k.natAbs-1)) (b.col (k.natAbs-1))
   if c≠0 then c else bDs ks a b
def aJs (o a b:T5):Int:=if aGj o=true then bDs o.toList a b else 0
end Go.Tup
namespace Go.Proofs.YtaofijjjheiknaaGreat
open Go.SL Go.Tup
theorem aEp (o0 o1 o2 o3 o4:Int):CtQ AC 178 [.agg #[.int .i64 o0,.int .i64 o1,.int .i64 o2,.int .i64 o3,.int .i64 o4]] [] (.bool (aGj ⟨o0,o1,o2,o3,o4⟩)):=by
 refine Ct.go Tryz.func178 Tryz.ntmps178 fun w0=> ?_
 repeat(refine st ?_;intros)
 rename_i b1 b2
 refine G.loop (X:=Nat×Bool×(Nat→Bool)) (fun x=>x.1≤5∧aGj ⟨o0,o1,o2,o3,o4⟩=fGo ([o0,o1,o2,o3,o4].drop x.1) x.2.1 x.2.2)
  (fun x=>[(8,.int .i64 (x.1:Int)),(7,.agg #[.int .i64 o0,.int .i64 o1,.int .i64 o2,.int .i64 o3,.int .i64 o4]),(4,.bool x.2.1),(3,.pointer (some ⟨b2,0,none⟩))])
  (fun x=>[[(b2,row [.bool (x.2.2 0),.bool (x.2.2 1),.bool (x.2.2 2),.bool (x.2.2 3),.bool (x.2.2 4),.bool (x.2.2 5)] 215)]])
  (fun x=>5-x.1) (0,false,fun _=>false) ⟨by decide,rfl⟩ (body:= ?_)
 rintro⟨i,over,s⟩ ⟨hi,hf⟩
 dsimp only at hi hf⊢
 by_cases h5:i<5
 ·obtain⟨k,hk,hd⟩:∃k,([.int .i64 o0,.int .i64 o1,.int .i64 o2,.int .i64 o3,.int .i64 o4]:List Value)[i]? =some (.int .i64 k)∧
    [o0,o1,o2,o3,o4].drop i=k::[o0,o1,o2,o3,o4].drop (i+1):=by
   match i with
   |0=>exact⟨o0,rfl,rfl⟩
   |1=>exact⟨o1,rfl,rfl⟩
   |2=>exact⟨o2,rfl,rfl⟩
   |3=>exact⟨o3,rfl,rfl⟩
   |4=>exact⟨o4,rfl,rfl⟩
  rw[hd,fGo] at hf
  have ac:∀k:Int,(max k (-k)).toNat=k.natAbs:=by intro k;omega
  have ae:=ac k
  have hc: -5≤k→k≤5→([.bool (s 0),.bool (s 1),.bool (s 2),.bool (s 3),.bool (s 4),.bool (s 5)]:List Value)[k.natAbs]? =some (.bool (s k.natAbs)):=by
   intro h1 h2
   obtain h|h|h|h|h|h:k.natAbs=0∨k.natAbs=1∨k.natAbs=2∨k.natAbs=3∨k.natAbs=4∨k.natAbs=5:=by omega
   all_goals rw[h];rfl
  have aa: -5≤k→k≤5→([.bool (s 0),.bool (s 1),.bool (s 2),.bool (s 3),.bool (s 4),.bool (s 5)]:List Value).set k.natAbs (.bool true)=
    [.bool (if 0=k.natAbs then true else s 0),.bool (if 1=k.natAbs then true else s 1),.bool (if 2=k.natAbs then true else s 2),
     .bool (if 3=k.natAbs then true else s 3),.bool (if 4=k.natAbs then true else s 4),.bool (if 5=k.natAbs then true else s 5)]:=by
   intro h1 h2
   obtain h|h|h|h|h|h:k.natAbs=0∨k.natAbs=1∨k.natAbs=2∨k.natAbs=3∨k.natAbs=4∨k.natAbs=5:=by omega
   all_goals rw[h];rfl
  by_cases hb:k< -5∨5<k
  ·rw[if_pos (Or.inr hb)] at hf
   cases over
   all_goals repeat' (first|(refine st ?_;intros)|(refine sp ?_ ?_<;>intros)|fail)
   all_goals(refine Dn.post (Hr:=[]) Tryz.results178 (hR:= ?_);exact⟨congrArg Value.bool hf.symm,rfl⟩)
  ·have ab:=hc oM oM
   have ad:=aa oM oM
   have ag:k.natAbs<6:=oM
   by_cases h0:k=0
   ·rw[if_neg (by simp[h0]),if_pos h0] at hf
    cases over
    all_goals repeat' (first|(refine st ?_;intros)|(refine sp ?_ ?_<;>intros)|fail)
    all_goals exact Dn.round (i+1,true,s) ⟨oM,hf⟩ oD
   ·cases over
    ·rw[if_neg oA12,if_neg h0] at hf
     by_cases hs:s k.natAbs=true
     ·rw[if_pos hs] at hf
      rw[hs] at ab
      repeat' (first|(refine st ?_;intros)|(refine sp ?_ ?_<;>intros)|fail)
      (refine Dn.post (Hr:=[]) Tryz.results178 (hR:= ?_);exact⟨congrArg Value.bool hf.symm,rfl⟩)
     ·rw[if_neg hs] at hf
      simp only[Bool.not_eq_true] at hs
      rw[hs] at ab
      repeat' (first|(refine st ?_;intros)|(refine sp ?_ ?_<;>intros)|fail)
      exact Dn.round (i+1,false,fun j=>if j=k.natAbs then true else s j) ⟨oM,hf⟩ oD
    ·rw[if_pos (by simp[h0])] at hf
     repeat' (first|(refine st ?_;intros)|(refine sp ?_ ?_<;>intros)|fail)
     (refine Dn.post (Hr:=[]) Tryz.results178 (hR:= ?_);exact⟨congrArg Value.bool hf.symm,rfl⟩)
 ·repeat' (first|(refine st ?_;intros)|(refine sp ?_ ?_<;>intros)|fail)
  obtain rfl:i=5:=by omega
  (refine Dn.post (Hr:=[]) Tryz.results178 (hR:= ?_);exact⟨congrArg Value.bool (hf.trans rfl).symm,rfl⟩)
def tv (t:T5):Value:= .agg #[.int .i64 t.c0,.int .i64 t.c1,.int .i64 t.c2,.int .i64 t.c3,.int .i64 t.c4]
theorem bLk (x:Int):CtQ AC 252 [.int .i64 x] [] (.bool false):=by
 refine Ct.go Tryz.func252 Tryz.ntmps252 fun w0=> ?_
 repeat(refine st ?_;intros)
 (refine Dn.post (Hr:=[]) Tryz.results252 (hR:= ?_);exact⟨by simp[aKa,aBu],rfl⟩)
theorem aMy (x y:Int):CtQ AC 250 [.int .i64 x,.int .i64 y] [] (.int .i64 (aMa x y)):=by
 refine Ct.go Tryz.func250 Tryz.ntmps250 fun w0=> ?_
 repeat' (first|(refine st ?_;intros)|refine cq bLk ?_|(refine sp ?_ ?_<;>intros)|fail)
 all_goals(refine Dn.post (Hr:=[]) Tryz.results250 (hR:= ?_);refine⟨?_,rfl⟩)
 all_goals simp only[aKa,aMa]
 all_goals first|rw[if_pos oA13]|rw[if_neg oA13,if_pos oA13]|rw[if_neg oA13,if_neg oA13]
theorem aSr (a0 a1 a2 a3 a4 k:Int) (h1:1≤k) (h2:k≤5):
  ([.int .i64 a0,.int .i64 a1,.int .i64 a2,.int .i64 a3,.int .i64 a4]:List Value)[(k-1).toNat]? =some (.int .i64 (T5.col ⟨a0,a1,a2,a3,a4⟩ (k.natAbs-1))):=by
 obtain rfl|rfl|rfl|rfl|rfl:k=1∨k=2∨k=3∨k=4∨k=5:=by omega
 all_goals rfl
theorem bLl (o0 o1 o2 o3 o4:Int) (i:Nat) (h:i<5):∃k,([.int .i64 o0,.int .i64 o1,.int .i64 o2,.int .i64 o3,.int .i64 o4]:List Value)[i]? =some (.int .i64 k)∧
  [o0,o1,o2,o3,o4].drop i=k::[o0,o1,o2,o3,o4].drop (i+1)∧k∈[o0,o1,o2,o3,o4]:=by
 match i with
 |0=>exact⟨o0,rfl,rfl,by simp⟩
 |1=>exact⟨o1,rfl,rfl,by simp⟩
 |2=>exact⟨o2,rfl,rfl,by simp⟩
 |3=>exact⟨o3,rfl,rfl,by simp⟩
 |4=>exact⟨o4,rfl,rfl,by simp⟩
theorem aMb (a0 a1 a2 a3 a4 c0 c1 c2 c3 c4 o0 o1 o2 o3 o4:Int):
  CtQ AC 244 [.agg #[.int .i64 a0,.int .i64 a1,.int .i64 a2,.int .i64 a3,.int .i64 a4],.agg #[.int .i64 c0,.int .i64 c1,.int .i64 c2,.int .i64 c3,.int .i64 c4],
   .agg #[.int .i64 o0,.int .i64 o1,.int .i64 o2,.int .i64 o3,.int .i64 o4]] [] (.int .i64 (aJs ⟨o0,o1,o2,o3,o4⟩ ⟨a0,a1,a2,a3,a4⟩ ⟨c0,c1,c2,c3,c4⟩)):=by
 refine Ct.go Tryz.func244 Tryz.ntmps244 fun w0=> ?_
 by_cases hF:aGj ⟨o0,o1,o2,o3,o4⟩=true
 ·have aa:=aSq hF
  simp only[T5.toList] at aa
  simp only[aJs,hF,if_true,T5.toList]
  have ac:(!aGj ⟨o0,o1,o2,o3,o4⟩)=false:=by rw[hF];rfl
  generalize ab:bDs [o0,o1,o2,o3,o4] ⟨a0,a1,a2,a3,a4⟩ ⟨c0,c1,c2,c3,c4⟩=res
  repeat(first|(refine st ?_;intros)|refine G.draw (id:=9) [(8,.quiet)] (h:= ?_)|refine G.draw (id:=13) [(8,.quiet)] (h:= ?_)|refine cq aEp ?_|refine cq aMy ?_)
  rename_i b1 b2 b3
  refine G.loop (X:=Nat) (fun i=>i≤5∧res=bDs ([o0,o1,o2,o3,o4].drop i) ⟨a0,a1,a2,a3,a4⟩ ⟨c0,c1,c2,c3,c4⟩)
   (fun i=>[(15,.int .i64 (i:Int)),(14,.agg #[.int .i64 o0,.int .i64 o1,.int .i64 o2,.int .i64 o3,.int .i64 o4]),(3,.pointer (some ⟨b1,0,none⟩)),(4,.pointer (some ⟨b2,0,none⟩))])
   (fun _=>[[(b1,row [.int .i64 a0,.int .i64 a1,.int .i64 a2,.int .i64 a3,.int .i64 a4] 33)],[(b2,row [.int .i64 c0,.int .i64 c1,.int .i64 c2,.int .i64 c3,.int .i64 c4] 33)]])
   (fun i=>5-i) 0 ⟨by decide,ab.symm⟩ (body:= ?_)
  rintro i ⟨hi,hf⟩
  by_cases h5:i<5
  ·obtain⟨k,hk,hd,hm⟩:=bLl o0 o1 o2 o3 o4 i h5
   obtain⟨ad,ae⟩:=aa k hm
   rw[hd,bDs] at hf
   by_cases h0:k=0
   ·rw[if_pos h0] at hf
    repeat(first|(refine st ?_;intros)|refine G.draw (id:=9) [(8,.quiet)] (h:= ?_)|refine G.draw (id:=13) [(8,.quiet)] (h:= ?_)|refine cq aEp ?_|refine cq aMy ?_)
    (refine Dn.post (Hr:=[]) Tryz.results244 (hR:= ?_);exact⟨congrArg (Value.int .i64) hf.symm,rfl⟩)
   ·rw[if_neg h0] at hf
    by_cases hn:k<0
    ·have g1:=aSr a0 a1 a2 a3 a4 (-k) oM oM
     have g2:=aSr c0 c1 c2 c3 c4 (-k) oM oM
     rw[Int.natAbs_neg] at g1 g2
     simp only[hn,if_true] at hf
     by_cases hz:aMa (T5.col ⟨c0,c1,c2,c3,c4⟩ (k.natAbs-1)) (T5.col ⟨a0,a1,a2,a3,a4⟩ (k.natAbs-1))=0
     ·rw[if_neg (by simpa using hz)] at hf
      repeat(first|(refine st ?_;intros)|refine G.draw (id:=9) [(8,.quiet)] (h:= ?_)|refine G.draw (id:=13) [(8,.quiet)] (h:= ?_)|refine cq aEp ?_|refine cq aMy ?_)
      exact Dn.round (i+1) ⟨oM,hf⟩ oM
     ·rw[if_pos hz] at hf
      repeat(first|(refine st ?_;intros)|refine G.draw (id:=9) [(8,.quiet)] (h:= ?_)|refine G.draw (id:=13) [(8,.quiet)] (h:= ?_)|refine cq aEp ?_|refine cq aMy ?_)
      (refine Dn.post (Hr:=[]) Tryz.results244 (hR:= ?_);exact⟨congrArg (Value.int .i64) hf.symm,rfl⟩)
    ·have g1:=aSr a0 a1 a2 a3 a4 k oM oM
     have g2:=aSr c0 c1 c2 c3 c4 k oM oM
     simp only[hn,if_false] at hf
     by_cases hz:aMa (T5.col ⟨a0,a1,a2,a3,a4⟩ (k.natAbs-1)) (T5.col ⟨c0,c1,c2,c3,c4⟩ (k.natAbs-1))=0
     ·rw[if_neg (by simpa using hz)] at hf
      repeat(first|(refine st ?_;intros)|refine G.draw (id:=9) [(8,.quiet)] (h:= ?_)|refine G.draw (id:=13) [(8,.quiet)] (h:= ?_)|refine cq aEp ?_|refine cq aMy ?_)
      exact Dn.round (i+1) ⟨oM,hf⟩ oM
     ·rw[if_pos hz] at hf
      repeat(first|(refine st ?_;intros)|refine G.draw (id:=9) [(8,.quiet)] (h:= ?_)|refine G.draw (id:=13) [(8,.quiet)] (h:= ?_)|refine cq aEp ?_|refine cq aMy ?_)
      (refine Dn.post (Hr:=[]) Tryz.results244 (hR:= ?_);exact⟨congrArg (Value.int .i64) hf.symm,rfl⟩)
  ·repeat(first|(refine st ?_;intros)|refine G.draw (id:=9) [(8,.quiet)] (h:= ?_)|refine G.draw (id:=13) [(8,.quiet)] (h:= ?_)|refine cq aEp ?_|refine cq aMy ?_)
   obtain rfl:i=5:=by omega
   (refine Dn.post (Hr:=[]) Tryz.results244 (hR:= ?_);exact⟨congrArg (Value.int .i64) hf.symm,rfl⟩)
 ·simp only[Bool.not_eq_true] at hF
  simp only[aJs,hF]
  have ac:(!aGj ⟨o0,o1,o2,o3,o4⟩)=true:=by rw[hF];rfl
  repeat(first|(refine st ?_;intros)|refine G.draw (id:=9) [(8,.quiet)] (h:= ?_)|refine G.draw (id:=13) [(8,.quiet)] (h:= ?_)|refine cq aEp ?_|refine cq aMy ?_)
  (refine Dn.post (Hr:=[]) Tryz.results244 (hR:= ?_);exact⟨rfl,rfl⟩)
open Go.Spc
abbrev pv (b:Nat):Value:= .pointer (some ⟨b,0,none⟩)
abbrev wd (c:Int):Int:=AJ .u64 c
def aAv (c:Int):Prop:= -9223372036854775808≤c∧c≤9223372036854775807
def okT (k:Nat) (t:T5):Prop:=(∀c∈t.toList,aAv c)∧∀i,k≤i→t.col i=0
theorem aVn {c:Int} (h:aAv c):AJ .i64 (wd c)=c:=by
 obtain⟨h1,h2⟩:=h
 have h3:(9223372036854775808:Int)=2^(64-1):=by decide
 simp only[wd,AJ,IntKind.bits,IntKind.signed,Bool.true_and,Bool.false_and,decide_eq_true_eq,←h3]
 simp
 split<;>omega
def tw (k:Nat) (t:T5):List Int:=(t.toList.take k).map wd
def aBr (k:Nat) (ts:List T5):List Int:=ts.flatMap (tw k)
theorem aCp {k:Nat} (t:T5) (hk:k≤5):(tw k t).length=k:=by simp[tw,T5.toList];omega
theorem aCh {k:Nat} (hk:k≤5) (ts:List T5):(aBr k ts).length=ts.length*k:=by
 induction ts with
 |nil=>simp[aBr]
 |cons t ts ih=>
  simp only[aBr,List.flatMap_cons,List.length_append,aCp t hk,AL] at ih⊢
  rw[ih,Nat.succ_mul];omega
@[simp] theorem aOu (k:Nat) (a b:List T5):aBr k (a++b)=aBr k a++aBr k b:=by simp[aBr]
@[simp] theorem words_nil (k:Nat):aBr k []=[]:=rfl
def bQc (d:Nat→Option (List Int)) (size k h first:Nat) (ts:List T5) (nb:Nat):Prop:=
 ∀j,j<nb→d (first+j)=some (aDd size ((first+j:Nat):Int) (k:Int) (aBr k ((ts.drop (j*h)).take h)))
structure Fl where
 first:Nat
 blocks:Nat
 width:Nat
 count:Nat
 deriving DecidableEq
def Fl.ext (f:Fl):Ext:=(f.first,f.blocks)
def flv (f:Fl):Value:= .agg #[.int .i64 (f.first:Int),.int .i64 (f.blocks:Int),.int .i64 (f.width:Int),.int .i64 (f.count:Int)]
abbrev aAf (size k:Nat):Nat:=(size-2)/k
abbrev aAb (size k c:Nat):Nat:=(c+aAf size k-1)/aAf size k
structure aAq (d:Nat→Option (List Int)) (size:Nat) (Lv:List Ext) (f:Fl) (ts:List T5):Prop where
 w1:1≤f.width
 w2:f.width≤5
 len:ts.length=f.count
 cnt:f.count≤100000000
 blk:f.blocks=aAb size f.width f.count
 fit:∀t∈ts,okT f.width t
 onto:bQc d size f.width (aAf size f.width) f.first ts f.blocks
 live:f.blocks≠0→f.ext∈Lv
theorem aAq.keep {d d':Nat→Option (List Int)} {size:Nat} {Lv:List Ext} {f:Fl} {ts:List T5} (h:aAq d size Lv f ts) (hd:∀x,inF Lv x→d' x=d x):aAq d' size Lv f ts:=by
 have ho:bQc d' size f.width (aAf size f.width) f.first ts f.blocks:=by
  intro j hj
  rw[hd]
  ·exact h.onto j hj
  ·exact⟨f.ext,h.live oM,by simp[Fl.ext],by simp[Fl.ext];omega⟩
 exact{h with onto:=ho}
theorem aAq.sub {d:Nat→Option (List Int)} {size:Nat} {Lv Lv':List Ext} {f:Fl} {ts:List T5} (h:aAq d size Lv f ts) (hs:∀e∈Lv,e∈Lv'):aAq d size Lv' f ts:=
 {h with live:=fun hb=>hs _ (h.live hb)}
structure aVo (σ:Sp) (live:List Ext):Prop where
 fit:∀e∈live,1≤e.2∧e.1+e.2≤σ.n
 apart:live.Pairwise fun a b=>a.1+a.2≤b.1∨b.1+b.2≤a.1
 free:∀x,x<σ.n→(inF σ.free x↔¬inF live x)
 sum:aBg σ.free+aBg live=σ.n
theorem aFy {a b:List Ext} (h:a.Perm b):aBg a=aBg b:=(h.map _).sum_nat
theorem aGk {a b:List Ext} (h:a.Perm b) (x:Nat):inF a x↔inF b x:=by
 unfold inF
 constructor
 ·rintro⟨e,he,h2⟩;exact⟨e,h.mem_iff.1 he,h2⟩
 ·rintro⟨e,he,h2⟩;exact⟨e,h.mem_iff.2 he,h2⟩
theorem aVo.perm {σ:Sp} {l l':List Ext} (h:aVo σ l) (hp:l.Perm l'):aVo σ l' where
 fit:=fun e he=>h.fit e (hp.mem_iff.2 he)
 apart:=(hp.pairwise_iff (fun {a b} aa=>aa.symm)).1 h.apart
 free:=fun x hx=>by rw[h.free x hx,aGk hp]
 sum:=by rw[←aFy hp];exact h.sum
theorem aVo.other {σ:Sp} {e:Ext} {l:List Ext} (h:aVo σ (e::l)) {x:Nat} (h1:e.1≤x) (h2:x<e.1+e.2):¬inF l x:=by
 rintro⟨y,hy,h3,h4⟩
 have:=List.rel_of_pairwise_cons h.apart hy
 omega
structure Wk where
 δ:Dv
 α:Ar
 σ:Sp
 live:List Ext
def aKu (ba:Nat) (α:Ar) (c:aAc):Prop:=∃c0,aEo ba α c0∧c.Perm c0
theorem aKu.perm {ba:Nat} {α:Ar} {c c':aAc} (h:aKu ba α c) (hp:c'.Perm c):aKu ba α c':=
 let ⟨c0,h1,h2⟩:=h;⟨c0,h1,hp.trans h2⟩
theorem aEo.ar {ba:Nat} {α:Ar} {c:aAc} (h:aEo ba α c):aKu ba α c:=⟨c,h,.refl _⟩
theorem aKu.open_ {ba:Nat} {α:Ar} {c:aAc} (h:aKu ba α c) {g:Gr} (hg:g∈α.gs):∃c1,c.Perm (c1++[g.obj]):=by
 obtain⟨c0,⟨bm,ck,rfl,_⟩,hp⟩:=h
 have hm:g.obj∈((ba,row (aDl α bm) 108)::(bm,aEn aIg (α.gs.map Gr.ent) ck)::α.gs.map Gr.obj):=by
  simp only[AM,AU]
  exact .inr (.inr ⟨g,hg,rfl⟩)
 obtain⟨l1,l2,he⟩:=EA hm
 refine⟨l1++l2,hp.trans ?_⟩
 rw[he]
 exact B4.trans (B3 (l₁:=[g.obj]))
theorem aKu.num {ba:Nat} {α:Ar} {c:aAc} (h:aKu ba α c):α.used≤α.room∧α.room≤1000000000∧α.peak≤α.room∧α.used=(α.gs.map (·.n)).sum:=by
 obtain⟨c0,⟨bm,ck,_,h1,h2,h3,_,h5⟩,_⟩:=h
 exact⟨h1,h2,h3,h5⟩
def aAi (bw bd ba bs:Nat):aAc:=[(bw,row [pv bd,pv ba,pv bs] 105)]
structure Wc (bd ba bs:Nat) (W:Wk) (cd ca cs:aAc):Prop where
 dev:aEc bd W.δ cd
 ar:aKu ba W.α ca
 sp:aEx bs W.σ cs
 nn:W.δ.blocks=W.σ.n
 live:aVo W.σ W.live
theorem aEc.num {bd:Nat} {δ:Dv} {c:aAc} (h:aEc bd δ c):(8≤δ.size∧δ.size≤256)∧δ.blocks≤1000000∧(-1≤δ.fault∧δ.fault≤1000000000):=by
 obtain⟨bl,bn,pp,np,cp,xs,pc,es,ck,aa,_,_,_,_,_,h1,h2,h3⟩:=h
 exact⟨h1,h2,h3⟩
structure Ev (W W':Wk) (k m:Nat):Prop where
 size:W'.δ.size=W.δ.size
 n:W'.σ.n=W.σ.n
 acts:W.δ.acts≤W'.δ.acts∧W'.δ.acts≤W.δ.acts+k
 fault:W.δ.fault= -1→W'.δ.fault= -1
 room:W'.α.room=W.α.room
 big:big W.σ.free≤big W'.σ.free+m
theorem Ev.refl (W:Wk):Ev W W 0 0:=⟨rfl,rfl,⟨AG _,AG _⟩,id,rfl,AG _⟩
theorem Ev.trans {W W1 W2:Wk} {k1 m1 k2 m2:Nat} (h:Ev W W1 k1 m1) (h2:Ev W1 W2 k2 m2):Ev W W2 (k1+k2) (m1+m2):=
 ⟨h2.size.trans h.size,h2.n.trans h.n,⟨BB h.acts.1 h2.acts.1,by have:=h.acts.2;have:=h2.acts.2;omega⟩,fun e=>h2.fault (h.fault e),h2.room.trans h.room,by have:=h.big;have:=h2.big;omega⟩
theorem Ev.weak {W W':Wk} {k m k' m':Nat} (h:Ev W W' k m) (hk:k≤k') (hm:m≤m'):Ev W W' k' m':=
 {h with acts:=⟨h.acts.1,BB h.acts.2 oM⟩,big:=BB h.big oM}
theorem aYr {c c0:aAc} (h:c.Perm c0):(([c]:Hp).flatten).Perm (([c0]:Hp).flatten):=by simpa using h
theorem aRoom (ba:Nat) (α:Ar) (c:aAc) (h:aKu ba α c):CtQ AC 72 [pv ba] [c] (.int .i64 (α.room:Int)):=by
 obtain⟨c0,h1,h2⟩:=h
 exact CtQ.convP (bGh ba α c0 h1) (aYr h2)
theorem bLm (ba:Nat) (α:Ar) (c:aAc) (h:aKu ba α c):CtQ AC 23 [pv ba] [c] (.int .i64 (α.used:Int)):=by
 obtain⟨c0,h1,h2⟩:=h
 exact CtQ.convP (bGi ba α c0 h1) (aYr h2)
theorem aPeak (ba:Nat) (α:Ar) (c:aAc) (h:aKu ba α c):CtQ AC 71 [pv ba] [c] (.int .i64 (α.peak:Int)):=by
 obtain⟨c0,h1,h2⟩:=h
 exact CtQ.convP (bQb ba α c0 h1) (aYr h2)
theorem bLn (ba:Nat) (α:Ar) (c:aAc) (h:aKu ba α c):CtQ AC 106 [pv ba] [c] (.int .i64 ((α.room:Int)-(α.used:Int))):=by
 obtain⟨c0,h1,h2⟩:=h
 exact CtQ.convP (bQa ba α c0 h1) (aYr h2)
theorem aFull (ba:Nat) (α:Ar) (c:aAc) (h:aKu ba α c) (n:Int) (hn:0≤n) (hr:(α.room:Int)-(α.used:Int)<n):CtQ AC 157 [pv ba,.int .i64 n] [c] (.tuple #[.pointer none,.int .i64 7]):=by
 obtain⟨c0,h1,h2⟩:=h
 exact CtQ.convP (bDq ba α c0 h1 n hn hr) (aYr h2)
theorem bGj (ba:Nat) (α:Ar) (c:aAc) (h:aKu ba α c) (n:Nat) (hn:n≤α.room-α.used):Ct AC 157 [pv ba,.int .i64 (n:Int)] [c] fun v H'=>
  ∃(g:Gr) (c':aAc) (α':Ar),g.n=n∧v= .tuple #[pv g.bb,.int .i64 0]∧aKu ba α' c'∧α'.gs.Perm (g::α.gs)∧α'.room=α.room∧H'=[c',[(g.br,row (aAg (BY n 0)) 174)]]:=by
 obtain⟨c0,h1,h2⟩:=h
 refine Ct.convP (bLj ba α c0 h1 n hn) (aYr h2) ?_
 rintro v H' ⟨g,c',e1,e2,e3,rfl⟩
 refine⟨_,⟨g,c',_,e1,e2,e3.ar,?_,rfl,rfl⟩,?_⟩
 ·show(α.gs++[g]).Perm _
  exact B3
 ·rw[bOe]
theorem aDm (ba:Nat) (α:Ar) (c:aAc) (h:aKu ba α c) (g:Gr) (G:List Gr) (hg:α.gs.Perm (g::G)):Cb AC 160 [pv ba,pv g.bb] [c] fun v H'=>
  ∃(c':aAc) (α':Ar),v= .bool true∧aKu ba α' c'∧α'.gs.Perm G∧α'.room=α.room∧H'=[c']:=by
 obtain⟨c0,h1,h2⟩:=h
 obtain⟨l1,l2,he⟩:=EA (hg.mem_iff.2 AH)
 refine Cb.conv (bDr ba α c0 h1 l1 l2 g he) (aYr h2) ?_
 rintro v H' ⟨c',rfl,e3,rfl⟩
 refine⟨_,⟨c',_,rfl,e3.ar,?_,rfl,rfl⟩,.refl _⟩
 show(l1++l2).Perm G
 rw[he] at hg
 exact((B4.symm.trans hg)).cons_inv
theorem aFs (ba:Nat) (α:Ar) (c:aAc) (h:aKu ba α c) (g:Gr) (G:List Gr) (hg:α.gs.Perm (g::G)):Ct AC 160 [pv ba,pv g.bb] [c] fun v H'=>
  ∃(c':aAc) (α':Ar),v= .bool true∧aKu ba α' c'∧α'.gs.Perm G∧α'.room=α.room∧H'=[c']:=(aDm ba α c h g G hg).1
theorem aGx (bw bd ba bs:Nat):CtQ AC 34 [pv bw] [aAi bw bd ba bs] (pv bd):=by
 unfold aAi
 refine Ct.go Tryz.func34 Tryz.ntmps34 fun w0=> ?_
 repeat(refine st ?_;intros)
 (refine Dn.post (Hr:=[[(bw,row [pv bd,pv ba,pv bs] 105)]]) Tryz.results34 (hR:= ?_);exact⟨rfl,rfl⟩)
theorem aGy (bw bd ba bs:Nat):CtQ AC 22 [pv bw] [aAi bw bd ba bs] (pv ba):=by
 unfold aAi
 refine Ct.go Tryz.func22 Tryz.ntmps22 fun w0=> ?_
 repeat(refine st ?_;intros)
 (refine Dn.post (Hr:=[[(bw,row [pv bd,pv ba,pv bs] 105)]]) Tryz.results22 (hR:= ?_);exact⟨rfl,rfl⟩)
theorem bGk (bw bd ba bs:Nat):CtQ AC 69 [pv bw] [aAi bw bd ba bs] (pv bs):=by
 unfold aAi
 refine Ct.go Tryz.func69 Tryz.ntmps69 fun w0=> ?_
 repeat(refine st ?_;intros)
 (refine Dn.post (Hr:=[[(bw,row [pv bd,pv ba,pv bs] 105)]]) Tryz.results69 (hR:= ?_);exact⟨rfl,rfl⟩)
theorem aHp (bw bd ba bs:Nat) (δ:Dv) (cd:aAc) (h:aEc bd δ cd) (k:Nat) (h1:1≤k) (h2:k≤5):CtQ AC 156 [pv bw,.int .i64 (k:Int)] [aAi bw bd ba bs,cd] (.int .i64 ((aAf δ.size k:Nat):Int)):=by
 have hS:=aGq bd δ cd h
 obtain⟨hs,_⟩:=h.num
 have hq:((δ.size:Int)-2).tdiv (k:Int)=((aAf δ.size k:Nat):Int):=by
  rw[show(δ.size:Int)-2=((δ.size-2:Nat):Int) by omega,CE oM]
  simp[aAf]
 have aa:aAf δ.size k≤256:=BB (CW _ _) oM
 have hw:AJ .i64 (((δ.size:Int)-2).tdiv (k:Int))=((aAf δ.size k:Nat):Int):=by rw[hq];exact aAd oM
 unfold aAi
 refine Ct.go Tryz.func156 Tryz.ntmps156 fun w0=> ?_
 repeat(first|(refine st ?_;intros)|refine cq hS ?_)
 (refine Dn.post (Hr:=[[(bw,row [pv bd,pv ba,pv bs] 105)],cd]) Tryz.results156 (hR:= ?_);exact⟨rfl,rfl⟩)
theorem aAl {s k:Nat} (hs:8≤s) (h1:1≤k) (h2:k≤5):1≤aAf s k:=(Nat.le_div_iff_mul_le oM).2 oM
theorem aOv {s k:Nat}:aAf s k*k≤s-2:=Nat.div_mul_le_self _ _
theorem aOw (bw bd ba bs:Nat) (δ:Dv) (cd:aAc) (h:aEc bd δ cd) (k c:Nat) (h1:1≤k) (h2:k≤5) (hc:c≤100000000):CtQ AC 158 [pv bw,.int .i64 (k:Int),.int .i64 (c:Int)] [aAi bw bd ba bs,cd] (.int .i64 ((aAb δ.size k c:Nat):Int)):=by
 have hS:=aHp bw bd ba bs δ cd h k h1 h2
 obtain⟨hs,_⟩:=h.num
 have hp:=aAl hs.1 h1 h2
 have ab:aAf δ.size k≤256:=BB (CW _ _) oM
 have hq:((c:Int)+((aAf δ.size k:Nat):Int)-1).tdiv ((aAf δ.size k:Nat):Int)=((aAb δ.size k c:Nat):Int):=by
  rw[show(c:Int)+((aAf δ.size k:Nat):Int)-1=((c+aAf δ.size k-1:Nat):Int) by omega,CE oM]
  simp[aAb]
 have aa:aAb δ.size k c≤1000000000:=BB (CW _ _) oM
 have hw:AJ .i64 (((c:Int)+((aAf δ.size k:Nat):Int)-1).tdiv ((aAf δ.size k:Nat):Int))=((aAb δ.size k c:Nat):Int):=by rw[hq];exact aAd oM
 generalize aAf δ.size k=hk at*
 refine Ct.go Tryz.func158 Tryz.ntmps158 fun w0=> ?_
 repeat(first|(refine st ?_;intros)|refine cq hS ?_)
 (refine Dn.post (Hr:=[aAi bw bd ba bs,cd]) Tryz.results158 (hR:= ?_);exact⟨rfl,rfl⟩)
end Go.Proofs.YtaofijjjheiknaaGreat
