/-
  Parts of the proof, put together: Give2, Lib, Crc, Seal, Seal2, LastW, Seal3, Device. No condition.
-/
import Derived.Test.YtammjnjpheobaaaGreatK7
set_option linter.unusedVariables false
set_option linter.unusedSimpArgs false
set_option linter.unnecessarySimpa false
set_option maxHeartbeats 4000000
namespace Go.Proofs.YtammjnjpheobaaaGreat
open Go.SL Go.Spc
theorem gave_of {n first m f bl:Nat} {A1 B1 L R:List Ext} (hfo:fok n (A1++L++(R++B1))) (hm:1≤m) (hfm:first+m≤n)
  (hL:L=[]∧f=first∨∃e0:Ext,L=[e0]∧e0.1+e0.2=first∧f=e0.1) (hR:R=[]∧f+bl=first+m∨∃e1:Ext,R=[e1]∧e1.1=first+m∧f+bl=e1.1+e1.2)
  (hA:∀e∈A1,e.1+e.2<f) (hB:∀e∈B1,f+bl<e.1):Gave n (A1++L++(R++B1)) (A1++[(f,bl)]++B1) first m:=by
 obtain⟨h1,h2,h3⟩:=fok_app.1 hfo
 obtain⟨h4,h5,h6⟩:=fok_app.1 h1
 obtain⟨h7,h8,h9⟩:=fok_app.1 h2
 have hf:f≤first∧first+m≤f+bl∧f+bl≤n:=by
  rcases hL with⟨rfl,e⟩|⟨e0,rfl,e,e'⟩<;>rcases hR with⟨rfl,g⟩|⟨e1,rfl,g,g'⟩
  ·omega
  ·have:=h7.1 e1 (by simp);omega
  ·omega
  ·have:=h7.1 e1 (by simp);omega
 refine⟨fok_app.2 ⟨fok_app.2 ⟨h4,fok_cons.2 ⟨⟨by dsimp only;omega,by dsimp only;omega⟩,fok_nil n,by simp⟩,fun x hx y hy=> ?_⟩,h8,fun x hx y hy=> ?_⟩,fun x=> ?_,?_,?_⟩
 ·simp only[List.mem_singleton] at hy;subst hy;exact hA x hx
 ·rcases List.mem_append.1 hx with hx|hx
  ·have:=hA x hx;have:=hB y hy;omega
  ·simp only[List.mem_singleton] at hx;subst hx;exact hB y hy
 ·simp only[inF_app,inF_cons,inF_nil,or_false]
  clear h1 h2 h3 h4 h5 h6 h7 h8 h9 hA hB hfo
  rcases hL with⟨rfl,e⟩|⟨e0,rfl,e,e'⟩<;>rcases hR with⟨rfl,g⟩|⟨e1,rfl,g,g'⟩<;>simp only[inF_cons,inF_nil,or_false,false_or]<;>
   by_cases hP:inF A1 x<;>by_cases hQ:inF B1 x<;>simp only[hP,hQ,true_or,or_true,false_or,or_false]<;>omega
 ·rcases hL with⟨rfl,e⟩|⟨e0,rfl,e,e'⟩<;>rcases hR with⟨rfl,g⟩|⟨e1,rfl,g,g'⟩<;>simp<;>omega
 ·rcases hL with⟨rfl,e⟩|⟨e0,rfl,e,e'⟩<;>rcases hR with⟨rfl,g⟩|⟨e1,rfl,g,g'⟩<;>simp only[big_app,big,List.nil_append]<;>omega
theorem Give_ct (bs:Nat) (σ:Sp) (c:Chunk) (h:IsSpace bs σ c) (first m:Nat) (hm:1≤m) (hfm:first+m≤σ.n) (hd:∀x,first≤x→x<first+m→¬inF σ.free x):
  Ct Tryz.prog 125 [.pointer (some ⟨bs,0,none⟩),.int .i64 (first:Int),.int .i64 (m:Int)] [c] fun v H'=>
   ∃(c':Chunk) (σ':Sp),v= .int .i64 0∧IsSpace bs σ' c'∧σ'.n=σ.n∧(∀x,inF σ'.free x↔inF σ.free x∨(first≤x∧x<first+m))∧total σ'.free=total σ.free+m∧big σ.free≤big σ'.free∧H'=[c']:=by
 obtain⟨n,free⟩:=σ
 obtain⟨p,cap,vc,rfl,hV,hfo,hn⟩:=h
 dsimp only at hV hfo hn hfm hd
 obtain⟨A,B,hAB,hA,hB⟩:=cut_at first free hfo
 have fin:∀free',Gave n free free' first m→Ct Tryz.prog 125 [.pointer (some ⟨bs,0,none⟩),.int .i64 (first:Int),.int .i64 (m:Int)] [[(bs,row (spCells n p free.length cap) 129)],vc] (fun v H'=>
   v= .int .i64 0∧∃p' cap' vc',H'=[[(bs,row (spCells n p' free'.length cap') 129)],vc']∧Vec 126 2 p' free'.length cap' (ecells free') vc')→Ct Tryz.prog 125 [.pointer (some ⟨bs,0,none⟩),.int .i64 (first:Int),.int .i64 (m:Int)] [(bs,row (spCells n p free.length cap) 129)::vc] fun v H'=>
   ∃(c':Chunk) (σ':Sp),v= .int .i64 0∧IsSpace bs σ' c'∧σ'.n=n∧(∀x,inF σ'.free x↔inF free x∨(first≤x∧x<first+m))∧total σ'.free=total free+m∧big free≤big σ'.free∧H'=[c']:=by
  intro free' hg hc
  refine Ct.conv hc (by simp) ?_
  rintro v H' ⟨rfl,p',cap',vc',rfl,hV'⟩
  exact⟨_,⟨_,⟨n,free'⟩,rfl,⟨p',cap',vc',rfl,hV',hg.1,hn⟩,rfl,hg.2.1,hg.2.2.1,hg.2.2.2,rfl⟩,by simp⟩
 subst hAB
 obtain⟨hfA,hfB,hcross⟩:=fok_app.1 hfo
 have hA2:A=[]∨∃A2 e0,A=A2++[e0]:=by
  rcases List.eq_nil_or_concat A with h|⟨A2,e0,h⟩
  ·exact .inl h
  ·exact .inr ⟨A2,e0,by simpa using h⟩
 have hB2:∀e1 B2,B=e1::B2→first+m≤e1.1:=by
  rintro e1 B2 rfl
  exact behind_free (hB e1 List.mem_cons_self) (hfB.1 e1 List.mem_cons_self).1 (fun x h1 h2 hh=>hd x h1 h2 (by rw[inF_app];exact .inr hh)) hm
 rcases hA2 with rfl|⟨A2,e0,rfl⟩
 ·rcases B with _|⟨e1,B2⟩
  ·have hg:=gave_of (n:=n) (first:=first) (m:=m) (f:=first) (bl:=m) (A1:=[]) (B1:=[]) (L:=[]) (R:=[]) (by simpa using hfo) hm hfm (.inl ⟨rfl,rfl⟩) (.inl ⟨rfl,by omega⟩) (by simp)
     (by simp)
   refine fin _ (by simpa using hg) ?_
   simpa using Give00w bs n cap p vc first m hn hm hfm (by simpa using hfo) (by simpa using hA) (by simpa using hB) (by simpa using hV)
  ·have hb:=hB2 e1 B2 rfl
   by_cases hb:e1.1=first+m
   ·have hg:=gave_of (n:=n) (first:=first) (m:=m) (f:=first) (bl:=m+e1.2) (A1:=[]) (B1:=B2) (L:=[]) (R:=[e1]) (by simpa using hfo) hm hfm (.inl ⟨rfl,rfl⟩) (.inr ⟨e1,rfl,hb,by omega⟩) (by simp)
      (fun e he=>by
       have:=(fok_cons.1 hfB).2.2 e he;omega)
    refine fin _ (by simpa using hg) ?_
    simpa using Give02w bs n cap p vc first m hn hm hfm B2 e1 hb (by simpa using hfo) (by simpa using hA) (by simpa using hB) (by simpa using hV)
   ·have hb:first+m<e1.1:=by omega
    have hg:=gave_of (n:=n) (first:=first) (m:=m) (f:=first) (bl:=m) (A1:=[]) (B1:=(e1::B2)) (L:=[]) (R:=[]) (by simpa using hfo) hm hfm (.inl ⟨rfl,rfl⟩) (.inl ⟨rfl,by omega⟩) (by simp)
      (fun e he=>by
       rcases List.mem_cons.1 he with rfl|he
       ·omega
       ·have:=(fok_cons.1 hfB).2.2 e he;omega)
    refine fin _ (by simpa using hg) ?_
    simpa using Give01w bs n cap p vc first m hn hm hfm B2 e1 hb (by simpa using hfo) (by simpa using hA) (by simpa using hB) (by simpa using hV)
 ·have ha:=hA e0 (by simp)
  by_cases ha:e0.1+e0.2=first
  ·rcases B with _|⟨e1,B2⟩
   ·have hg:=gave_of (n:=n) (first:=first) (m:=m) (f:=e0.1) (bl:=m+e0.2) (A1:=A2) (B1:=[]) (L:=[e0]) (R:=[]) (by simpa using hfo) hm hfm (.inr ⟨e0,rfl,ha,rfl⟩) (.inl ⟨rfl,by omega⟩) (fun e he=>(fok_app.1 hfA).2.2 e he e0 (by simp))
      (by simp)
    refine fin _ (by simpa using hg) ?_
    simpa using Give20w bs n cap p vc first m hn hm hfm A2 e0 ha (by simpa using hfo) (by simpa using hA) (by simpa using hB) (by simpa using hV)
   ·have hb:=hB2 e1 B2 rfl
    by_cases hb:e1.1=first+m
    ·have hg:=gave_of (n:=n) (first:=first) (m:=m) (f:=e0.1) (bl:=m+e1.2+e0.2) (A1:=A2) (B1:=B2) (L:=[e0]) (R:=[e1]) (by simpa using hfo) hm hfm (.inr ⟨e0,rfl,ha,rfl⟩) (.inr ⟨e1,rfl,hb,by omega⟩) (fun e he=>(fok_app.1 hfA).2.2 e he e0 (by simp))
       (fun e he=>by
        have:=(fok_cons.1 hfB).2.2 e he;omega)
     refine fin _ (by simpa using hg) ?_
     simpa using Give22w bs n cap p vc first m hn hm hfm A2 e0 B2 e1 ha hb (by simpa using hfo) (by simpa using hA) (by simpa using hB) (by simpa using hV)
    ·have hb:first+m<e1.1:=by omega
     have hg:=gave_of (n:=n) (first:=first) (m:=m) (f:=e0.1) (bl:=m+e0.2) (A1:=A2) (B1:=(e1::B2)) (L:=[e0]) (R:=[]) (by simpa using hfo) hm hfm (.inr ⟨e0,rfl,ha,rfl⟩) (.inl ⟨rfl,by omega⟩) (fun e he=>(fok_app.1 hfA).2.2 e he e0 (by simp))
       (fun e he=>by
        rcases List.mem_cons.1 he with rfl|he
        ·omega
        ·have:=(fok_cons.1 hfB).2.2 e he;omega)
     refine fin _ (by simpa using hg) ?_
     simpa using Give21w bs n cap p vc first m hn hm hfm A2 e0 B2 e1 ha hb (by simpa using hfo) (by simpa using hA) (by simpa using hB) (by simpa using hV)
  ·have ha:e0.1+e0.2<first:=by omega
   rcases B with _|⟨e1,B2⟩
   ·have hg:=gave_of (n:=n) (first:=first) (m:=m) (f:=first) (bl:=m) (A1:=(A2++[e0])) (B1:=[]) (L:=[]) (R:=[]) (by simpa using hfo) hm hfm (.inl ⟨rfl,rfl⟩) (.inl ⟨rfl,by omega⟩) (fun e he=>by
       rcases List.mem_append.1 he with he|he
       ·have:=(fok_app.1 hfA).2.2 e he e0 (by simp);omega
       ·simp only[List.mem_singleton] at he;subst he;exact ha)
      (by simp)
    refine fin _ (by simpa using hg) ?_
    simpa using Give10w bs n cap p vc first m hn hm hfm A2 e0 ha (by simpa using hfo) (by simpa using hA) (by simpa using hB) (by simpa using hV)
   ·have hb:=hB2 e1 B2 rfl
    by_cases hb:e1.1=first+m
    ·have hg:=gave_of (n:=n) (first:=first) (m:=m) (f:=first) (bl:=m+e1.2) (A1:=(A2++[e0])) (B1:=B2) (L:=[]) (R:=[e1]) (by simpa using hfo) hm hfm (.inl ⟨rfl,rfl⟩) (.inr ⟨e1,rfl,hb,by omega⟩) (fun e he=>by
        rcases List.mem_append.1 he with he|he
        ·have:=(fok_app.1 hfA).2.2 e he e0 (by simp);omega
        ·simp only[List.mem_singleton] at he;subst he;exact ha)
       (fun e he=>by
        have:=(fok_cons.1 hfB).2.2 e he;omega)
     refine fin _ (by simpa using hg) ?_
     simpa using Give12w bs n cap p vc first m hn hm hfm A2 e0 B2 e1 ha hb (by simpa using hfo) (by simpa using hA) (by simpa using hB) (by simpa using hV)
    ·have hb:first+m<e1.1:=by omega
     have hg:=gave_of (n:=n) (first:=first) (m:=m) (f:=first) (bl:=m) (A1:=(A2++[e0])) (B1:=(e1::B2)) (L:=[]) (R:=[]) (by simpa using hfo) hm hfm (.inl ⟨rfl,rfl⟩) (.inl ⟨rfl,by omega⟩) (fun e he=>by
        rcases List.mem_append.1 he with he|he
        ·have:=(fok_app.1 hfA).2.2 e he e0 (by simp);omega
        ·simp only[List.mem_singleton] at he;subst he;exact ha)
       (fun e he=>by
        rcases List.mem_cons.1 he with rfl|he
        ·omega
        ·have:=(fok_cons.1 hfB).2.2 e he;omega)
     refine fin _ (by simpa using hg) ?_
     simpa using Give11w bs n cap p vc first m hn hm hfm A2 e0 B2 e1 ha hb (by simpa using hfo) (by simpa using hA) (by simpa using hB) (by simpa using hV)
theorem SpaceNew_ct (n:Nat) (h1:1≤n) (h2:n≤1000000):Ct Tryz.prog 40 [.int .i64 0,.int .i64 (n:Int)] [] fun v H'=>
  ∃bs c',v= .pointer (some ⟨bs,0,none⟩)∧IsSpace bs ⟨n,[(0,n)]⟩ c'∧H'=[c']:=by
 refine Ct.conv (H2:=[]) (R2:=fun v H'=>∃bs vb,v= .pointer (some ⟨bs,0,none⟩)∧H'=[[(bs,row [.int .i64 0,.int .i64 (n:Int),.slice (some ⟨vb,0,none⟩) 1 1] 129)],[(vb,row [.int .i64 0,.int .i64 (n:Int)] 126)]]) ?_ rfl ?_
 ·refine Ct.intro Tryz.func40 rfl Tryz.ntmps40 (nle rfl) fun w0=> ?_;dsimp only[argSlots,Nat.reduceAdd]
  repeat(refine st ?_;intros)
  rename_i bs vb
  (refine Dn.post (Hr:=[[(bs,row [.int .i64 0,.int .i64 (n:Int),.slice (some ⟨vb,0,none⟩) 1 1] 129)],[(vb,row [.int .i64 0,.int .i64 (n:Int)] 126)]]) Tryz.results40 (hR:= ?_);exact⟨bs,vb,rfl,rfl⟩)
 ·rintro v H' ⟨bs,vb,rfl,rfl⟩
  refine⟨_,⟨bs,_,rfl,⟨some ⟨vb,0,none⟩,1,_,rfl,⟨rfl,.inr ⟨vb,[],rfl,rfl,by simp[ecells],Nat.le_refl _,by decide⟩⟩,?_,h2⟩,rfl⟩,by simp[spCells,ecells]⟩
  exact fok_cons.2 ⟨⟨h1,by dsimp only;omega⟩,fok_nil n,by simp⟩
theorem fok_total {n:Nat}:∀{l:List Ext} {k:Nat},fok n l→(∀e∈l,k≤e.1)→k≤n→total l≤n-k
 |[],_,_,_,_=>by simp
 |e::l,k,h,hk,hn=>by
  obtain⟨h1,h2,h3⟩:=fok_cons.1 h
  have:=fok_total (k:=e.1+e.2) h2 (fun y hy=>Nat.le_of_lt (h3 y hy)) h1.2
  have:=hk e List.mem_cons_self
  simp only[total_cons]
  omega
theorem CloneX_ct (p:Option Addr) (m cap:Nat) (xs:List Value) (c:Chunk) (hV:Vec 126 2 p m cap xs c) (hm:m≤1000000) (h1:xs.all Value.oneCell'=true):
  Ct Tryz.prog 145 [.slice p m cap] [c] fun v H'=>
   ∃p' cap' c',v= .slice p' m cap'∧Vec 126 2 p' m cap' xs c'∧H'=[c',c]:=by
 obtain⟨hxl,⟨rfl,rfl,rfl,rfl⟩|⟨b,rest,rfl,rfl,hrl,hmc,hcm⟩⟩:=hV
 ·obtain rfl:xs=[]:=List.eq_nil_of_length_eq_zero (by simpa using hxl)
  refine Ct.intro Tryz.func145 rfl Tryz.ntmps145 (nle rfl) fun w0=> ?_;dsimp only[argSlots,Nat.reduceAdd]
  repeat(refine st ?_;intros)
  (refine Dn.post (Hr:=[[],[]]) Tryz.results145 (hR:= ?_);exact⟨none,0,[],rfl,Vec.nil _ _,rfl⟩)
 ·by_cases h0:m=0
  ·subst h0
   obtain rfl:xs=[]:=List.eq_nil_of_length_eq_zero (by simpa using hxl)
   have hz:(0:Nat)≤0:=Nat.le_refl _
   refine Ct.intro Tryz.func145 rfl Tryz.ntmps145 (nle rfl) fun w0=> ?_;dsimp only[argSlots,Nat.reduceAdd]
   repeat(refine st ?_;intros)
   rename_i b0
   (refine Dn.post (Hr:=[[(b0,row [] 126)],[(b,row ([]++rest) 126)]]) Tryz.results145 (hR:= ?_);exact⟨some ⟨b0,0,none⟩,0,_,rfl,⟨rfl,.inr ⟨b0,[],rfl,rfl,by simp[ecells],Nat.le_refl _,by decide⟩⟩,rfl⟩)
  ·have hd:((xs++rest).drop 0).take (m*2)=xs:=take_at0 hxl
   refine Ct.intro Tryz.func145 rfl Tryz.ntmps145 (nle rfl) fun w0=> ?_;dsimp only[argSlots,Nat.reduceAdd]
   repeat(refine st ?_;intros)
   rename_i b0
   have hN:Vec 126 2 (some ⟨b0,0,none⟩) 0 0 [] [(b0,row [] 126)]:=⟨rfl,.inr ⟨b0,[],rfl,rfl,by simp[ecells],Nat.le_refl _,by decide⟩⟩
   repeat(refine st ?_;intros)
   rename_i p' cap' c' hV'
   (refine Dn.post (Hr:=[c',[(b,row (xs++rest) 126)]]) Tryz.results145 (hR:= ?_);refine⟨p',cap',c',?_,?_,rfl⟩)
   ·show Value.slice p' (0+m) cap'=_
    rw[Nat.zero_add]
   ·simpa using hV'
theorem Extents_ct (bs:Nat) (σ:Sp) (c:Chunk) (h:IsSpace bs σ c):Ct Tryz.prog 106 [.pointer (some ⟨bs,0,none⟩)] [c] fun v H'=>
  ∃p' cap' c',v= .slice p' σ.free.length cap'∧Vec 126 2 p' σ.free.length cap' (ecells σ.free) c'∧H'=[c',c]:=by
 obtain⟨n,free⟩:=σ
 obtain⟨p,cap,vc,rfl,hV,hfo,hn⟩:=h
 dsimp only at hV hfo hn⊢
 have hlen:=fok_len hfo (k:=0) (by omega) (by omega)
 have hC:=CloneX_ct p free.length cap (ecells free) vc hV (by omega) (ecells_all free)
 refine Ct.conv (H2:=[[(bs,row (spCells n p free.length cap) 129)],vc]) (R2:=fun v H'=>∃p' cap' c',v= .slice p' free.length cap'∧Vec 126 2 p' free.length cap' (ecells free) c'∧H'=[c',[(bs,row (spCells n p free.length cap) 129)],vc]) ?_ (by simp) ?_
 ·unfold spCells
  refine Ct.intro Tryz.func106 rfl Tryz.ntmps106 (nle rfl) fun w0=> ?_;dsimp only[argSlots,Nat.reduceAdd]
  repeat(refine st ?_;intros)
  refine R.call (hct:=hC) (h:= ?_)
  rintro _ _ ⟨p',cap',c',rfl,hV',rfl⟩
  try dsimp only[List.cons_append,List.nil_append]
  repeat(refine st ?_;intros)
  (refine Dn.post (Hr:=[c',[(bs,row [.int .i64 0,.int .i64 (n:Int),.slice p free.length cap] 129)],vc]) Tryz.results106 (hR:= ?_);exact⟨p',cap',c',rfl,hV',rfl⟩)
 ·rintro v H' ⟨p',cap',c',rfl,hV',rfl⟩
  exact⟨_,⟨p',cap',c',rfl,hV',rfl⟩,by simp⟩
theorem SFree_ct (bs:Nat) (σ:Sp) (c:Chunk) (h:IsSpace bs σ c):CtQ Tryz.prog 58 [.pointer (some ⟨bs,0,none⟩)] [c] (.int .i64 (total σ.free:Int)):=by
 have hX:=Extents_ct bs σ c h
 obtain⟨n,free⟩:=σ
 obtain⟨p,cap,vc,_,_,hfo,hn⟩:=h
 dsimp only at hfo hn hX⊢
 have hlen:=fok_len hfo (k:=0) (by omega) (by omega)
 have htot:=fok_total hfo (k:=0) (by omega) (by omega)
 refine Ct.intro Tryz.func58 rfl Tryz.ntmps58 (nle rfl) fun w0=> ?_;dsimp only[argSlots,Nat.reduceAdd]
 repeat(refine st ?_;intros)
 refine R.call (hct:=hX) (h:= ?_)
 rintro _ _ ⟨p',cap',c',rfl,hV',rfl⟩
 try dsimp only[List.cons_append,List.nil_append]
 repeat(refine st ?_;intros)
 refine G.loop (X:=Nat) (fun i=>i≤free.length) (fun i=>[(9,.int .i64 (i:Int)),(8,.int .i64 (free.length:Int)),(7,.slice p' free.length cap'),(3,.int .i64 (total (free.take i):Int))])
  (fun _=>[c',c]) (fun i=>free.length-i) 0 (by omega) (body:= ?_)
 intro i hi
 by_cases hif:i<free.length
 ·obtain⟨A,x,B,hs,hA⟩:=split_at (l:=free) (i:=i) hif
  obtain⟨_,h0|⟨vb,rest,rfl,rfl,hrl,hmc,hcm⟩⟩:=hV'
  ·omega
  obtain⟨g1,g2,g3⟩:=eget (rest:=rest) (B:=B) (e:=x) hA
  rw[←hs] at g1 g2 g3
  generalize ecells free++rest=cells at*
  have e1:free.take i=A:=by rw[hs,←hA];simp
  have e2:free.take (i+1)=A++[x]:=by rw[hs,←hA,List.take_length_add_append];rfl
  have e3:total free=total A+(x.2+total B):=by rw[hs];simp
  rw[e1]
  repeat(refine st ?_;intros)
  refine Dn.round (i+1) (by omega) (by omega) ?_ (by repeat(first|exact Split.nil|(apply Split.cons;·(repeat(first|exact Take.here|apply Take.there|exact Take.nil)))))
  rw[e2,total_app,show total [x]=x.2 by simp]
  exact⟨rfl,rfl,rfl,rfl,trivial⟩
 ·obtain rfl:i=free.length:=by omega
  rw[List.take_length]
  repeat(refine st ?_;intros)
  (refine Dn.post (Hr:=[c]) Tryz.results58 (hR:= ?_);exact⟨rfl,rfl⟩)
end Go.Proofs.YtammjnjpheobaaaGreat
namespace Go.Proofs.YtammjnjpheobaaaGreat
open Go.SL
def wcells (ws:List Int):List Value:=ws.map (Value.int .u64)
@[simp] theorem wcells_length (ws:List Int):(wcells ws).length=ws.length:=by simp[wcells]
theorem wcells_all (ws:List Int):(wcells ws).all Value.oneCell'=true:=by
 induction ws with
 |nil=>rfl
 |cons w ws ih=>simpa[wcells,Value.oneCell'] using ih
theorem CloneW_ct (b off n cap:Nat) (cs:List Value) (E:Nat) (fz:Nat×Nat) (ws:List Int) (hn:0<n) (hm:n≤1000000) (hws:(cs.drop off).take n=wcells ws) (hl:ws.length=n):
  Ct Tryz.prog 168 [.slice (some ⟨b,off,none⟩) n cap] [[(b,rowf cs E fz)]] fun v H'=>
   ∃p cap' c',v= .slice p n cap'∧Vec 158 1 p n cap' (wcells ws) c'∧H'=[c',[(b,rowf cs E fz)]]:=by
 have hws1:(cs.drop off).take (n*1)=wcells ws:=by rw[Nat.mul_one];exact hws
 have hlen:(wcells ws).length=n*1:=by rw[wcells_length,hl,Nat.mul_one]
 have hall:=wcells_all ws
 refine Ct.intro Tryz.func168 rfl Tryz.ntmps168 (nle rfl) fun w0=> ?_;dsimp only[argSlots,Nat.reduceAdd]
 repeat(refine st ?_;intros)
 rename_i b0
 have hV:Vec 158 1 (some ⟨b0,0,none⟩) 0 0 [] [(b0,row [] 158)]:=⟨by simp,.inr ⟨b0,[],rfl,rfl,by simp,Nat.le_refl _,by decide⟩⟩
 apply R.append
 ·exact rfl
 ·exact rfl
 ·exact hV
 ·repeat(first|exact Take.here|apply Take.there|exact Take.nil)
 ·repeat(first|exact Has.here|apply Has.there)
 ·exact hws1
 ·exact hlen
 ·exact hall
 ·exact rfl
 ·exact hn
 ·simp only[maxLen];omega
 ·omega
 ·exact rfl
 ·exact nle rfl
 intro p' cap' c' hV'
 have hV2:Vec 158 1 p' n cap' (wcells ws) c':=by simpa using hV'
 repeat(refine st ?_;intros)
 (refine Dn.post (Hr:=[c',[(b,rowf cs E fz)]]) Tryz.results168 (hR:= ?_);exact⟨p',cap',c',by show Value.slice p' (0+n) cap'=_;rw[Nat.zero_add],hV2,rfl⟩)
def it {α:Type} (f:α→α):Nat→α→α
 |0,s=>s
 |j+1,s=>f (it f j s)
def crcBit (u:Int):Int:=bits2 .xor .u32 (u.fdiv (2^min (Int.toNat 1) IntKind.u32.bits)) (bits2 .and .u32 3988292384 (IntKind.u32.wrap (-bits2 .and .u32 u 1)))
def crcByte (p:Int×Int):Int×Int:=(it crcBit 8 (bits2 .xor .u32 p.1 (IntKind.u32.wrap (bits2 .and .u64 p.2 255))),p.2.fdiv (2^min (Int.toNat 8) IntKind.u64.bits))
def crcN (s x:Int):Int:=bitsNot .u32 (it crcByte 8 (bitsNot .u32 s,x)).1
theorem Next_ct (s x:Int):CtQ Tryz.prog 188 [.int .u32 s,.int .u64 x] [] (.int .u32 (crcN s x)):=by
 refine Ct.intro Tryz.func188 rfl Tryz.ntmps188 (nle rfl) fun w0=> ?_;dsimp only[argSlots,Nat.reduceAdd]
 repeat(refine st ?_;intros)
 refine G.loop (X:=Nat) (fun i=>i≤8) (fun i=>[(8,.int .i64 (i:Int)),(5,.int .u32 (it crcByte i (bitsNot .u32 s,x)).1),(1,.int .u64 (it crcByte i (bitsNot .u32 s,x)).2)]) (fun _=>[]) (fun i=>8-i) 0 (by decide) (body:= ?_)
 intro i hi
 generalize hp:it crcByte i (bitsNot .u32 s,x)=p
 obtain⟨t,y⟩:=p
 dsimp only
 by_cases h8:i<8
 ·repeat(refine st ?_;intros)
  refine G.loop (X:=Nat) (fun j=>j≤8) (fun j=>[(17,.int .i64 (j:Int)),(8,.int .i64 (i:Int)),(1,.int .u64 (y.fdiv (2^min (Int.toNat 8) IntKind.u64.bits))),(5,.int .u32 (it crcBit j (bits2 .xor .u32 t (IntKind.u32.wrap (bits2 .and .u64 y 255)))))]) (fun _=>[]) (fun j=>8-j) 0 (by decide) (body:= ?_)
  intro j hj
  generalize hu:it crcBit j (bits2 .xor .u32 t (IntKind.u32.wrap (bits2 .and .u64 y 255)))=u
  by_cases h9:j<8
  ·repeat(refine st ?_;intros)
   refine Dn.round (j+1) (by omega) (by omega) ?_ (by repeat(first|exact Split.nil|(apply Split.cons;·(repeat(first|exact Take.here|apply Take.there|exact Take.nil)))))
   refine⟨rfl,rfl,rfl,?_,trivial⟩
   simp only[it,hu]
   rfl
  ·obtain rfl:j=8:=by omega
   repeat(refine st ?_;intros)
   refine Dn.round (i+1) (by omega) (by omega) ?_ (by repeat(first|exact Split.nil|(apply Split.cons;·(repeat(first|exact Take.here|apply Take.there|exact Take.nil)))))
   have e:it crcByte (i+1) (bitsNot .u32 s,x)=(u,y.fdiv (2^min (Int.toNat 8) IntKind.u64.bits)):=by
    show crcByte (it crcByte i (bitsNot .u32 s,x))=_
    rw[hp,←hu];rfl
   rw[e]
   exact⟨rfl,rfl,rfl,trivial⟩
 ·obtain rfl:i=8:=by omega
  have e:bitsNot .u32 t=crcN s x:=by unfold crcN;rw[hp]
  repeat(refine st ?_;intros)
  (refine Dn.post (Hr:=[]) Tryz.results188 (hR:= ?_);exact⟨by rw[←e];rfl,rfl⟩)
def crcSum (ws:List Int):Int:=ws.foldl crcN 0
theorem words_get {cs:List Value} {off n:Nat} {ws:List Int} (h:(cs.drop off).take n=wcells ws) (hl:ws.length=n) {i:Nat} (hi:i<n):cs[off+i]? =some (.int .u64 (ws.getD i 0)):=by
 have h2:=congrArg (·[i]?) h
 simp only[List.getElem?_take,hi,if_true,List.getElem?_drop] at h2
 rw[h2]
 have hi':i<ws.length:=by omega
 simp[wcells,List.getD_eq_getElem?_getD,hi']
theorem Sum_ct (b off n cap:Nat) (cs:List Value) (E:Nat) (fz:Nat×Nat) (ws:List Int) (hm:n≤1000000) (hws:(cs.drop off).take n=wcells ws) (hl:ws.length=n):
  CtQ Tryz.prog 189 [.slice (some ⟨b,off,none⟩) n cap] [[(b,rowf cs E fz)]] (.int .u32 (crcSum ws)):=by
 refine Ct.intro Tryz.func189 rfl Tryz.ntmps189 (nle rfl) fun w0=> ?_;dsimp only[argSlots,Nat.reduceAdd]
 repeat(first|(refine st ?_;intros)|(refine cq Next_ct ?_))
 refine G.loop (X:=Nat) (fun i=>i≤n) (fun i=>[(8,.int .i64 (i:Int)),(7,.int .i64 (n:Int)),(6,.slice (some ⟨b,off,none⟩) n cap),(3,.int .u32 ((ws.take i).foldl crcN 0))]) (fun _=>[[(b,rowf cs E fz)]]) (fun i=>n-i) 0 (by omega) (body:= ?_)
 intro i hi
 by_cases h9:i<n
 ·have hg:=words_get hws hl h9
  have e:(ws.take (i+1)).foldl crcN 0=crcN ((ws.take i).foldl crcN 0) (ws.getD i 0):=by
   rw[List.take_add_one,List.foldl_append]
   have hi':i<ws.length:=by omega
   simp[List.getD_eq_getElem?_getD,hi']
  repeat(first|(refine st ?_;intros)|(refine cq Next_ct ?_))
  refine Dn.round (i+1) (by omega) (by omega) ?_ (by repeat(first|exact Split.nil|(apply Split.cons;·(repeat(first|exact Take.here|apply Take.there|exact Take.nil)))))
  rw[e]
  exact⟨rfl,rfl,rfl,rfl,trivial⟩
 ·obtain rfl:i=n:=by omega
  have e:(ws.take i).foldl crcN 0=crcSum ws:=by unfold crcSum;rw[List.take_of_length_le (by omega)]
  rw[e]
  repeat(first|(refine st ?_;intros)|(refine cq Next_ct ?_))
  (refine Dn.post (Hr:=[[(b,rowf cs E fz)]]) Tryz.results189 (hR:= ?_);exact⟨rfl,rfl⟩)
theorem right_ct (size address:Int) (h:8≤size∧size≤256) (ha:0≤address):CtQ Tryz.prog 169 [.int .i64 size,.int .i64 address] [] (.bool true):=by
 obtain⟨h1,h2⟩:=h
 refine Ct.intro Tryz.func169 rfl Tryz.ntmps169 (nle rfl) fun w0=> ?_;dsimp only[argSlots,Nat.reduceAdd]
 repeat(refine st ?_;intros)
 (refine Dn.post (Hr:=[]) Tryz.results169 (hR:= ?_);exact⟨by first|rfl|(rw[dec_true (by omega)];rfl),rfl⟩)
def lastW (ws:List Int) (n address:Int):Int:=
 bits2 .or .u64 (IntKind.u64.wrap ((n+1)*2^min (Int.toNat 32) IntKind.u64.bits)) (IntKind.u64.wrap (crcN (crcN (crcSum ws) (n+1)) address))
theorem last_ct (b n m cap:Nat) (address:Int) (cs:List Value) (E:Nat) (fz:Nat×Nat) (ws:List Int) (hm:m≤256) (hm1:1≤m) (hcap:m≤cap) (hn:n≤256) (ha:0≤address∧address≤1000000000) (hws:(cs.drop 0).take (m-1)=wcells ws) (hl:ws.length=m-1):
  CtQ Tryz.prog 170 [.slice (some ⟨b,0,none⟩) m cap,.int .i64 (n:Int),.int .i64 address] [[(b,rowf cs E fz)]] (.int .u64 (lastW ws n address)):=by
 have hS:=fun cap=>Sum_ct b 0 (m-1) cap cs E fz ws (by omega) hws hl
 have e1:((m:Int)-1).toNat=m-1:=by omega
 refine Ct.intro Tryz.func170 rfl Tryz.ntmps170 (nle rfl) fun w0=> ?_;dsimp only[argSlots,Nat.reduceAdd]
 repeat(first|(refine st ?_;intros)|(refine cq hS ?_)|(refine cq Next_ct ?_))
 (refine Dn.post (Hr:=[[(b,rowf cs E fz)]]) Tryz.results170 (hR:= ?_);exact⟨rfl,rfl⟩)
def bodyW (size:Nat) (tag:Int) (pw:List Int):List Int:=(pw++List.replicate (size-pw.length) 0).set (size-2) tag
def sealW (size:Nat) (address tag:Int) (pw:List Int):List Int:=(bodyW size tag pw).set (size-1) (lastW ((bodyW size tag pw).take (size-1)) pw.length address)
theorem zrep_w (m:Nat):zrep m [.int .u64 0]=wcells (List.replicate m 0):=by
 induction m with
 |zero=>rfl
 |succ m ih=>rw[zrep,ih];rfl
theorem wcells_set (ws:List Int) (i:Nat) (w:Int):(wcells ws).set i (.int .u64 w)=wcells (ws.set i w):=by
 unfold wcells;rw[List.map_set]
theorem setL_w {size:Nat} {pw:List Int} (h:pw.length≤size):setL (zrep size [.int .u64 0]) 0 (wcells pw)=wcells (pw++List.replicate (size-pw.length) 0):=by
 rw[zrep_w,setL_eq _ _ _ (by simp[wcells_length];exact h)]
 simp[wcells]
theorem Put_ct (size:Nat) (address tag:Int) (b q m cap:Nat) (cs:List Value) (E:Nat) (fz:Nat×Nat) (pw:List Int) (hs:8≤size∧size≤256) (ha:0≤address∧address≤1000000000) (hm:m≤size-2) (hws:(cs.drop q).take m=wcells pw) (hl:pw.length=m):
  Ct Tryz.prog 156 [.int .i64 (size:Int),.int .i64 address,.int .u64 tag,.slice (some ⟨b,q,none⟩) m cap] [[(b,rowf cs E fz)]] fun v H'=>
   ∃bl,v= .tuple #[.slice (some ⟨bl,0,none⟩) size size,.int .i64 0]∧H'=[[(bl,row (wcells (sealW size address tag pw)) 158)],[(b,rowf cs E fz)]]:=by
 have hR:=right_ct (size:Int) address (by omega) ha.1
 have hbl:(bodyW size tag pw).length=size:=by simp[bodyW];omega
 have hset:=setL_w (size:=size) (pw:=pw) (by omega)
 have hset2:(wcells (pw++List.replicate (size-pw.length) 0)).set (size-2) (.int .u64 tag)=wcells (bodyW size tag pw):=wcells_set (pw++List.replicate (size-pw.length) 0) (size-2) tag
 have hL:=fun bl=>last_ct bl m size size address (wcells (bodyW size tag pw)) 158 (0,0) ((bodyW size tag pw).take (size-1)) (by omega) (by omega) (Nat.le_refl _) (by omega) ha (by simp[wcells,List.map_take]) (by simp[hbl])
 have hset3:(wcells (bodyW size tag pw)).set (size-1) (.int .u64 (lastW ((bodyW size tag pw).take (size-1)) m address))=wcells (sealW size address tag pw):=by unfold sealW;rw[wcells_set,hl]
 have e1:((size:Int)-2).toNat=size-2:=by omega
 have e2:((size:Int)-1).toNat=size-1:=by omega
 have hmin:Nat.min m size=m:=Nat.min_eq_left (by omega)
 have hpl:(wcells pw).length=m:=by rw[wcells_length,hl]
 have hpa:=wcells_all pw
 have hzl:(zrep size [Value.int .u64 0]).length=size:=by rw[zrep_length];simp
 refine Ct.intro Tryz.func156 rfl Tryz.ntmps156 (nle rfl) fun w0=> ?_;dsimp only[argSlots,Nat.reduceAdd]
 repeat(first|(refine st ?_;intros)|(refine cq hR ?_)|(refine cq hL ?_))
 rename_i bl
 (refine Dn.post (Hr:=[[(bl,row (wcells (sealW size address tag pw)) 158)],[(b,rowf cs E fz)]]) Tryz.results156 (hR:= ?_);exact⟨bl,rfl,rfl⟩)
theorem GetF_ct (x:Int):CtQ Tryz.prog 172 [.int .u64 x] [] (.bool (dec (x≠0))):=by
 refine Ct.intro Tryz.func172 rfl Tryz.ntmps172 (nle rfl) fun w0=> ?_;dsimp only[argSlots,Nat.reduceAdd]
 repeat(refine st ?_;intros)
 (refine Dn.post (Hr:=[]) Tryz.results172 (hR:= ?_);exact⟨rfl,rfl⟩)
theorem IndexF_ct (b off n cap:Nat) (cs:List Value) (E:Nat) (fz:Nat×Nat) (ws:List Int) (hm:n≤1000000) (hws:(cs.drop off).take n=wcells ws) (hl:ws.length=n) (hz:∀w∈ws,w=0):
  CtQ Tryz.prog 190 [.slice (some ⟨b,off,none⟩) n cap,.func (.func 172) #[] #[]] [[(b,rowf cs E fz)]] (.int .i64 (-1)):=by
 refine Ct.intro Tryz.func190 rfl Tryz.ntmps190 (nle rfl) fun w0=> ?_;dsimp only[argSlots,Nat.reduceAdd]
 repeat(first|(refine st ?_;intros)|(refine cq GetF_ct ?_))
 refine G.loop (X:=Nat) (fun i=>i≤n) (fun i=>[(8,.int .i64 (i:Int)),(7,.int .i64 (n:Int)),(0,.slice (some ⟨b,off,none⟩) n cap),(1,.func (.func 172) #[] #[])]) (fun _=>[[(b,rowf cs E fz)]]) (fun i=>n-i) 0 (by omega) (body:= ?_)
 intro i hi
 by_cases h9:i<n
 ·have hg:=words_get hws hl h9
  have h0:ws.getD i 0=0:=by
   have hi':i<ws.length:=by omega
   rw[List.getD_eq_getElem?_getD,List.getElem?_eq_getElem hi']
   exact hz _ (List.getElem_mem hi')
  rw[h0] at hg
  repeat(first|(refine st ?_;intros)|(refine cq GetF_ct ?_))
  exact Dn.round (i+1) (by omega) (by omega)
 ·repeat(first|(refine st ?_;intros)|(refine cq GetF_ct ?_))
  (refine Dn.post (Hr:=[[(b,rowf cs E fz)]]) Tryz.results190 (hR:= ?_);exact⟨rfl,rfl⟩)
theorem ContainsF_ct (b off n cap:Nat) (cs:List Value) (E:Nat) (fz:Nat×Nat) (ws:List Int) (hm:n≤1000000) (hws:(cs.drop off).take n=wcells ws) (hl:ws.length=n) (hz:∀w∈ws,w=0):
  CtQ Tryz.prog 171 [.slice (some ⟨b,off,none⟩) n cap,.func (.func 172) #[] #[]] [[(b,rowf cs E fz)]] (.bool false):=by
 have hI:=IndexF_ct b off n cap cs E fz ws hm hws hl hz
 refine Ct.intro Tryz.func171 rfl Tryz.ntmps171 (nle rfl) fun w0=> ?_;dsimp only[argSlots,Nat.reduceAdd]
 repeat(first|(refine st ?_;intros)|(refine cq hI ?_))
 (refine Dn.post (Hr:=[[(b,rowf cs E fz)]]) Tryz.results171 (hR:= ?_);exact⟨by rw[dec_false (by decide)];rfl,rfl⟩)
theorem crcN_range (s x:Int):0≤crcN s x∧crcN s x<4294967296:=by
 unfold crcN bitsNot bits2
 simp only[IntKind.wrap,IntKind.bits,IntKind.signed,Bool.false_and]
 simp
 omega
theorem lastW_shr (ws:List Int) (n:Nat) (a:Int) (hn:n≤256):(lastW ws n a).fdiv (2^min (Int.toNat 32) IntKind.u64.bits)=(n:Int)+1:=by
 unfold lastW
 have hc:=crcN_range (crcN (crcSum ws) ((n:Int)+1)) a
 generalize crcN (crcN (crcSum ws) ((n:Int)+1)) a=c at hc
 obtain⟨c,rfl⟩:∃k:Nat,c=(k:Int):=⟨c.toNat,by omega⟩
 have e0:(2:Int)^min (Int.toNat 32) IntKind.u64.bits=4294967296:=by decide
 rw[e0,wrap_u64 (by omega),wrap_u64 (by omega)]
 have e1:((n:Int)+1)*4294967296=(((n+1)*4294967296:Nat):Int):=by omega
 rw[e1]
 have e3:bits2 .or .u64 (((n+1)*4294967296:Nat):Int) (c:Int)=IntKind.u64.wrap ((BitVec.ofInt 64 (((n+1)*4294967296:Nat):Int)|||BitVec.ofInt 64 (c:Int)).toNat:Int):=rfl
 rw[e3,BitVec.toNat_or,BitVec.ofInt_natCast,BitVec.ofInt_natCast,BitVec.toNat_ofNat,BitVec.toNat_ofNat]
 rw[Nat.mod_eq_of_lt (by omega),Nat.mod_eq_of_lt (by omega)]
 have e2:(n+1)*4294967296|||c=(n+1)*4294967296+c:=by
  have:=Nat.shiftLeft_add_eq_or_of_lt (a:=n+1) (b:=c) (i:=32) (by omega)
  rw[Nat.shiftLeft_eq] at this
  exact this.symm
 rw[e2,wrap_u64 (by omega)]
 rw[Int.fdiv_eq_ediv_of_nonneg _ (by decide)]
 omega
theorem sealW_length (size:Nat) (address tag:Int) (pw:List Int) (h:pw.length≤size):(sealW size address tag pw).length=size:=by simp[sealW,bodyW];omega
theorem sealW_take (size:Nat) (address tag:Int) (pw:List Int):(sealW size address tag pw).take (size-1)=(bodyW size tag pw).take (size-1):=by
 unfold sealW
 rw[List.take_set_of_le (Nat.le_refl _)]
theorem sealW_last (size:Nat) (address tag:Int) (pw:List Int) (hs:8≤size) (h:pw.length≤size-2):(sealW size address tag pw).getD (size-1) 0=lastW ((bodyW size tag pw).take (size-1)) pw.length address:=by
 have:(bodyW size tag pw).length=size:=by simp[bodyW];omega
 simp[sealW,List.getD_eq_getElem?_getD,this,show size-1<size by omega]
theorem sealW_get (size:Nat) (address tag:Int) (pw:List Int) (hs:8≤size) (h:pw.length≤size-2) (i:Nat) (hi:i<size-2):(sealW size address tag pw).getD i 0=pw.getD i 0:=by
 unfold sealW bodyW
 simp only[List.getD_eq_getElem?_getD]
 rw[List.getElem?_set_ne (by omega),List.getElem?_set_ne (by omega),List.getElem?_append]
 split
 ·rfl
 ·rename_i hh
  rw[List.getElem?_replicate,if_pos (by omega),List.getElem?_eq_none (by omega)]
  rfl
theorem sealW_tag (size:Nat) (address tag:Int) (pw:List Int) (hs:8≤size) (h:pw.length≤size-2):(sealW size address tag pw).getD (size-2) 0=tag:=by
 unfold sealW bodyW
 simp only[List.getD_eq_getElem?_getD]
 rw[List.getElem?_set_ne (by omega),List.getElem?_set_self (by simp;omega)]
 rfl
theorem w_get {ws:List Int} {rest:List Value} {i:Nat} {v:Int} (hi:i<ws.length) (h:ws.getD i 0=v):(wcells ws++rest)[i]? =some (.int .u64 v):=by
 rw[List.getElem?_append_left (by simpa using hi)]
 rw[List.getD_eq_getElem?_getD,List.getElem?_eq_getElem hi] at h
 simp only[Option.getD_some] at h
 simp[wcells,List.getElem?_eq_getElem hi,h]
theorem w_take {ws:List Int} {rest:List Value} {k:Nat} (hk:k≤ws.length):((wcells ws++rest).drop 0).take k=wcells (ws.take k):=by
 rw[List.drop_zero,List.take_append_of_le_length (by simpa using hk)]
 simp[wcells,List.map_take]
theorem w_drop {ws:List Int} {rest:List Value} {a k:Nat} (hk:a+k≤ws.length):((wcells ws++rest).drop a).take k=wcells ((ws.drop a).take k):=by
 rw[List.drop_append_of_le_length (by simp;omega),List.take_append_of_le_length (by simp;omega)]
 simp[wcells,List.map_take,List.map_drop]
theorem Get_ct (size address tag:Nat) (pw:List Int) (b cap:Nat) (rest:List Value) (E:Nat) (hs:8≤size∧size≤256) (hcap:size≤cap) (ha:address≤1000000000) (n:Nat) (hn:n=pw.length) (h1:1≤n) (h2:n≤size-2):
  Ct Tryz.prog 144 [.slice (some ⟨b,0,none⟩) size cap,.int .i64 (address:Int)] [[(b,row (wcells (sealW size address tag pw)++rest) E)]] fun v H'=>
   ∃p cap' c',v= .tuple #[.slice p n cap',.int .u64 (tag:Int),.int .i64 0]∧Vec 158 1 p n cap' (wcells pw) c'∧H'=[c',[(b,row (wcells (sealW size address tag pw)++rest) E)]]:=by
 subst hn
 obtain⟨hs1,hs2⟩:=hs
 have hR:=right_ct (size:Int) (address:Int) (by omega) (by omega)
 have hlen:=sealW_length size address tag pw (by omega)
 have hlast:=w_get (rest:=rest) (by omega) (sealW_last size address tag pw hs1 h2)
 have htag:=w_get (rest:=rest) (by omega) (sealW_tag size address tag pw hs1 h2)
 have hL:=last_ct b pw.length size cap (address:Int) (wcells (sealW size address tag pw)++rest) E (0,0) ((bodyW size tag pw).take (size-1)) (by omega) (by omega) hcap (by omega) (by omega)
  (by rw[←sealW_take size address tag pw];exact w_take (by omega)) (by rw[←sealW_take size address tag pw];simp;omega)
 have hCF:=ContainsF_ct b pw.length (size-2-pw.length) (cap-pw.length) (wcells (sealW size address tag pw)++rest) E (0,0) (((sealW size address tag pw).drop pw.length).take (size-2-pw.length)) (by omega) (w_drop (by omega)) (by simp;omega) (by
  intro w hw
  obtain⟨i,hi⟩:=List.getElem?_of_mem hw
  rw[List.getElem?_take] at hi
  split at hi
  ·rw[List.getElem?_drop] at hi
   have:=sealW_get size address tag pw hs1 h2 (pw.length+i) (by omega)
   rw[List.getD_eq_getElem?_getD,hi,List.getD_eq_getElem?_getD,List.getElem?_eq_none (by omega)] at this
   simpa using this
  ·cases hi)
 have hC:=CloneW_ct b 0 pw.length cap (wcells (sealW size address tag pw)++rest) E (0,0) pw h1 (by omega) (by
  rw[w_take (by omega)]
  congr 1
  apply List.ext_getElem
  ·simp;omega
  ·intro i i1 i2
   have:=sealW_get size address tag pw hs1 h2 i (by omega)
   simp only[List.getD_eq_getElem?_getD,List.getElem?_eq_getElem i2] at this
   rw[List.getElem?_eq_getElem (by omega)] at this
   simpa using this) rfl
 have hshr:=lastW_shr ((bodyW size tag pw).take (size-1)) pw.length (address:Int) (by omega)
 generalize lastW ((bodyW size tag pw).take (size-1)) pw.length (address:Int)=lw at*
 have e1:((size:Int)-1).toNat=size-1:=by omega
 have e2:((size:Int)-2).toNat=size-2:=by omega
 have e3:((pw.length:Int)+1-1)=(pw.length:Int):=by omega
 have e4:(((pw.length:Int)+1)-1).toNat=pw.length:=by omega
 have e5:IntKind.wrap .i64 ((pw.length:Int)+1-1)=(pw.length:Int):=by rw[e3];exact wrap_i64 (by omega)
 have e6:dec (lw≠lw)=false:=dec_false (by simp)
 generalize wcells (sealW size address tag pw)++rest=cells at*
 refine Ct.intro Tryz.func144 rfl Tryz.ntmps144 (nle rfl) fun w0=> ?_;dsimp only[argSlots,Nat.reduceAdd]
 repeat(first|(refine st ?_;intros)|refine G.draw (id:=5) [(17,.quiet),(26,.quiet)] (h:= ?_)|refine G.drawOrd (id:=7) [0,1,2,4,5,6,7,8,3,9,10,11] [(3,.eff [8])] (h:= ?_)|(refine cq hR ?_)|(refine cq hL ?_)|(refine cq hCF ?_))
 refine R.callX (hct:=hC) (h:= ?_)
 rintro _ _ ⟨p,cap',c',rfl,hV,rfl⟩
 try dsimp only[List.cons_append,List.nil_append]
 constructor
 ·(·(first|(intro _ _ h;cases h;done)|(repeat(first|exact qok_nil|(apply qok_cons;(·first|(intro hc;exact absurd hc (nmem rfl))|(intro _;apply CellPr.mk;(·repeat(first|exact Has.here|apply Has.there));(first|exact rfl|assumption))|(intro _;apply CellsPr.mk;(·repeat(first|exact Has.here|apply Has.there));(first|exact rfl|assumption))))))))
 repeat(first|(refine st ?_;intros)|refine G.draw (id:=5) [(17,.quiet),(26,.quiet)] (h:= ?_)|refine G.drawOrd (id:=7) [0,1,2,4,5,6,7,8,3,9,10,11] [(3,.eff [8])] (h:= ?_)|(refine cq hR ?_)|(refine cq hL ?_)|(refine cq hCF ?_))
 (refine Dn.post (Hr:=[c',[(b,row cells E)]]) Tryz.results144 (hR:= ?_);exact⟨p,cap',c',rfl,hV,rfl⟩)
def dvCells (size blocks:Nat) (bl bn:Nat) (pp:Option Addr) (np cp:Nat) (fault:Int) (acts:Nat):List Value:=
 [.int .i64 (size:Int),.int .i64 (blocks:Int),.map (some bl),.map (some bn),.slice pp np cp,.int .i64 (-1),.int .i64 fault,.bool false,.int .i64 (acts:Int)]
section
variable (bd size blocks bl bn:Nat) (pp:Option Addr) (np cp:Nat) (fault:Int) (acts:Nat)
theorem Down_cells:CtQ Tryz.prog 166 [.pointer (some ⟨bd,0,none⟩)] [[(bd,row (dvCells size blocks bl bn pp np cp fault acts) 115)]] (.bool false):=by
 unfold dvCells
 refine Ct.intro Tryz.func166 rfl Tryz.ntmps166 (nle rfl) fun w0=> ?_;dsimp only[argSlots,Nat.reduceAdd]
 repeat(refine st ?_;intros)
 (refine Dn.post (Hr:=[[(bd,row [.int .i64 (size:Int),.int .i64 (blocks:Int),.map (some bl),.map (some bn),.slice pp np cp,.int .i64 (-1),.int .i64 fault,.bool false,.int .i64 (acts:Int)] 115)]]) Tryz.results166 (hR:= ?_);exact⟨rfl,rfl⟩)
theorem act_fault:Ct Tryz.prog 167 [.pointer (some ⟨bd,0,none⟩)] [[(bd,row (dvCells size blocks bl bn pp np cp 0 acts) 115)]] fun v H'=>
  v= .int .i64 6∧H'=[[(bd,row (dvCells size blocks bl bn pp np cp (-1) acts) 115)]]:=by
 unfold dvCells
 refine Ct.intro Tryz.func167 rfl Tryz.ntmps167 (nle rfl) fun w0=> ?_;dsimp only[argSlots,Nat.reduceAdd]
 repeat(refine st ?_;intros)
 (refine Dn.post (Hr:=[[(bd,row [.int .i64 (size:Int),.int .i64 (blocks:Int),.map (some bl),.map (some bn),.slice pp np cp,.int .i64 (-1),.int .i64 (-1),.bool false,.int .i64 (acts:Int)] 115)]]) Tryz.results167 (hR:= ?_);exact⟨rfl,rfl⟩)
def less (fault:Int):Int:=if 0<fault then fault-1 else fault
theorem act_ok (hf:fault≠0) (hb: -1≤fault∧fault≤1000000000) (ha:acts≤1000000000000):Ct Tryz.prog 167 [.pointer (some ⟨bd,0,none⟩)] [[(bd,row (dvCells size blocks bl bn pp np cp fault acts) 115)]] fun v H'=>
  v= .int .i64 0∧H'=[[(bd,row (dvCells size blocks bl bn pp np cp (less fault) (acts+1)) 115)]]:=by
 unfold dvCells less
 by_cases h0:0<fault
 ·rw[if_pos h0]
  refine Ct.intro Tryz.func167 rfl Tryz.ntmps167 (nle rfl) fun w0=> ?_;dsimp only[argSlots,Nat.reduceAdd]
  repeat(refine st ?_;intros)
  (refine Dn.post (Hr:=[[(bd,row [.int .i64 (size:Int),.int .i64 (blocks:Int),.map (some bl),.map (some bn),.slice pp np cp,.int .i64 (-1),.int .i64 (fault-1),.bool false,.int .i64 ((acts:Int)+1)] 115)]]) Tryz.results167 (hR:= ?_);exact⟨rfl,rfl⟩)
 ·rw[if_neg h0]
  refine Ct.intro Tryz.func167 rfl Tryz.ntmps167 (nle rfl) fun w0=> ?_;dsimp only[argSlots,Nat.reduceAdd]
  repeat(refine st ?_;intros)
  (refine Dn.post (Hr:=[[(bd,row [.int .i64 (size:Int),.int .i64 (blocks:Int),.map (some bl),.map (some bn),.slice pp np cp,.int .i64 (-1),.int .i64 fault,.bool false,.int .i64 ((acts:Int)+1)] 115)]]) Tryz.results167 (hR:= ?_);exact⟨rfl,rfl⟩)
end
theorem DeviceNew_ct (size blocks:Nat) (hs:8≤size∧size≤256) (hb:blocks≤1000000):Ct Tryz.prog 37 [.int .i64 (size:Int),.int .i64 (blocks:Int)] [] fun v H'=>
  ∃bd bl bn,v= .tuple #[.pointer (some ⟨bd,0,none⟩),.int .i64 0]∧H'=[[(bd,row (dvCells size blocks bl bn none 0 0 (-1) 0) 115)],[(bn,.map #[] 0)]]:=by
 refine Ct.intro Tryz.func37 rfl Tryz.ntmps37 (nle rfl) fun w0=> ?_;dsimp only[argSlots,Nat.reduceAdd]
 repeat(refine st ?_;intros)
 rename_i bl bn bd
 (refine Dn.post (Hr:=[[(bd,row (dvCells size blocks bl bn none 0 0 (-1) 0) 115)],[(bn,.map #[] 0)]]) Tryz.results37 (hR:= ?_);exact⟨bd,bl,bn,rfl,rfl⟩)
end Go.Proofs.YtammjnjpheobaaaGreat
