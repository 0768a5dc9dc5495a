/-
  Parts of the proof, put together: Hold, Take, Give. No condition.
-/
import Derived.Test.YtjoicjgfgkpdjaaGreatJ6
set_option linter.unusedVariables false
set_option linter.unusedSimpArgs false
set_option linter.unnecessarySimpa false
set_option maxHeartbeats 4000000
namespace Go.Proofs.YtjoicjgfgkpdjaaGreat
open Go.SL Go.Spc
theorem Hold_ct (bs:Nat) (n cap:Nat) (p:Option Addr) (vc:Chunk) (A B:List Ext) (e:Ext) (hfo:fok n (A++e::B)) (hn:n≤1000000) (hV:Vec 119 2 p (A++e::B).length cap (ecells (A++e::B)) vc) (m:Nat) (hm1:1≤m) (hm2:m≤e.2):
  Ct Tryz.prog 107 [.pointer (some ⟨bs,0,none⟩),.int .i64 (e.1:Int),.int .i64 (m:Int)] [[(bs,row (spCells n p (A++e::B).length cap) 122)],vc] fun v H'=>
   v= .int .i64 0∧∃p' cap' vc' free',H'=[[(bs,row (spCells n p' free'.length cap') 122)],vc']∧Vec 119 2 p' free'.length cap' (ecells free') vc'∧free'=A++((if m<e.2 then[(e.1+m,e.2-m)] else[])++B):=by
 have hlen:=fok_len hfo (k:=0) (by omega) (by omega)
 obtain⟨hfA,hfB,hAB⟩:=fok_app.1 hfo
 obtain⟨he1,hfB2,heB⟩:=fok_cons.1 hfB
 have hI:=inside_ct bs ⟨n,A++e::B⟩ _ ⟨p,cap,vc,rfl,hV,hfo,hn⟩ e.1 m hm1 (by dsimp only;omega)
 have hI':CtQ Tryz.prog 111 [.pointer (some ⟨bs,0,none⟩),.int .i64 (e.1:Int),.int .i64 (m:Int)] [[(bs,row (spCells n p (A++e::B).length cap) 122)],vc] (.bool true):=CtQ.conv hI (by simp)
 clear hI
 have hI:=hI'
 have hBe:=behind_ct bs n cap e.1 p vc A (e::B) hfo hn hV (fun a ha=>Nat.le_of_lt (hAB a ha e List.mem_cons_self)) (by
  intro y hy
  rcases List.mem_cons.1 hy with rfl|hy
  ·omega
  ·have:=heB y hy;omega)
 have hE:=end_ct e.1 e.2 (by omega)
 have hl:(A++e::B).length=A.length+1+B.length:=by simp;omega
 have hVV:=hV
 obtain⟨_,h0|⟨vb,rest,rfl,rfl,hrl,hmc,hcm⟩⟩:=hV
 ·omega
 obtain⟨g1,g2,g3⟩:=eget (rest:=rest) (B:=B) (e:=e) (rfl:A.length=A.length)
 unfold spCells at hI hBe⊢
 rw[hl] at hI hBe hVV⊢
 generalize hcell:ecells (A++e::B)++rest=cells at*
 have hV3:Vec 119 2 (some ⟨vb,0,none⟩) (A.length+1+B.length) cap (ecells (A++[e]++B)) [(vb,row cells 119)]:=by
  rw[List.append_assoc];exact hVV
 by_cases hlt:m<e.2
 ·have hR:=fun bv cv restv x1 x2 h1 h2=>RepAny_ct (some ⟨vb,0,none⟩) cap A B [e] (e.1+m,e.2-m) [(vb,row cells 119)] A.length (A.length+1+B.length) (A.length:Int) ((A.length:Int)+1) x1 x2 rfl rfl (by simp) (by simp) (by simp) (by omega) bv cv restv h1 h2 hV3
  have hN:=Vec.nil 119 2
  refine Ct.intro Tryz.func107 rfl Tryz.ntmps107 (nle rfl) fun w0=> ?_;dsimp only[argSlots,Nat.reduceAdd]
  repeat(first|(refine st ?_;intros)|(refine cq hI ?_)|(refine cq hBe ?_)|(refine cq hE ?_))
  rename_i p' cap' c' hV'
  have hV2:Vec 119 2 p' 1 cap' [.int .i64 ((e.1:Int)+(m:Int)),.int .i64 (((e.1+e.2:Nat):Int)-(e.1:Int)-(m:Int))] c':=hV'
  clear hV'
  obtain⟨_,h0|⟨bv,restv,rfl,rfl,hrlv,hmcv,hcmv⟩⟩:=hV2
  ·omega
  repeat(first|(refine st ?_;intros)|(refine cq hI ?_)|(refine cq hBe ?_)|(refine cq hE ?_))
  refine R.call (hct:=hR bv cap' restv ((e.1:Int)+(m:Int)) (((e.1+e.2:Nat):Int)-(e.1:Int)-(m:Int)) (by dsimp only;omega) (by dsimp only;omega)) (h:= ?_)
  rintro _ _ ⟨p2,cap2,c2,rfl,hV2,rfl⟩
  try dsimp only[List.cons_append,List.nil_append]
  repeat(first|(refine st ?_;intros)|(refine cq hI ?_)|(refine cq hBe ?_)|(refine cq hE ?_))
  (refine Dn.post (Hr:=[[(bs,row [.int .i64 0,.int .i64 (n:Int),.slice p2 (A.length+1+B.length) cap2] 122)],c2]) Tryz.results107 (hR:= ?_);refine⟨rfl,p2,cap2,c2,A++[(e.1+m,e.2-m)]++B,?_,?_,?_⟩)
  ·rw[show(A++[(e.1+m,e.2-m)]++B).length=A.length+1+B.length by simp;omega]
  ·rw[show(A++[(e.1+m,e.2-m)]++B).length=A.length+1+B.length by simp;omega];exact hV2
  ·simp[hlt]
 ·have hR:=RepZ_ct (some ⟨vb,0,none⟩) cap A B e [(vb,row cells 119)] A.length (A.length+1+B.length) rfl rfl (by omega) hV3
  refine Ct.intro Tryz.func107 rfl Tryz.ntmps107 (nle rfl) fun w0=> ?_;dsimp only[argSlots,Nat.reduceAdd]
  repeat(first|(refine st ?_;intros)|(refine cq hI ?_)|(refine cq hBe ?_)|(refine cq hE ?_))
  refine R.call (hct:=hR) (h:= ?_)
  rintro _ _ ⟨p2,cap2,c2,rfl,hV2,rfl⟩
  try dsimp only[List.cons_append,List.nil_append]
  repeat(first|(refine st ?_;intros)|(refine cq hI ?_)|(refine cq hBe ?_)|(refine cq hE ?_))
  (refine Dn.post (Hr:=[[(bs,row [.int .i64 0,.int .i64 (n:Int),.slice p2 (A.length+B.length) cap2] 122)],c2]) Tryz.results107 (hR:= ?_);refine⟨rfl,p2,cap2,c2,A++B,?_,?_,?_⟩)
  ·rw[List.length_append]
  ·rw[List.length_append];exact hV2
  ·simp[hlt]
theorem fok_held {n:Nat} {A B:List Ext} {e:Ext} {m:Nat} (h:fok n (A++e::B)) (h1:1≤m) (h2:m≤e.2):fok n (A++((if m<e.2 then[(e.1+m,e.2-m)] else[])++B)):=by
 obtain⟨hA,hB,hAB⟩:=fok_app.1 h
 obtain⟨he,hB2,heB⟩:=fok_cons.1 hB
 split
 ·refine fok_app.2 ⟨hA,fok_cons.2 ⟨⟨by dsimp only;omega,by dsimp only;omega⟩,hB2,fun y hy=> ?_⟩,fun x hx y hy=> ?_⟩
  ·have:=heB y hy;dsimp only;omega
  ·rcases List.mem_cons.1 hy with rfl|hy
   ·have:=hAB x hx e List.mem_cons_self;dsimp only;omega
   ·exact hAB x hx y (List.mem_cons_of_mem _ hy)
 ·rw[List.nil_append]
  exact fok_app.2 ⟨hA,hB2,fun x hx y hy=>hAB x hx y (List.mem_cons_of_mem _ hy)⟩
theorem inF_held {A B:List Ext} {e:Ext} {n m:Nat} (h:fok n (A++e::B)) (h1:1≤m) (h2:m≤e.2) (x:Nat):
  inF (A++((if m<e.2 then[(e.1+m,e.2-m)] else[])++B)) x↔inF (A++e::B) x∧¬(e.1≤x∧x<e.1+m):=by
 obtain⟨hA,hB,hAB⟩:=fok_app.1 h
 obtain⟨he,hB2,heB⟩:=fok_cons.1 hB
 have key1:inF A x→x<e.1:=by
  rintro⟨y,hy,h3,h4⟩
  have:=hAB y hy e List.mem_cons_self
  omega
 have key2:inF B x→e.1+e.2<x:=by
  rintro⟨y,hy,h3,h4⟩
  have:=heB y hy
  omega
 by_cases hlt:m<e.2
 ·simp only[hlt,if_true,inF_app,inF_cons,inF_nil,or_false]
  constructor
  ·rintro(h|h|h)
   ·have:=key1 h;exact⟨.inl h,by omega⟩
   ·exact⟨.inr (.inl (by omega)),by omega⟩
   ·have:=key2 h;exact⟨.inr (.inr h),by omega⟩
  ·rintro⟨h|h|h,h5⟩
   ·exact .inl h
   ·exact .inr (.inl (by omega))
   ·exact .inr (.inr h)
 ·simp only[hlt,if_false,List.nil_append,inF_app,inF_cons]
  constructor
  ·rintro(h|h)
   ·have:=key1 h;exact⟨.inl h,by omega⟩
   ·have:=key2 h;exact⟨.inr (.inr h),by omega⟩
  ·rintro⟨h|h|h,h5⟩
   ·exact .inl h
   ·omega
   ·exact .inr h
theorem total_held {A B:List Ext} {e:Ext} {m:Nat} (h2:m≤e.2):total (A++((if m<e.2 then[(e.1+m,e.2-m)] else[])++B))+m=total (A++e::B):=by
 split<;>simp<;>omega
theorem big_held {A B:List Ext} {e:Ext} {m:Nat}:big (A++e::B)≤big (A++((if m<e.2 then[(e.1+m,e.2-m)] else[])++B))+m:=by
 split<;>simp only[big_app,big,List.nil_append]<;>omega
theorem Take_ok (bs:Nat) (σ:Sp) (c:Chunk) (h:IsSpace bs σ c) (m:Nat) (hm:1≤m) (hb:m≤big σ.free):
  Ct Tryz.prog 80 [.pointer (some ⟨bs,0,none⟩),.int .i64 (m:Int)] [c] fun v H'=>
   ∃(f:Nat) (c':Chunk) (σ':Sp),v= .tuple #[.int .i64 (f:Int),.int .i64 0]∧IsSpace bs σ' c'∧σ'.n=σ.n∧(∀x,f≤x→x<f+m→inF σ.free x)∧f+m≤σ.n∧
    (∀x,inF σ'.free x↔inF σ.free x∧¬(f≤x∧x<f+m))∧total σ'.free+m=total σ.free∧big σ.free≤big σ'.free+m∧H'=[c']:=by
 obtain⟨n,free⟩:=σ
 dsimp only at hb
 rcases first_fit m free with hno|⟨A,e,B,rfl,hme,hA⟩
 ·exfalso
  obtain⟨e,he,h2⟩:=big_mem (l:=free) (by omega)
  have:=hno e he
  omega
 obtain⟨p,cap,vc,rfl,hV,hfo,hn⟩:=h
 dsimp only at hV hfo hn
 have hH:=Hold_ct bs n cap p vc A B e hfo hn hV m hm hme
 refine Ct.conv (H2:=[[(bs,row (spCells n p (A++e::B).length cap) 122)],vc]) (R2:=fun v H'=>v= .tuple #[.int .i64 (e.1:Int),.int .i64 0]∧∃p' cap' vc' free',H'=[[(bs,row (spCells n p' free'.length cap') 122)],vc']∧
  Vec 119 2 p' free'.length cap' (ecells free') vc'∧free'=A++((if m<e.2 then[(e.1+m,e.2-m)] else[])++B)) ?_ (by simp) ?_
 ·have hlen:=fok_len hfo (k:=0) (by omega) (by omega)
  have hl:(A++e::B).length=A.length+1+B.length:=by simp;omega
  have hfb:=hfo.1
  obtain⟨_,h0|⟨vb,rest,rfl,rfl,hrl,hmc,hcm⟩⟩:=hV
  ·omega
  generalize hfr:A++e::B=free at*
  unfold spCells at hH⊢
  generalize hcl:ecells free++rest=cells at*
  refine Ct.intro Tryz.func80 rfl Tryz.ntmps80 (nle rfl) fun w0=> ?_;dsimp only[argSlots,Nat.reduceAdd]
  repeat(first|(refine st ?_;intros)|refine G.draw (id:=9) [(6,.eff [1])] (h:= ?_))
  refine G.loop (X:=Nat) (fun i=>i≤A.length) (fun i=>[(17,.int .i64 (i:Int)),(16,.int .i64 (free.length:Int)),(15,.slice (some ⟨vb,0,none⟩) free.length cap),(0,.pointer (some ⟨bs,0,none⟩)),(1,.int .i64 (m:Int))])
   (fun _=>[[(bs,row [.int .i64 0,.int .i64 (n:Int),.slice (some ⟨vb,0,none⟩) free.length cap] 122)],[(vb,row cells 119)]]) (fun i=>A.length-i) 0 (by omega) (body:= ?_)
  intro i hi
  obtain⟨A',x,B',hs,hA'⟩:=split_at (l:=free) (i:=i) (by omega)
  obtain⟨g1,g2,g3⟩:=eget (rest:=rest) (B:=B') (e:=x) hA'
  rw[←hs,hcl] at g1 g2 g3
  have hx1:free[i]? =some x:=by rw[hs,List.getElem?_append_right (by omega)];simp[hA']
  have hxn:=hfb x (List.mem_of_getElem? hx1)
  by_cases hiA:i<A.length
  ·have hxm:x.2<m:=by
    rw[←hfr,List.getElem?_append_left hiA] at hx1
    exact hA x (List.mem_of_getElem? hx1)
   repeat(first|(refine st ?_;intros)|refine G.draw (id:=9) [(6,.eff [1])] (h:= ?_))
   exact Dn.round (i+1) (by omega) (by omega)
  ·obtain rfl:i=A.length:=by omega
   have hxe:x=e:=by
    rw[←hfr] at hx1
    simpa using hx1.symm
   subst hxe
   repeat(first|(refine st ?_;intros)|refine G.draw (id:=9) [(6,.eff [1])] (h:= ?_))
   refine R.callX (hct:=hH) (h:= ?_)
   rintro _ _ ⟨rfl,p',cap',vc',free',rfl,hV',hf'⟩
   try dsimp only[List.cons_append,List.nil_append]
   constructor
   ·(·(first|(intro _ _ h;cases h;done)|(repeat(first|exact qok_nil|(apply qok_cons;(·first|(intro hc;exact absurd hc (nmem rfl))|(intro _;apply CellPr.mk;(·repeat(first|exact Has.here|apply Has.there));(first|exact rfl|assumption))|(intro _;apply CellsPr.mk;(·repeat(first|exact Has.here|apply Has.there));(first|exact rfl|assumption))))))))
   repeat(first|(refine st ?_;intros)|refine G.draw (id:=9) [(6,.eff [1])] (h:= ?_))
   (refine Dn.post (Hr:=[[(bs,row [.int .i64 0,.int .i64 (n:Int),.slice p' free'.length cap'] 122)],vc']) Tryz.results80 (hR:= ?_);exact⟨rfl,p',cap',vc',free',rfl,hV',hf'⟩)
 ·rintro v H' ⟨rfl,p',cap',vc',free',rfl,hV',hf'⟩
  refine⟨_,⟨e.1,_,⟨n,free'⟩,rfl,⟨p',cap',vc',rfl,hV',?_,hn⟩,rfl,?_,?_,?_,?_,?_,rfl⟩,by simp⟩
  ·rw[hf'];exact fok_held hfo hm hme
  ·intro x h1 h2
   dsimp only
   rw[inF_app,inF_cons]
   exact .inr (.inl (by omega))
  ·have:=hfo.1 e (by simp);dsimp only;omega
  ·intro x;rw[hf'];exact inF_held hfo hm hme x
  ·rw[hf'];exact total_held hme
  ·rw[hf'];exact big_held
theorem Take_full (bs:Nat) (σ:Sp) (c:Chunk) (h:IsSpace bs σ c) (m:Nat) (hm:1≤m) (hb:big σ.free<m) (hmm:m≤1000000000):
  CtQ Tryz.prog 80 [.pointer (some ⟨bs,0,none⟩),.int .i64 (m:Int)] [c] (.tuple #[.int .i64 0,.int .i64 5]):=by
 obtain⟨n,free⟩:=σ
 dsimp only at hb
 obtain⟨p,cap,vc,rfl,hV,hfo,hn⟩:=h
 dsimp only at hV hfo hn
 have hlen:=fok_len hfo (k:=0) (by omega) (by omega)
 refine CtQ.conv (H2:=[[(bs,row (spCells n p free.length cap) 122)],vc]) ?_ (by simp)
 unfold spCells
 refine Ct.intro Tryz.func80 rfl Tryz.ntmps80 (nle rfl) fun w0=> ?_;dsimp only[argSlots,Nat.reduceAdd]
 repeat(first|(refine st ?_;intros)|refine G.draw (id:=9) [(6,.eff [1])] (h:= ?_))
 refine G.loop (X:=Nat) (fun i=>i≤free.length) (fun i=>[(17,.int .i64 (i:Int)),(16,.int .i64 (free.length:Int)),(15,.slice p free.length cap),(0,.pointer (some ⟨bs,0,none⟩)),(1,.int .i64 (m:Int))])
  (fun _=>[[(bs,row [.int .i64 0,.int .i64 (n:Int),.slice p free.length cap] 122)],vc]) (fun i=>free.length-i) 0 (by omega) (body:= ?_)
 intro i hi
 by_cases hif:i<free.length
 ·obtain⟨A',x,B',hs,hA'⟩:=split_at (l:=free) (i:=i) (by omega)
  obtain⟨_,h0|⟨vb,rest,hp,hvc,hrl,hmc,hcm⟩⟩:=hV
  ·omega
  obtain⟨g1,g2,g3⟩:=eget (rest:=rest) (B:=B') (e:=x) hA'
  rw[←hs] at g1 g2 g3
  have hx1:free[i]? =some x:=by rw[hs,List.getElem?_append_right (by omega)];simp[hA']
  have hxn:=hfo.1 x (List.mem_of_getElem? hx1)
  have hxm:x.2<m:=by
   have:=le_big (List.mem_of_getElem? hx1)
   omega
  rw[hp,hvc]
  generalize ecells free++rest=cells at*
  repeat(first|(refine st ?_;intros)|refine G.draw (id:=9) [(6,.eff [1])] (h:= ?_))
  exact Dn.round (i+1) (by omega) (by omega)
 ·obtain rfl:i=free.length:=by omega
  repeat(first|(refine st ?_;intros)|refine G.draw (id:=9) [(6,.eff [1])] (h:= ?_))
  (refine Dn.post (Hr:=[[(bs,row [.int .i64 0,.int .i64 (n:Int),.slice p free.length cap] 122)],vc]) Tryz.results80 (hR:= ?_);exact⟨rfl,rfl⟩)
def Gave (n:Nat) (free free':List Ext) (first m:Nat):Prop:=fok n free'∧(∀x,inF free' x↔inF free x∨(first≤x∧x<first+m))∧total free'=total free+m∧big free≤big free'
section
variable (bs:Nat) (n cap:Nat) (p:Option Addr) (vc:Chunk) (first m:Nat) (hn:n≤1000000) (hm:1≤m) (hfm:first+m≤n)
include hn hm hfm
theorem Give00w (hfo:fok n (([]:List Ext)++([]:List Ext))) (hA:∀e∈(([]:List Ext):List Ext),e.1+e.2≤first) (hB:∀e∈(([]:List Ext):List Ext),first<e.1+e.2) (hV:Vec 119 2 p (([]:List Ext)++([]:List Ext)).length cap (ecells (([]:List Ext)++([]:List Ext))) vc):
  Ct Tryz.prog 85 [.pointer (some ⟨bs,0,none⟩),.int .i64 (first:Int),.int .i64 (m:Int)] [[(bs,row (spCells n p (([]:List Ext)++([]:List Ext)).length cap) 122)],vc] fun v H'=>
   v= .int .i64 0∧∃p' cap' vc',H'=[[(bs,row (spCells n p' ([]++[(first,m)]++[]).length cap') 122)],vc']∧Vec 119 2 p' ([]++[(first,m)]++[]).length cap' (ecells ([]++[(first,m)]++[])) vc':=by
 have hI:CtQ Tryz.prog 111 [.pointer (some ⟨bs,0,none⟩),.int .i64 (first:Int),.int .i64 (m:Int)] [[(bs,row (spCells n p (([]:List Ext)++([]:List Ext)).length cap) 122)],vc] (.bool true):=CtQ.conv (inside_ct bs ⟨n,(([]:List Ext)++([]:List Ext))⟩ _ ⟨p,cap,vc,rfl,hV,hfo,hn⟩ first m hm hfm) (by simp)
 have hBe:=behind_ct bs n cap first p vc ([]:List Ext) ([]:List Ext) hfo hn hV hA hB
 have hlen:=fok_len hfo (k:=0) (by omega) (by omega)
 have hl:(([]:List Ext)++([]:List Ext)).length=0+0:=by simp<;>omega
 have hlA:(([]:List Ext):List Ext).length=0:=by simp
 have hl2:([]++[(first,m)]++[]).length=0+1+0:=by simp<;>omega
 have hfb:=hfo.1
 have hE1:=end_ct first m (by omega)
 rw[hl] at hI hBe hlen⊢
 rw[hlA] at hBe
 rw[hl] at hV
 rw[hl2]
 unfold spCells at hI hBe⊢
 have hR:=fun bv=>RepAny_ct p cap [] [] [] (first,m) vc 0 (0+0) ((0:Nat):Int) ((0:Nat):Int) (first:Int) (m:Int) (by simp) (by omega) (by simp only[List.length_nil,List.length_cons]<;>omega) (by simp) (by simp only[List.length_nil,List.length_cons]<;>omega) (by omega) bv 1 [] (by first|rfl|omega) (by first|rfl|(dsimp only;omega)) hV
 simp only[List.append_nil] at hR
 refine Ct.intro Tryz.func85 rfl Tryz.ntmps85 (nle rfl) fun w0=> ?_;dsimp only[argSlots,Nat.reduceAdd]
 repeat(first|(refine st ?_;intros)|refine G.draw (id:=7) [(17,.quiet)] (h:= ?_)|refine G.draw [] (h:= ?_)|(refine cq hI ?_)|(refine cq hBe ?_)|(refine cq hE0 ?_)|(refine cq hE1 ?_))
 refine R.call (hct:=hR _) (h:= ?_)
 rintro _ _ ⟨p2,cap2,c2,rfl,hV2,rfl⟩
 try dsimp only[List.cons_append,List.nil_append]
 repeat(first|(refine st ?_;intros)|refine G.draw (id:=7) [(17,.quiet)] (h:= ?_)|refine G.draw [] (h:= ?_)|(refine cq hI ?_)|(refine cq hBe ?_)|(refine cq hE0 ?_)|(refine cq hE1 ?_))
 (refine Dn.post (Hr:=[[(bs,row [.int .i64 0,.int .i64 (n:Int),.slice p2 (0+1+([]:List Ext).length) cap2] 122)],c2]) Tryz.results85 (hR:= ?_);refine⟨rfl,p2,cap2,c2,?_,?_⟩)
 ·first|rfl|(rw[show([]:List Ext).length=0 by simp])
 ·first|exact hV2|(simpa using hV2)|(rw[show 0+1+0=0+1+([]:List Ext).length by simp];exact hV2)
theorem Give01w (B2:List Ext) (e1:Ext) (hb:first+m<e1.1) (hfo:fok n (([]:List Ext)++(e1::B2))) (hA:∀e∈(([]:List Ext):List Ext),e.1+e.2≤first) (hB:∀e∈((e1::B2):List Ext),first<e.1+e.2) (hV:Vec 119 2 p (([]:List Ext)++(e1::B2)).length cap (ecells (([]:List Ext)++(e1::B2))) vc):
  Ct Tryz.prog 85 [.pointer (some ⟨bs,0,none⟩),.int .i64 (first:Int),.int .i64 (m:Int)] [[(bs,row (spCells n p (([]:List Ext)++(e1::B2)).length cap) 122)],vc] fun v H'=>
   v= .int .i64 0∧∃p' cap' vc',H'=[[(bs,row (spCells n p' ([]++[(first,m)]++(e1::B2)).length cap') 122)],vc']∧Vec 119 2 p' ([]++[(first,m)]++(e1::B2)).length cap' (ecells ([]++[(first,m)]++(e1::B2))) vc':=by
 have hI:CtQ Tryz.prog 111 [.pointer (some ⟨bs,0,none⟩),.int .i64 (first:Int),.int .i64 (m:Int)] [[(bs,row (spCells n p (([]:List Ext)++(e1::B2)).length cap) 122)],vc] (.bool true):=CtQ.conv (inside_ct bs ⟨n,(([]:List Ext)++(e1::B2))⟩ _ ⟨p,cap,vc,rfl,hV,hfo,hn⟩ first m hm hfm) (by simp)
 have hBe:=behind_ct bs n cap first p vc ([]:List Ext) (e1::B2) hfo hn hV hA hB
 have hlen:=fok_len hfo (k:=0) (by omega) (by omega)
 have hl:(([]:List Ext)++(e1::B2)).length=0+(B2.length+1):=by simp<;>omega
 have hlA:(([]:List Ext):List Ext).length=0:=by simp
 have hl2:([]++[(first,m)]++(e1::B2)).length=0+1+(B2.length+1):=by simp<;>omega
 have hfb:=hfo.1
 have hE1:=end_ct first m (by omega)
 have hb1:=hfb e1 (by simp)
 rw[hl] at hI hBe hlen⊢
 rw[hlA] at hBe
 rw[hl] at hV
 rw[hl2]
 unfold spCells at hI hBe⊢
 have hVV:=hV
 obtain⟨_,h0|⟨vb,rest,rfl,rfl,hrl,hmc,hcm⟩⟩:=hV
 ·omega
 obtain⟨k1,k2,k3⟩:=eget (A:=([]:List Ext)) (rest:=rest) (B:=B2) (e:=e1) (i:=0) (by simp)
 generalize hcl:ecells (([]:List Ext)++(e1::B2))++rest=cells at*
 have hR:=fun bv=>RepAny_ct (some ⟨vb,0,none⟩) cap [] (e1::B2) [] (first,m) [(vb,row cells 119)] 0 (0+(B2.length+1)) ((0:Nat):Int) ((0:Nat):Int) (first:Int) (m:Int) (by simp) (by omega) (by simp only[List.length_nil,List.length_cons]<;>omega) (by simp) (by simp only[List.length_nil,List.length_cons]<;>omega) (by omega) bv 1 [] (by first|rfl|omega) (by first|rfl|(dsimp only;omega))
  (by rw[show[]++[]++(e1::B2)=(([]:List Ext)++(e1::B2)) by simp];exact hVV)
 simp only[List.append_nil] at hR
 refine Ct.intro Tryz.func85 rfl Tryz.ntmps85 (nle rfl) fun w0=> ?_;dsimp only[argSlots,Nat.reduceAdd]
 repeat(first|(refine st ?_;intros)|refine G.draw (id:=7) [(17,.quiet)] (h:= ?_)|refine G.draw [] (h:= ?_)|(refine cq hI ?_)|(refine cq hBe ?_)|(refine cq hE0 ?_)|(refine cq hE1 ?_))
 refine R.call (hct:=hR _) (h:= ?_)
 rintro _ _ ⟨p2,cap2,c2,rfl,hV2,rfl⟩
 try dsimp only[List.cons_append,List.nil_append]
 repeat(first|(refine st ?_;intros)|refine G.draw (id:=7) [(17,.quiet)] (h:= ?_)|refine G.draw [] (h:= ?_)|(refine cq hI ?_)|(refine cq hBe ?_)|(refine cq hE0 ?_)|(refine cq hE1 ?_))
 (refine Dn.post (Hr:=[[(bs,row [.int .i64 0,.int .i64 (n:Int),.slice p2 (0+1+((e1::B2):List Ext).length) cap2] 122)],c2]) Tryz.results85 (hR:= ?_);refine⟨rfl,p2,cap2,c2,?_,?_⟩)
 ·first|rfl|(rw[show((e1::B2):List Ext).length=(B2.length+1) by simp])
 ·first|exact hV2|(simpa using hV2)|(rw[show 0+1+(B2.length+1)=0+1+((e1::B2):List Ext).length by simp];exact hV2)
theorem Give02w (B2:List Ext) (e1:Ext) (hb:e1.1=first+m) (hfo:fok n (([]:List Ext)++(e1::B2))) (hA:∀e∈(([]:List Ext):List Ext),e.1+e.2≤first) (hB:∀e∈((e1::B2):List Ext),first<e.1+e.2) (hV:Vec 119 2 p (([]:List Ext)++(e1::B2)).length cap (ecells (([]:List Ext)++(e1::B2))) vc):
  Ct Tryz.prog 85 [.pointer (some ⟨bs,0,none⟩),.int .i64 (first:Int),.int .i64 (m:Int)] [[(bs,row (spCells n p (([]:List Ext)++(e1::B2)).length cap) 122)],vc] fun v H'=>
   v= .int .i64 0∧∃p' cap' vc',H'=[[(bs,row (spCells n p' ([]++[(first,m+e1.2)]++B2).length cap') 122)],vc']∧Vec 119 2 p' ([]++[(first,m+e1.2)]++B2).length cap' (ecells ([]++[(first,m+e1.2)]++B2)) vc':=by
 have hI:CtQ Tryz.prog 111 [.pointer (some ⟨bs,0,none⟩),.int .i64 (first:Int),.int .i64 (m:Int)] [[(bs,row (spCells n p (([]:List Ext)++(e1::B2)).length cap) 122)],vc] (.bool true):=CtQ.conv (inside_ct bs ⟨n,(([]:List Ext)++(e1::B2))⟩ _ ⟨p,cap,vc,rfl,hV,hfo,hn⟩ first m hm hfm) (by simp)
 have hBe:=behind_ct bs n cap first p vc ([]:List Ext) (e1::B2) hfo hn hV hA hB
 have hlen:=fok_len hfo (k:=0) (by omega) (by omega)
 have hl:(([]:List Ext)++(e1::B2)).length=0+(B2.length+1):=by simp<;>omega
 have hlA:(([]:List Ext):List Ext).length=0:=by simp
 have hl2:([]++[(first,m+e1.2)]++B2).length=0+1+B2.length:=by simp<;>omega
 have hfb:=hfo.1
 have hE1:=end_ct first m (by omega)
 have hb1:=hfb e1 (by simp)
 rw[hl] at hI hBe hlen⊢
 rw[hlA] at hBe
 rw[hl] at hV
 rw[hl2]
 unfold spCells at hI hBe⊢
 have hVV:=hV
 obtain⟨_,h0|⟨vb,rest,rfl,rfl,hrl,hmc,hcm⟩⟩:=hV
 ·omega
 obtain⟨k1,k2,k3⟩:=eget (A:=([]:List Ext)) (rest:=rest) (B:=B2) (e:=e1) (i:=0) (by simp)
 generalize hcl:ecells (([]:List Ext)++(e1::B2))++rest=cells at*
 have hR:=fun bv=>RepAny_ct (some ⟨vb,0,none⟩) cap [] B2 [e1] (first,m+e1.2) [(vb,row cells 119)] 0 (0+(B2.length+1)) ((0:Nat):Int) (((0:Nat):Int)+1) (first:Int) ((m:Int)+(e1.2:Int)) (by simp) (by omega) (by simp only[List.length_nil,List.length_cons]<;>omega) (by simp) (by simp only[List.length_nil,List.length_cons]<;>omega) (by omega) bv 1 [] (by first|rfl|omega) (by first|rfl|(dsimp only;omega))
  (by rw[show[]++[e1]++B2=(([]:List Ext)++(e1::B2)) by simp];exact hVV)
 simp only[List.append_nil] at hR
 refine Ct.intro Tryz.func85 rfl Tryz.ntmps85 (nle rfl) fun w0=> ?_;dsimp only[argSlots,Nat.reduceAdd]
 repeat(first|(refine st ?_;intros)|refine G.draw (id:=7) [(17,.quiet)] (h:= ?_)|refine G.draw [] (h:= ?_)|(refine cq hI ?_)|(refine cq hBe ?_)|(refine cq hE0 ?_)|(refine cq hE1 ?_))
 refine R.call (hct:=hR _) (h:= ?_)
 rintro _ _ ⟨p2,cap2,c2,rfl,hV2,rfl⟩
 try dsimp only[List.cons_append,List.nil_append]
 repeat(first|(refine st ?_;intros)|refine G.draw (id:=7) [(17,.quiet)] (h:= ?_)|refine G.draw [] (h:= ?_)|(refine cq hI ?_)|(refine cq hBe ?_)|(refine cq hE0 ?_)|(refine cq hE1 ?_))
 (refine Dn.post (Hr:=[[(bs,row [.int .i64 0,.int .i64 (n:Int),.slice p2 (0+1+(B2:List Ext).length) cap2] 122)],c2]) Tryz.results85 (hR:= ?_);refine⟨rfl,p2,cap2,c2,?_,?_⟩)
 ·first|rfl|(rw[show(B2:List Ext).length=B2.length by simp])
 ·first|exact hV2|(simpa using hV2)|(rw[show 0+1+B2.length=0+1+(B2:List Ext).length by simp];exact hV2)
theorem Give10w (A2:List Ext) (e0:Ext) (ha:e0.1+e0.2<first) (hfo:fok n ((A2++[e0])++([]:List Ext))) (hA:∀e∈((A2++[e0]):List Ext),e.1+e.2≤first) (hB:∀e∈(([]:List Ext):List Ext),first<e.1+e.2) (hV:Vec 119 2 p ((A2++[e0])++([]:List Ext)).length cap (ecells ((A2++[e0])++([]:List Ext))) vc):
  Ct Tryz.prog 85 [.pointer (some ⟨bs,0,none⟩),.int .i64 (first:Int),.int .i64 (m:Int)] [[(bs,row (spCells n p ((A2++[e0])++([]:List Ext)).length cap) 122)],vc] fun v H'=>
   v= .int .i64 0∧∃p' cap' vc',H'=[[(bs,row (spCells n p' ((A2++[e0])++[(first,m)]++[]).length cap') 122)],vc']∧Vec 119 2 p' ((A2++[e0])++[(first,m)]++[]).length cap' (ecells ((A2++[e0])++[(first,m)]++[])) vc':=by
 have hI:CtQ Tryz.prog 111 [.pointer (some ⟨bs,0,none⟩),.int .i64 (first:Int),.int .i64 (m:Int)] [[(bs,row (spCells n p ((A2++[e0])++([]:List Ext)).length cap) 122)],vc] (.bool true):=CtQ.conv (inside_ct bs ⟨n,((A2++[e0])++([]:List Ext))⟩ _ ⟨p,cap,vc,rfl,hV,hfo,hn⟩ first m hm hfm) (by simp)
 have hBe:=behind_ct bs n cap first p vc (A2++[e0]) ([]:List Ext) hfo hn hV hA hB
 have hlen:=fok_len hfo (k:=0) (by omega) (by omega)
 have hl:((A2++[e0])++([]:List Ext)).length=(A2.length+1)+0:=by simp<;>omega
 have hlA:((A2++[e0]):List Ext).length=(A2.length+1):=by simp
 have hl2:((A2++[e0])++[(first,m)]++[]).length=(A2.length+1)+1+0:=by simp<;>omega
 have hfb:=hfo.1
 have hE1:=end_ct first m (by omega)
 have hb0:=hfb e0 (by simp)
 have hE0:=end_ct e0.1 e0.2 (by omega)
 rw[hl] at hI hBe hlen⊢
 rw[hlA] at hBe
 rw[hl] at hV
 rw[hl2]
 unfold spCells at hI hBe⊢
 have hVV:=hV
 obtain⟨_,h0|⟨vb,rest,rfl,rfl,hrl,hmc,hcm⟩⟩:=hV
 ·omega
 obtain⟨g1,g2,g3⟩:=eget (A:=A2) (rest:=rest) (B:=([]:List Ext)) (e:=e0) (rfl:A2.length=A2.length)
 rw[show A2++e0::([]:List Ext)=((A2++[e0])++([]:List Ext)) by simp] at g1 g2 g3
 have ei:(((A2.length+1:Nat):Int)-1).toNat=A2.length:=by omega
 generalize hcl:ecells ((A2++[e0])++([]:List Ext))++rest=cells at*
 have hR:=fun bv=>RepAny_ct (some ⟨vb,0,none⟩) cap (A2++[e0]) [] [] (first,m) [(vb,row cells 119)] (A2.length+1) ((A2.length+1)+0) (((A2.length+1):Nat):Int) (((A2.length+1):Nat):Int) (first:Int) (m:Int) (by simp) (by omega) (by simp only[List.length_nil,List.length_cons]<;>omega) (by simp) (by simp only[List.length_nil,List.length_cons]<;>omega) (by omega) bv 1 [] (by first|rfl|omega) (by first|rfl|(dsimp only;omega))
  (by rw[show(A2++[e0])++[]++[]=((A2++[e0])++([]:List Ext)) by simp];exact hVV)
 simp only[List.append_nil] at hR
 refine Ct.intro Tryz.func85 rfl Tryz.ntmps85 (nle rfl) fun w0=> ?_;dsimp only[argSlots,Nat.reduceAdd]
 repeat(first|(refine st ?_;intros)|refine G.draw (id:=7) [(17,.quiet)] (h:= ?_)|refine G.draw [] (h:= ?_)|(refine cq hI ?_)|(refine cq hBe ?_)|(refine cq hE0 ?_)|(refine cq hE1 ?_))
 refine R.call (hct:=hR _) (h:= ?_)
 rintro _ _ ⟨p2,cap2,c2,rfl,hV2,rfl⟩
 try dsimp only[List.cons_append,List.nil_append]
 repeat(first|(refine st ?_;intros)|refine G.draw (id:=7) [(17,.quiet)] (h:= ?_)|refine G.draw [] (h:= ?_)|(refine cq hI ?_)|(refine cq hBe ?_)|(refine cq hE0 ?_)|(refine cq hE1 ?_))
 (refine Dn.post (Hr:=[[(bs,row [.int .i64 0,.int .i64 (n:Int),.slice p2 ((A2.length+1)+1+([]:List Ext).length) cap2] 122)],c2]) Tryz.results85 (hR:= ?_);refine⟨rfl,p2,cap2,c2,?_,?_⟩)
 ·first|rfl|(rw[show([]:List Ext).length=0 by simp])
 ·first|exact hV2|(simpa using hV2)|(rw[show(A2.length+1)+1+0=(A2.length+1)+1+([]:List Ext).length by simp];exact hV2)
theorem Give11w (A2:List Ext) (e0:Ext) (B2:List Ext) (e1:Ext) (ha:e0.1+e0.2<first) (hb:first+m<e1.1) (hfo:fok n ((A2++[e0])++(e1::B2))) (hA:∀e∈((A2++[e0]):List Ext),e.1+e.2≤first) (hB:∀e∈((e1::B2):List Ext),first<e.1+e.2) (hV:Vec 119 2 p ((A2++[e0])++(e1::B2)).length cap (ecells ((A2++[e0])++(e1::B2))) vc):
  Ct Tryz.prog 85 [.pointer (some ⟨bs,0,none⟩),.int .i64 (first:Int),.int .i64 (m:Int)] [[(bs,row (spCells n p ((A2++[e0])++(e1::B2)).length cap) 122)],vc] fun v H'=>
   v= .int .i64 0∧∃p' cap' vc',H'=[[(bs,row (spCells n p' ((A2++[e0])++[(first,m)]++(e1::B2)).length cap') 122)],vc']∧Vec 119 2 p' ((A2++[e0])++[(first,m)]++(e1::B2)).length cap' (ecells ((A2++[e0])++[(first,m)]++(e1::B2))) vc':=by
 have hI:CtQ Tryz.prog 111 [.pointer (some ⟨bs,0,none⟩),.int .i64 (first:Int),.int .i64 (m:Int)] [[(bs,row (spCells n p ((A2++[e0])++(e1::B2)).length cap) 122)],vc] (.bool true):=CtQ.conv (inside_ct bs ⟨n,((A2++[e0])++(e1::B2))⟩ _ ⟨p,cap,vc,rfl,hV,hfo,hn⟩ first m hm hfm) (by simp)
 have hBe:=behind_ct bs n cap first p vc (A2++[e0]) (e1::B2) hfo hn hV hA hB
 have hlen:=fok_len hfo (k:=0) (by omega) (by omega)
 have hl:((A2++[e0])++(e1::B2)).length=(A2.length+1)+(B2.length+1):=by simp<;>omega
 have hlA:((A2++[e0]):List Ext).length=(A2.length+1):=by simp
 have hl2:((A2++[e0])++[(first,m)]++(e1::B2)).length=(A2.length+1)+1+(B2.length+1):=by simp<;>omega
 have hfb:=hfo.1
 have hE1:=end_ct first m (by omega)
 have hb0:=hfb e0 (by simp)
 have hE0:=end_ct e0.1 e0.2 (by omega)
 have hb1:=hfb e1 (by simp)
 rw[hl] at hI hBe hlen⊢
 rw[hlA] at hBe
 rw[hl] at hV
 rw[hl2]
 unfold spCells at hI hBe⊢
 have hVV:=hV
 obtain⟨_,h0|⟨vb,rest,rfl,rfl,hrl,hmc,hcm⟩⟩:=hV
 ·omega
 obtain⟨g1,g2,g3⟩:=eget (A:=A2) (rest:=rest) (B:=(e1::B2)) (e:=e0) (rfl:A2.length=A2.length)
 rw[show A2++e0::(e1::B2)=((A2++[e0])++(e1::B2)) by simp] at g1 g2 g3
 have ei:(((A2.length+1:Nat):Int)-1).toNat=A2.length:=by omega
 obtain⟨k1,k2,k3⟩:=eget (A:=(A2++[e0])) (rest:=rest) (B:=B2) (e:=e1) (i:=(A2.length+1)) (by simp)
 generalize hcl:ecells ((A2++[e0])++(e1::B2))++rest=cells at*
 have hR:=fun bv=>RepAny_ct (some ⟨vb,0,none⟩) cap (A2++[e0]) (e1::B2) [] (first,m) [(vb,row cells 119)] (A2.length+1) ((A2.length+1)+(B2.length+1)) (((A2.length+1):Nat):Int) (((A2.length+1):Nat):Int) (first:Int) (m:Int) (by simp) (by omega) (by simp only[List.length_nil,List.length_cons]<;>omega) (by simp) (by simp only[List.length_nil,List.length_cons]<;>omega) (by omega) bv 1 [] (by first|rfl|omega) (by first|rfl|(dsimp only;omega))
  (by rw[show(A2++[e0])++[]++(e1::B2)=((A2++[e0])++(e1::B2)) by simp];exact hVV)
 simp only[List.append_nil] at hR
 refine Ct.intro Tryz.func85 rfl Tryz.ntmps85 (nle rfl) fun w0=> ?_;dsimp only[argSlots,Nat.reduceAdd]
 repeat(first|(refine st ?_;intros)|refine G.draw (id:=7) [(17,.quiet)] (h:= ?_)|refine G.draw [] (h:= ?_)|(refine cq hI ?_)|(refine cq hBe ?_)|(refine cq hE0 ?_)|(refine cq hE1 ?_))
 refine R.call (hct:=hR _) (h:= ?_)
 rintro _ _ ⟨p2,cap2,c2,rfl,hV2,rfl⟩
 try dsimp only[List.cons_append,List.nil_append]
 repeat(first|(refine st ?_;intros)|refine G.draw (id:=7) [(17,.quiet)] (h:= ?_)|refine G.draw [] (h:= ?_)|(refine cq hI ?_)|(refine cq hBe ?_)|(refine cq hE0 ?_)|(refine cq hE1 ?_))
 (refine Dn.post (Hr:=[[(bs,row [.int .i64 0,.int .i64 (n:Int),.slice p2 ((A2.length+1)+1+((e1::B2):List Ext).length) cap2] 122)],c2]) Tryz.results85 (hR:= ?_);refine⟨rfl,p2,cap2,c2,?_,?_⟩)
 ·first|rfl|(rw[show((e1::B2):List Ext).length=(B2.length+1) by simp])
 ·first|exact hV2|(simpa using hV2)|(rw[show(A2.length+1)+1+(B2.length+1)=(A2.length+1)+1+((e1::B2):List Ext).length by simp];exact hV2)
theorem Give12w (A2:List Ext) (e0:Ext) (B2:List Ext) (e1:Ext) (ha:e0.1+e0.2<first) (hb:e1.1=first+m) (hfo:fok n ((A2++[e0])++(e1::B2))) (hA:∀e∈((A2++[e0]):List Ext),e.1+e.2≤first) (hB:∀e∈((e1::B2):List Ext),first<e.1+e.2) (hV:Vec 119 2 p ((A2++[e0])++(e1::B2)).length cap (ecells ((A2++[e0])++(e1::B2))) vc):
  Ct Tryz.prog 85 [.pointer (some ⟨bs,0,none⟩),.int .i64 (first:Int),.int .i64 (m:Int)] [[(bs,row (spCells n p ((A2++[e0])++(e1::B2)).length cap) 122)],vc] fun v H'=>
   v= .int .i64 0∧∃p' cap' vc',H'=[[(bs,row (spCells n p' ((A2++[e0])++[(first,m+e1.2)]++B2).length cap') 122)],vc']∧Vec 119 2 p' ((A2++[e0])++[(first,m+e1.2)]++B2).length cap' (ecells ((A2++[e0])++[(first,m+e1.2)]++B2)) vc':=by
 have hI:CtQ Tryz.prog 111 [.pointer (some ⟨bs,0,none⟩),.int .i64 (first:Int),.int .i64 (m:Int)] [[(bs,row (spCells n p ((A2++[e0])++(e1::B2)).length cap) 122)],vc] (.bool true):=CtQ.conv (inside_ct bs ⟨n,((A2++[e0])++(e1::B2))⟩ _ ⟨p,cap,vc,rfl,hV,hfo,hn⟩ first m hm hfm) (by simp)
 have hBe:=behind_ct bs n cap first p vc (A2++[e0]) (e1::B2) hfo hn hV hA hB
 have hlen:=fok_len hfo (k:=0) (by omega) (by omega)
 have hl:((A2++[e0])++(e1::B2)).length=(A2.length+1)+(B2.length+1):=by simp<;>omega
 have hlA:((A2++[e0]):List Ext).length=(A2.length+1):=by simp
 have hl2:((A2++[e0])++[(first,m+e1.2)]++B2).length=(A2.length+1)+1+B2.length:=by simp<;>omega
 have hfb:=hfo.1
 have hE1:=end_ct first m (by omega)
 have hb0:=hfb e0 (by simp)
 have hE0:=end_ct e0.1 e0.2 (by omega)
 have hb1:=hfb e1 (by simp)
 rw[hl] at hI hBe hlen⊢
 rw[hlA] at hBe
 rw[hl] at hV
 rw[hl2]
 unfold spCells at hI hBe⊢
 have hVV:=hV
 obtain⟨_,h0|⟨vb,rest,rfl,rfl,hrl,hmc,hcm⟩⟩:=hV
 ·omega
 obtain⟨g1,g2,g3⟩:=eget (A:=A2) (rest:=rest) (B:=(e1::B2)) (e:=e0) (rfl:A2.length=A2.length)
 rw[show A2++e0::(e1::B2)=((A2++[e0])++(e1::B2)) by simp] at g1 g2 g3
 have ei:(((A2.length+1:Nat):Int)-1).toNat=A2.length:=by omega
 obtain⟨k1,k2,k3⟩:=eget (A:=(A2++[e0])) (rest:=rest) (B:=B2) (e:=e1) (i:=(A2.length+1)) (by simp)
 generalize hcl:ecells ((A2++[e0])++(e1::B2))++rest=cells at*
 have hR:=fun bv=>RepAny_ct (some ⟨vb,0,none⟩) cap (A2++[e0]) B2 [e1] (first,m+e1.2) [(vb,row cells 119)] (A2.length+1) ((A2.length+1)+(B2.length+1)) (((A2.length+1):Nat):Int) ((((A2.length+1):Nat):Int)+1) (first:Int) ((m:Int)+(e1.2:Int)) (by simp) (by omega) (by simp only[List.length_nil,List.length_cons]<;>omega) (by simp) (by simp only[List.length_nil,List.length_cons]<;>omega) (by omega) bv 1 [] (by first|rfl|omega) (by first|rfl|(dsimp only;omega))
  (by rw[show(A2++[e0])++[e1]++B2=((A2++[e0])++(e1::B2)) by simp];exact hVV)
 simp only[List.append_nil] at hR
 refine Ct.intro Tryz.func85 rfl Tryz.ntmps85 (nle rfl) fun w0=> ?_;dsimp only[argSlots,Nat.reduceAdd]
 repeat(first|(refine st ?_;intros)|refine G.draw (id:=7) [(17,.quiet)] (h:= ?_)|refine G.draw [] (h:= ?_)|(refine cq hI ?_)|(refine cq hBe ?_)|(refine cq hE0 ?_)|(refine cq hE1 ?_))
 refine R.call (hct:=hR _) (h:= ?_)
 rintro _ _ ⟨p2,cap2,c2,rfl,hV2,rfl⟩
 try dsimp only[List.cons_append,List.nil_append]
 repeat(first|(refine st ?_;intros)|refine G.draw (id:=7) [(17,.quiet)] (h:= ?_)|refine G.draw [] (h:= ?_)|(refine cq hI ?_)|(refine cq hBe ?_)|(refine cq hE0 ?_)|(refine cq hE1 ?_))
 (refine Dn.post (Hr:=[[(bs,row [.int .i64 0,.int .i64 (n:Int),.slice p2 ((A2.length+1)+1+(B2:List Ext).length) cap2] 122)],c2]) Tryz.results85 (hR:= ?_);refine⟨rfl,p2,cap2,c2,?_,?_⟩)
 ·first|rfl|(rw[show(B2:List Ext).length=B2.length by simp])
 ·first|exact hV2|(simpa using hV2)|(rw[show(A2.length+1)+1+B2.length=(A2.length+1)+1+(B2:List Ext).length by simp];exact hV2)
theorem Give20w (A2:List Ext) (e0:Ext) (ha:e0.1+e0.2=first) (hfo:fok n ((A2++[e0])++([]:List Ext))) (hA:∀e∈((A2++[e0]):List Ext),e.1+e.2≤first) (hB:∀e∈(([]:List Ext):List Ext),first<e.1+e.2) (hV:Vec 119 2 p ((A2++[e0])++([]:List Ext)).length cap (ecells ((A2++[e0])++([]:List Ext))) vc):
  Ct Tryz.prog 85 [.pointer (some ⟨bs,0,none⟩),.int .i64 (first:Int),.int .i64 (m:Int)] [[(bs,row (spCells n p ((A2++[e0])++([]:List Ext)).length cap) 122)],vc] fun v H'=>
   v= .int .i64 0∧∃p' cap' vc',H'=[[(bs,row (spCells n p' (A2++[(e0.1,m+e0.2)]++[]).length cap') 122)],vc']∧Vec 119 2 p' (A2++[(e0.1,m+e0.2)]++[]).length cap' (ecells (A2++[(e0.1,m+e0.2)]++[])) vc':=by
 have hI:CtQ Tryz.prog 111 [.pointer (some ⟨bs,0,none⟩),.int .i64 (first:Int),.int .i64 (m:Int)] [[(bs,row (spCells n p ((A2++[e0])++([]:List Ext)).length cap) 122)],vc] (.bool true):=CtQ.conv (inside_ct bs ⟨n,((A2++[e0])++([]:List Ext))⟩ _ ⟨p,cap,vc,rfl,hV,hfo,hn⟩ first m hm hfm) (by simp)
 have hBe:=behind_ct bs n cap first p vc (A2++[e0]) ([]:List Ext) hfo hn hV hA hB
 have hlen:=fok_len hfo (k:=0) (by omega) (by omega)
 have hl:((A2++[e0])++([]:List Ext)).length=(A2.length+1)+0:=by simp<;>omega
 have hlA:((A2++[e0]):List Ext).length=(A2.length+1):=by simp
 have hl2:(A2++[(e0.1,m+e0.2)]++[]).length=A2.length+1+0:=by simp<;>omega
 have hfb:=hfo.1
 have hE1:=end_ct first m (by omega)
 have hb0:=hfb e0 (by simp)
 have hE0:=end_ct e0.1 e0.2 (by omega)
 rw[hl] at hI hBe hlen⊢
 rw[hlA] at hBe
 rw[hl] at hV
 rw[hl2]
 unfold spCells at hI hBe⊢
 have hVV:=hV
 obtain⟨_,h0|⟨vb,rest,rfl,rfl,hrl,hmc,hcm⟩⟩:=hV
 ·omega
 obtain⟨g1,g2,g3⟩:=eget (A:=A2) (rest:=rest) (B:=([]:List Ext)) (e:=e0) (rfl:A2.length=A2.length)
 rw[show A2++e0::([]:List Ext)=((A2++[e0])++([]:List Ext)) by simp] at g1 g2 g3
 have ei:(((A2.length+1:Nat):Int)-1).toNat=A2.length:=by omega
 generalize hcl:ecells ((A2++[e0])++([]:List Ext))++rest=cells at*
 have hR:=fun bv=>RepAny_ct (some ⟨vb,0,none⟩) cap A2 [] [e0] (e0.1,m+e0.2) [(vb,row cells 119)] A2.length ((A2.length+1)+0) ((((A2.length+1):Nat):Int)-1) (((A2.length+1):Nat):Int) (e0.1:Int) ((m:Int)+(e0.2:Int)) (by simp) (by omega) (by simp only[List.length_nil,List.length_cons]<;>omega) (by simp) (by simp only[List.length_nil,List.length_cons]<;>omega) (by omega) bv 1 [] (by first|rfl|omega) (by first|rfl|(dsimp only;omega))
  (by rw[show A2++[e0]++[]=((A2++[e0])++([]:List Ext)) by simp];exact hVV)
 simp only[List.append_nil] at hR
 refine Ct.intro Tryz.func85 rfl Tryz.ntmps85 (nle rfl) fun w0=> ?_;dsimp only[argSlots,Nat.reduceAdd]
 repeat(first|(refine st ?_;intros)|refine G.draw (id:=7) [(17,.quiet)] (h:= ?_)|refine G.draw [] (h:= ?_)|(refine cq hI ?_)|(refine cq hBe ?_)|(refine cq hE0 ?_)|(refine cq hE1 ?_))
 refine R.call (hct:=hR _) (h:= ?_)
 rintro _ _ ⟨p2,cap2,c2,rfl,hV2,rfl⟩
 try dsimp only[List.cons_append,List.nil_append]
 repeat(first|(refine st ?_;intros)|refine G.draw (id:=7) [(17,.quiet)] (h:= ?_)|refine G.draw [] (h:= ?_)|(refine cq hI ?_)|(refine cq hBe ?_)|(refine cq hE0 ?_)|(refine cq hE1 ?_))
 (refine Dn.post (Hr:=[[(bs,row [.int .i64 0,.int .i64 (n:Int),.slice p2 (A2.length+1+([]:List Ext).length) cap2] 122)],c2]) Tryz.results85 (hR:= ?_);refine⟨rfl,p2,cap2,c2,?_,?_⟩)
 ·first|rfl|(rw[show([]:List Ext).length=0 by simp])
 ·first|exact hV2|(simpa using hV2)|(rw[show A2.length+1+0=A2.length+1+([]:List Ext).length by simp];exact hV2)
theorem Give21w (A2:List Ext) (e0:Ext) (B2:List Ext) (e1:Ext) (ha:e0.1+e0.2=first) (hb:first+m<e1.1) (hfo:fok n ((A2++[e0])++(e1::B2))) (hA:∀e∈((A2++[e0]):List Ext),e.1+e.2≤first) (hB:∀e∈((e1::B2):List Ext),first<e.1+e.2) (hV:Vec 119 2 p ((A2++[e0])++(e1::B2)).length cap (ecells ((A2++[e0])++(e1::B2))) vc):
  Ct Tryz.prog 85 [.pointer (some ⟨bs,0,none⟩),.int .i64 (first:Int),.int .i64 (m:Int)] [[(bs,row (spCells n p ((A2++[e0])++(e1::B2)).length cap) 122)],vc] fun v H'=>
   v= .int .i64 0∧∃p' cap' vc',H'=[[(bs,row (spCells n p' (A2++[(e0.1,m+e0.2)]++(e1::B2)).length cap') 122)],vc']∧Vec 119 2 p' (A2++[(e0.1,m+e0.2)]++(e1::B2)).length cap' (ecells (A2++[(e0.1,m+e0.2)]++(e1::B2))) vc':=by
 have hI:CtQ Tryz.prog 111 [.pointer (some ⟨bs,0,none⟩),.int .i64 (first:Int),.int .i64 (m:Int)] [[(bs,row (spCells n p ((A2++[e0])++(e1::B2)).length cap) 122)],vc] (.bool true):=CtQ.conv (inside_ct bs ⟨n,((A2++[e0])++(e1::B2))⟩ _ ⟨p,cap,vc,rfl,hV,hfo,hn⟩ first m hm hfm) (by simp)
 have hBe:=behind_ct bs n cap first p vc (A2++[e0]) (e1::B2) hfo hn hV hA hB
 have hlen:=fok_len hfo (k:=0) (by omega) (by omega)
 have hl:((A2++[e0])++(e1::B2)).length=(A2.length+1)+(B2.length+1):=by simp<;>omega
 have hlA:((A2++[e0]):List Ext).length=(A2.length+1):=by simp
 have hl2:(A2++[(e0.1,m+e0.2)]++(e1::B2)).length=A2.length+1+(B2.length+1):=by simp<;>omega
 have hfb:=hfo.1
 have hE1:=end_ct first m (by omega)
 have hb0:=hfb e0 (by simp)
 have hE0:=end_ct e0.1 e0.2 (by omega)
 have hb1:=hfb e1 (by simp)
 rw[hl] at hI hBe hlen⊢
 rw[hlA] at hBe
 rw[hl] at hV
 rw[hl2]
 unfold spCells at hI hBe⊢
 have hVV:=hV
 obtain⟨_,h0|⟨vb,rest,rfl,rfl,hrl,hmc,hcm⟩⟩:=hV
 ·omega
 obtain⟨g1,g2,g3⟩:=eget (A:=A2) (rest:=rest) (B:=(e1::B2)) (e:=e0) (rfl:A2.length=A2.length)
 rw[show A2++e0::(e1::B2)=((A2++[e0])++(e1::B2)) by simp] at g1 g2 g3
 have ei:(((A2.length+1:Nat):Int)-1).toNat=A2.length:=by omega
 obtain⟨k1,k2,k3⟩:=eget (A:=(A2++[e0])) (rest:=rest) (B:=B2) (e:=e1) (i:=(A2.length+1)) (by simp)
 generalize hcl:ecells ((A2++[e0])++(e1::B2))++rest=cells at*
 have hR:=fun bv=>RepAny_ct (some ⟨vb,0,none⟩) cap A2 (e1::B2) [e0] (e0.1,m+e0.2) [(vb,row cells 119)] A2.length ((A2.length+1)+(B2.length+1)) ((((A2.length+1):Nat):Int)-1) (((A2.length+1):Nat):Int) (e0.1:Int) ((m:Int)+(e0.2:Int)) (by simp) (by omega) (by simp only[List.length_nil,List.length_cons]<;>omega) (by simp) (by simp only[List.length_nil,List.length_cons]<;>omega) (by omega) bv 1 [] (by first|rfl|omega) (by first|rfl|(dsimp only;omega))
  (by rw[show A2++[e0]++(e1::B2)=((A2++[e0])++(e1::B2)) by simp];exact hVV)
 simp only[List.append_nil] at hR
 refine Ct.intro Tryz.func85 rfl Tryz.ntmps85 (nle rfl) fun w0=> ?_;dsimp only[argSlots,Nat.reduceAdd]
 repeat(first|(refine st ?_;intros)|refine G.draw (id:=7) [(17,.quiet)] (h:= ?_)|refine G.draw [] (h:= ?_)|(refine cq hI ?_)|(refine cq hBe ?_)|(refine cq hE0 ?_)|(refine cq hE1 ?_))
 refine R.call (hct:=hR _) (h:= ?_)
 rintro _ _ ⟨p2,cap2,c2,rfl,hV2,rfl⟩
 try dsimp only[List.cons_append,List.nil_append]
 repeat(first|(refine st ?_;intros)|refine G.draw (id:=7) [(17,.quiet)] (h:= ?_)|refine G.draw [] (h:= ?_)|(refine cq hI ?_)|(refine cq hBe ?_)|(refine cq hE0 ?_)|(refine cq hE1 ?_))
 (refine Dn.post (Hr:=[[(bs,row [.int .i64 0,.int .i64 (n:Int),.slice p2 (A2.length+1+((e1::B2):List Ext).length) cap2] 122)],c2]) Tryz.results85 (hR:= ?_);refine⟨rfl,p2,cap2,c2,?_,?_⟩)
 ·first|rfl|(rw[show((e1::B2):List Ext).length=(B2.length+1) by simp])
 ·first|exact hV2|(simpa using hV2)|(rw[show A2.length+1+(B2.length+1)=A2.length+1+((e1::B2):List Ext).length by simp];exact hV2)
theorem Give22w (A2:List Ext) (e0:Ext) (B2:List Ext) (e1:Ext) (ha:e0.1+e0.2=first) (hb:e1.1=first+m) (hfo:fok n ((A2++[e0])++(e1::B2))) (hA:∀e∈((A2++[e0]):List Ext),e.1+e.2≤first) (hB:∀e∈((e1::B2):List Ext),first<e.1+e.2) (hV:Vec 119 2 p ((A2++[e0])++(e1::B2)).length cap (ecells ((A2++[e0])++(e1::B2))) vc):
  Ct Tryz.prog 85 [.pointer (some ⟨bs,0,none⟩),.int .i64 (first:Int),.int .i64 (m:Int)] [[(bs,row (spCells n p ((A2++[e0])++(e1::B2)).length cap) 122)],vc] fun v H'=>
   v= .int .i64 0∧∃p' cap' vc',H'=[[(bs,row (spCells n p' (A2++[(e0.1,m+e1.2+e0.2)]++B2).length cap') 122)],vc']∧Vec 119 2 p' (A2++[(e0.1,m+e1.2+e0.2)]++B2).length cap' (ecells (A2++[(e0.1,m+e1.2+e0.2)]++B2)) vc':=by
 have hI:CtQ Tryz.prog 111 [.pointer (some ⟨bs,0,none⟩),.int .i64 (first:Int),.int .i64 (m:Int)] [[(bs,row (spCells n p ((A2++[e0])++(e1::B2)).length cap) 122)],vc] (.bool true):=CtQ.conv (inside_ct bs ⟨n,((A2++[e0])++(e1::B2))⟩ _ ⟨p,cap,vc,rfl,hV,hfo,hn⟩ first m hm hfm) (by simp)
 have hBe:=behind_ct bs n cap first p vc (A2++[e0]) (e1::B2) hfo hn hV hA hB
 have hlen:=fok_len hfo (k:=0) (by omega) (by omega)
 have hl:((A2++[e0])++(e1::B2)).length=(A2.length+1)+(B2.length+1):=by simp<;>omega
 have hlA:((A2++[e0]):List Ext).length=(A2.length+1):=by simp
 have hl2:(A2++[(e0.1,m+e1.2+e0.2)]++B2).length=A2.length+1+B2.length:=by simp<;>omega
 have hfb:=hfo.1
 have hE1:=end_ct first m (by omega)
 have hb0:=hfb e0 (by simp)
 have hE0:=end_ct e0.1 e0.2 (by omega)
 have hb1:=hfb e1 (by simp)
 rw[hl] at hI hBe hlen⊢
 rw[hlA] at hBe
 rw[hl] at hV
 rw[hl2]
 unfold spCells at hI hBe⊢
 have hVV:=hV
 obtain⟨_,h0|⟨vb,rest,rfl,rfl,hrl,hmc,hcm⟩⟩:=hV
 ·omega
 obtain⟨g1,g2,g3⟩:=eget (A:=A2) (rest:=rest) (B:=(e1::B2)) (e:=e0) (rfl:A2.length=A2.length)
 rw[show A2++e0::(e1::B2)=((A2++[e0])++(e1::B2)) by simp] at g1 g2 g3
 have ei:(((A2.length+1:Nat):Int)-1).toNat=A2.length:=by omega
 obtain⟨k1,k2,k3⟩:=eget (A:=(A2++[e0])) (rest:=rest) (B:=B2) (e:=e1) (i:=(A2.length+1)) (by simp)
 generalize hcl:ecells ((A2++[e0])++(e1::B2))++rest=cells at*
 have hR:=fun bv=>RepAny_ct (some ⟨vb,0,none⟩) cap A2 B2 [e0,e1] (e0.1,m+e1.2+e0.2) [(vb,row cells 119)] A2.length ((A2.length+1)+(B2.length+1)) ((((A2.length+1):Nat):Int)-1) ((((A2.length+1):Nat):Int)+1) (e0.1:Int) (((m:Int)+(e1.2:Int))+(e0.2:Int)) (by simp) (by omega) (by simp only[List.length_nil,List.length_cons]<;>omega) (by simp) (by simp only[List.length_nil,List.length_cons]<;>omega) (by omega) bv 1 [] (by first|rfl|omega) (by first|rfl|(dsimp only;omega))
  (by rw[show A2++[e0,e1]++B2=((A2++[e0])++(e1::B2)) by simp];exact hVV)
 simp only[List.append_nil] at hR
 refine Ct.intro Tryz.func85 rfl Tryz.ntmps85 (nle rfl) fun w0=> ?_;dsimp only[argSlots,Nat.reduceAdd]
 repeat(first|(refine st ?_;intros)|refine G.draw (id:=7) [(17,.quiet)] (h:= ?_)|refine G.draw [] (h:= ?_)|(refine cq hI ?_)|(refine cq hBe ?_)|(refine cq hE0 ?_)|(refine cq hE1 ?_))
 refine R.call (hct:=hR _) (h:= ?_)
 rintro _ _ ⟨p2,cap2,c2,rfl,hV2,rfl⟩
 try dsimp only[List.cons_append,List.nil_append]
 repeat(first|(refine st ?_;intros)|refine G.draw (id:=7) [(17,.quiet)] (h:= ?_)|refine G.draw [] (h:= ?_)|(refine cq hI ?_)|(refine cq hBe ?_)|(refine cq hE0 ?_)|(refine cq hE1 ?_))
 (refine Dn.post (Hr:=[[(bs,row [.int .i64 0,.int .i64 (n:Int),.slice p2 (A2.length+1+(B2:List Ext).length) cap2] 122)],c2]) Tryz.results85 (hR:= ?_);refine⟨rfl,p2,cap2,c2,?_,?_⟩)
 ·first|rfl|(rw[show(B2:List Ext).length=B2.length by simp])
 ·first|exact hV2|(simpa using hV2)|(rw[show A2.length+1+B2.length=A2.length+1+(B2:List Ext).length by simp];exact hV2)
end
end Go.Proofs.YtjoicjgfgkpdjaaGreat
