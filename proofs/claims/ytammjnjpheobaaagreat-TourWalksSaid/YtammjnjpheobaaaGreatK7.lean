/-
  Parts of the proof, put together: Space, Hold, Take, Give. No condition.
-/
import Derived.Test.YtammjnjpheobaaaGreatK6
set_option linter.unusedVariables false
set_option linter.unusedSimpArgs false
set_option linter.unnecessarySimpa false
set_option maxHeartbeats 4000000
namespace Go.Proofs.YtammjnjpheobaaaGreat
open Go.SL Go.Spc
structure Sp where
 n:Nat
 free:List Ext
def spCells (n:Nat) (p:Option Addr) (m cap:Nat):List Value:=[.int .i64 0,.int .i64 (n:Int),.slice p m cap]
def IsSpace (bs:Nat) (σ:Sp) (c:Chunk):Prop:=
 ∃p cap vc,c=(bs,row (spCells σ.n p σ.free.length cap) 129)::vc∧Vec 126 2 p σ.free.length cap (ecells σ.free) vc∧fok σ.n σ.free∧σ.n≤1000000
theorem fok_len {n:Nat}:∀{l:List Ext} {k:Nat},fok n l→(∀e∈l,k≤e.1)→k≤n→l.length≤n-k
 |[],_,_,_,_=>by simp
 |e::l,k,h,hk,hn=>by
  obtain⟨h1,h2,h3⟩:=fok_cons.1 h
  have:=fok_len (k:=e.1+e.2) h2 (fun y hy=>Nat.le_of_lt (h3 y hy)) h1.2
  have:=hk e List.mem_cons_self
  simp only[List.length_cons]
  omega
theorem end_ct (f b:Nat) (h:f+b≤1000000):CtQ Tryz.prog 160 [.agg #[.int .i64 (f:Int),.int .i64 (b:Int)]] [] (.int .i64 ((f+b:Nat):Int)):=by
 have e:(f:Int)+(b:Int)=((f+b:Nat):Int):=by omega
 have ew:IntKind.wrap .i64 ((f:Int)+(b:Int))=((f+b:Nat):Int):=by rw[e];exact wrap_i64 (by omega)
 refine Ct.intro Tryz.func160 rfl Tryz.ntmps160 (nle rfl) fun w0=> ?_;dsimp only[argSlots,Nat.reduceAdd]
 repeat(refine st ?_;intros)
 (refine Dn.post (Hr:=[]) Tryz.results160 (hR:= ?_);exact⟨rfl,rfl⟩)
theorem inside_ct (bs:Nat) (σ:Sp) (c:Chunk) (h:IsSpace bs σ c) (first n:Nat) (hn:1≤n) (hf:first+n≤σ.n):
  CtQ Tryz.prog 158 [.pointer (some ⟨bs,0,none⟩),.int .i64 (first:Int),.int .i64 (n:Int)] [c] (.bool true):=by
 obtain⟨p,cap,vc,rfl,hV,hfo,hnn⟩:=h
 have hE:=end_ct 0 σ.n (by omega)
 rw[Nat.zero_add] at hE
 refine CtQ.conv (H2:=[[(bs,row (spCells σ.n p σ.free.length cap) 129)],vc]) ?_ (by simp)
 unfold spCells
 refine Ct.intro Tryz.func158 rfl Tryz.ntmps158 (nle rfl) fun w0=> ?_;dsimp only[argSlots,Nat.reduceAdd]
 repeat(first|(refine st ?_;intros)|(refine cq hE ?_))
 (refine Dn.post (Hr:=[[(bs,row [.int .i64 0,.int .i64 (σ.n:Int),.slice p σ.free.length cap] 129)],vc]) Tryz.results158 (hR:= ?_);refine⟨?_,rfl⟩)
 first|rfl|(rw[dec_true (by omega)];rfl)
theorem eget {A B:List Ext} {e:Ext} {rest:List Value} {i:Nat} (hi:A.length=i):(((ecells (A++e::B)++rest).drop (i*2)).take 2=[.int .i64 (e.1:Int),.int .i64 (e.2:Int)])∧
  (ecells (A++e::B)++rest)[i*2]? =some (.int .i64 (e.1:Int))∧(ecells (A++e::B)++rest)[i*2+1]? =some (.int .i64 (e.2:Int)):=by
 have hA:(ecells A).length=i*2:=by rw[ecells_length,hi]
 rw[ecells_app,List.append_assoc]
 refine⟨?_,?_,?_⟩
 ·rw[←hA];simp[ecells]
 ·rw[List.getElem?_append_right (by omega),hA,Nat.sub_self];rfl
 ·rw[List.getElem?_append_right (by omega),hA,show i*2+1-i*2=1 by omega];rfl
theorem split_at {l:List Ext} {i:Nat} (h:i<l.length):∃A e B,l=A++e::B∧A.length=i:=by
 refine⟨l.take i,l[i],l.drop (i+1),?_,by simp;omega⟩
 rw[←List.drop_eq_getElem_cons h,List.take_append_drop]
theorem behindF_ct (bs b1 b2 vb:Nat) (n cap first:Nat) (free:List Ext) (rest:List Value) (hfo:fok n free) (hn:n≤1000000) (k:Nat) (hk:k<free.length) (A B:List Ext) (e:Ext) (hs:free=A++e::B) (hi:A.length=k):
  CtQ Tryz.prog 175 [.int .i64 (k:Int),.pointer (some ⟨b1,0,none⟩),.pointer (some ⟨b2,0,none⟩)]
   [[(bs,row (spCells n (some ⟨vb,0,none⟩) free.length cap) 129)],[(vb,row (ecells free++rest) 126)],[(b1,row [.pointer (some ⟨bs,0,none⟩)] 80)],[(b2,row [.int .i64 (first:Int)] 3)]] (.bool (dec ((first:Int)<((e.1+e.2:Nat):Int)))):=by
 subst hs
 have he:=(fok_app.1 hfo).2.1
 have he2:=(fok_cons.1 he).1
 have hE:=end_ct e.1 e.2 (by omega)
 obtain⟨g1,g2,g3⟩:=eget (rest:=rest) (B:=B) (e:=e) hi
 unfold spCells
 generalize ecells (A++e::B)++rest=cells at*
 refine Ct.intro Tryz.func175 rfl Tryz.ntmps175 (nle rfl) fun w0=> ?_;dsimp only[argSlots,Nat.reduceAdd]
 repeat(first|(refine st ?_;intros)|refine G.draw (id:=1) [(7,.quiet)] (h:= ?_)|(refine cq hE ?_))
 (refine Dn.post (Hr:=[[(bs,row [.int .i64 0,.int .i64 (n:Int),.slice (some ⟨vb,0,none⟩) (A++e::B).length cap] 129)],[(vb,row cells 126)],[(b1,row [.pointer (some ⟨bs,0,none⟩)] 80)],[(b2,row [.int .i64 (first:Int)] 3)]]) Tryz.results175 (hR:= ?_);exact⟨rfl,rfl⟩)
theorem Search_ct (bs b1 b2:Nat) (n cap first:Nat) (p:Option Addr) (vc:Chunk) (A B:List Ext) (hfo:fok n (A++B)) (hn:n≤1000000) (hV:Vec 126 2 p (A++B).length cap (ecells (A++B)) vc) (m:Nat) (hm:m=(A++B).length) (hA:∀e∈A,e.1+e.2≤first) (hB:∀e∈B,first<e.1+e.2):
  CtQ Tryz.prog 174 [.int .i64 (m:Int),.func (.func 175) #[] #[.pointer (some ⟨b1,0,none⟩),.pointer (some ⟨b2,0,none⟩)]]
   [[(bs,row (spCells n p (A++B).length cap) 129)],vc,[(b1,row [.pointer (some ⟨bs,0,none⟩)] 80)],[(b2,row [.int .i64 (first:Int)] 3)]] (.int .i64 (A.length:Int)):=by
 have hlen:=fok_len hfo (k:=0) (by omega) (by omega)
 have hml:m≤1000000:=by omega
 subst hm
 refine Ct.intro Tryz.func174 rfl Tryz.ntmps174 (nle rfl) fun w0=> ?_;dsimp only[argSlots,Nat.reduceAdd]
 repeat(first|(refine st ?_;intros)|(refine cq hF ?_))
 refine G.loop (X:=Nat×Nat) (fun x=>x.1≤A.length∧A.length≤x.2∧x.2≤(A++B).length) (fun x=>[(6,.int .i64 (x.2:Int)),(5,.int .i64 (x.1:Int)),(1,.func (.func 175) #[] #[.pointer (some ⟨b1,0,none⟩),.pointer (some ⟨b2,0,none⟩)])])
  (fun _=>[[(bs,row (spCells n p (A++B).length cap) 129)],vc,[(b1,row [.pointer (some ⟨bs,0,none⟩)] 80)],[(b2,row [.int .i64 (first:Int)] 3)]]) (fun x=>x.2-x.1) (0,(A++B).length) ⟨Nat.zero_le _,by simp,Nat.le_refl _⟩ (body:= ?_)
 rintro⟨i,j⟩ ⟨hi,hj,hjm⟩
 dsimp only at hi hj hjm⊢
 by_cases hij:i<j
 ·have hsh:((i:Int)+(j:Int)).fdiv (2^min (Int.toNat 1) IntKind.u64.bits)=(((i+j)/2:Nat):Int):=by
   have e0:(2:Int)^min (Int.toNat 1) IntKind.u64.bits=2:=by decide
   rw[e0,Int.fdiv_eq_ediv_of_nonneg _ (by decide)]
   omega
  generalize hh:(i+j)/2=h at hsh
  have hh1:i≤h∧h<j:=by omega
  obtain⟨A',e,B',hs,hA'⟩:=split_at (l:=A++B) (i:=h) (by omega)
  obtain⟨_,h0|⟨vb,rest,hp,hvc,_⟩⟩:=hV
  ·omega
  have hF:=behindF_ct bs b1 b2 vb n cap first (A++B) rest hfo hn h (by omega) A' B' e hs hA'
  rw[←hp,←hvc] at hF
  by_cases hlt:h<A.length
  ·have hm:e∈A:=by
    have h1:(A++B)[h]? =some e:=by rw[hs,List.getElem?_append_right (by omega)];simp[hA']
    rw[List.getElem?_append_left hlt] at h1
    exact List.mem_of_getElem? h1
   have hle:=hA e hm
   repeat(first|(refine st ?_;intros)|(refine cq hF ?_))
   exact Dn.round (h+1,j) ⟨by omega,by omega,by omega⟩ (by dsimp only;omega)
  ·have hm:e∈B:=by
    have h1:(A++B)[h]? =some e:=by rw[hs,List.getElem?_append_right (by omega)];simp[hA']
    rw[List.getElem?_append_right (by omega)] at h1
    exact List.mem_of_getElem? h1
   have hle:=hB e hm
   repeat(first|(refine st ?_;intros)|(refine cq hF ?_))
   exact Dn.round (i,h) ⟨by omega,by omega,by omega⟩ (by dsimp only;omega)
 ·obtain rfl:i=A.length:=by omega
  repeat(first|(refine st ?_;intros)|(refine cq hF ?_))
  (refine Dn.post (Hr:=[[(bs,row (spCells n p (A++B).length cap) 129)],vc,[(b1,row [.pointer (some ⟨bs,0,none⟩)] 80)],[(b2,row [.int .i64 (first:Int)] 3)]]) Tryz.results174 (hR:= ?_);exact⟨rfl,rfl⟩)
theorem behind_ct (bs:Nat) (n cap first:Nat) (p:Option Addr) (vc:Chunk) (A B:List Ext) (hfo:fok n (A++B)) (hn:n≤1000000) (hV:Vec 126 2 p (A++B).length cap (ecells (A++B)) vc) (hA:∀e∈A,e.1+e.2≤first) (hB:∀e∈B,first<e.1+e.2):
  CtQ Tryz.prog 159 [.pointer (some ⟨bs,0,none⟩),.int .i64 (first:Int)] [[(bs,row (spCells n p (A++B).length cap) 129)],vc] (.int .i64 (A.length:Int)):=by
 have hS:=fun b1 b2=>Search_ct bs b1 b2 n cap first p vc A B hfo hn hV (A++B).length rfl hA hB
 unfold spCells at hS⊢
 refine Ct.intro Tryz.func159 rfl Tryz.ntmps159 (nle rfl) fun w0=> ?_;dsimp only[argSlots,Nat.reduceAdd]
 repeat(first|(refine st ?_;intros)|(refine cq hS ?_))
 (refine Dn.post (Hr:=[[(bs,row [.int .i64 0,.int .i64 (n:Int),.slice p (A++B).length cap] 129)],vc]) Tryz.results159 (hR:= ?_);exact⟨rfl,rfl⟩)
theorem RepAny_ct (p:Option Addr) (cap:Nat) (A B Xs:List Ext) (e:Ext) (c:Chunk) (i n:Nat) (ii jj x1 x2:Int) (hi:A.length=i) (hii:ii=(i:Int)) (hjj:jj=((i+Xs.length:Nat):Int)) (hx:Xs.length≤2) (hn:n=i+Xs.length+B.length) (hm:n≤1000000) (bv cv:Nat) (restv:List Value)
  (h1:x1=(e.1:Int)) (h2:x2=(e.2:Int)) (hV:Vec 126 2 p n cap (ecells (A++Xs++B)) c):
  Ct Tryz.prog 161 [.slice p n cap,.int .i64 ii,.int .i64 jj,.slice (some ⟨bv,0,none⟩) 1 cv] [c,[(bv,row ([.int .i64 x1,.int .i64 x2]++restv) 126)]] fun v H'=>
   ∃p' cap' c',v= .slice p' (i+1+B.length) cap'∧Vec 126 2 p' (i+1+B.length) cap' (ecells (A++[e]++B)) c'∧H'=[c']:=by
 subst h1 h2
 by_cases hX:Xs=[]
 ·subst hX
  simp only[List.length_nil,Nat.add_zero,List.append_nil] at hjj hn hV
  subst hii hjj
  have hI:=Ins_ct p cap A B e c i n hi hn hm bv cv restv hV
  have hb1:n≤cap:=by
   obtain⟨_,h|⟨b,rest,_,_,_,h,_⟩⟩:=hV
   ·omega
   ·exact h
  refine Ct.intro Tryz.func161 rfl Tryz.ntmps161 (nle rfl) fun w0=> ?_;dsimp only[argSlots,Nat.reduceAdd]
  repeat(first|(refine st ?_;intros)|refine G.draw [] (h:= ?_))
  refine R.call (hct:=hI) (h:= ?_)
  rintro _ _ ⟨p',cap',c',rfl,hV',rfl⟩
  try dsimp only[List.cons_append,List.nil_append]
  repeat(first|(refine st ?_;intros)|refine G.draw [] (h:= ?_))
  (refine Dn.post (Hr:=[c']) Tryz.results161 (hR:= ?_);exact⟨p',cap',c',rfl,hV',rfl⟩)
 ·have hX1:1≤Xs.length:=List.length_pos_iff.2 hX
  subst hii
  exact RepY_ct p cap A B Xs e c i (i+Xs.length) n hi rfl hX1 hx hn hm bv cv restv jj hjj hV
theorem Hold_ct (bs:Nat) (n cap:Nat) (p:Option Addr) (vc:Chunk) (A B:List Ext) (e:Ext) (hfo:fok n (A++e::B)) (hn:n≤1000000) (hV:Vec 126 2 p (A++e::B).length cap (ecells (A++e::B)) vc) (m:Nat) (hm1:1≤m) (hm2:m≤e.2):
  Ct Tryz.prog 154 [.pointer (some ⟨bs,0,none⟩),.int .i64 (e.1:Int),.int .i64 (m:Int)] [[(bs,row (spCells n p (A++e::B).length cap) 129)],vc] fun v H'=>
   v= .int .i64 0∧∃p' cap' vc' free',H'=[[(bs,row (spCells n p' free'.length cap') 129)],vc']∧Vec 126 2 p' free'.length cap' (ecells free') vc'∧free'=A++((if m<e.2 then[(e.1+m,e.2-m)] else[])++B):=by
 have hlen:=fok_len hfo (k:=0) (by omega) (by omega)
 obtain⟨hfA,hfB,hAB⟩:=fok_app.1 hfo
 obtain⟨he1,hfB2,heB⟩:=fok_cons.1 hfB
 have hI:=inside_ct bs ⟨n,A++e::B⟩ _ ⟨p,cap,vc,rfl,hV,hfo,hn⟩ e.1 m hm1 (by dsimp only;omega)
 have hI':CtQ Tryz.prog 158 [.pointer (some ⟨bs,0,none⟩),.int .i64 (e.1:Int),.int .i64 (m:Int)] [[(bs,row (spCells n p (A++e::B).length cap) 129)],vc] (.bool true):=CtQ.conv hI (by simp)
 clear hI
 have hI:=hI'
 have hBe:=behind_ct bs n cap e.1 p vc A (e::B) hfo hn hV (fun a ha=>Nat.le_of_lt (hAB a ha e List.mem_cons_self)) (by
  intro y hy
  rcases List.mem_cons.1 hy with rfl|hy
  ·omega
  ·have:=heB y hy;omega)
 have hE:=end_ct e.1 e.2 (by omega)
 have hl:(A++e::B).length=A.length+1+B.length:=by simp;omega
 have hVV:=hV
 obtain⟨_,h0|⟨vb,rest,rfl,rfl,hrl,hmc,hcm⟩⟩:=hV
 ·omega
 obtain⟨g1,g2,g3⟩:=eget (rest:=rest) (B:=B) (e:=e) (rfl:A.length=A.length)
 unfold spCells at hI hBe⊢
 rw[hl] at hI hBe hVV⊢
 generalize hcell:ecells (A++e::B)++rest=cells at*
 have hV3:Vec 126 2 (some ⟨vb,0,none⟩) (A.length+1+B.length) cap (ecells (A++[e]++B)) [(vb,row cells 126)]:=by
  rw[List.append_assoc];exact hVV
 by_cases hlt:m<e.2
 ·have hR:=fun bv cv restv x1 x2 h1 h2=>RepAny_ct (some ⟨vb,0,none⟩) cap A B [e] (e.1+m,e.2-m) [(vb,row cells 126)] A.length (A.length+1+B.length) (A.length:Int) ((A.length:Int)+1) x1 x2 rfl rfl (by simp) (by simp) (by simp) (by omega) bv cv restv h1 h2 hV3
  have hN:=Vec.nil 126 2
  refine Ct.intro Tryz.func154 rfl Tryz.ntmps154 (nle rfl) fun w0=> ?_;dsimp only[argSlots,Nat.reduceAdd]
  repeat(first|(refine st ?_;intros)|(refine cq hI ?_)|(refine cq hBe ?_)|(refine cq hE ?_))
  rename_i p' cap' c' hV'
  have hV2:Vec 126 2 p' 1 cap' [.int .i64 ((e.1:Int)+(m:Int)),.int .i64 (((e.1+e.2:Nat):Int)-(e.1:Int)-(m:Int))] c':=hV'
  clear hV'
  obtain⟨_,h0|⟨bv,restv,rfl,rfl,hrlv,hmcv,hcmv⟩⟩:=hV2
  ·omega
  repeat(first|(refine st ?_;intros)|(refine cq hI ?_)|(refine cq hBe ?_)|(refine cq hE ?_))
  refine R.call (hct:=hR bv cap' restv ((e.1:Int)+(m:Int)) (((e.1+e.2:Nat):Int)-(e.1:Int)-(m:Int)) (by dsimp only;omega) (by dsimp only;omega)) (h:= ?_)
  rintro _ _ ⟨p2,cap2,c2,rfl,hV2,rfl⟩
  try dsimp only[List.cons_append,List.nil_append]
  repeat(first|(refine st ?_;intros)|(refine cq hI ?_)|(refine cq hBe ?_)|(refine cq hE ?_))
  (refine Dn.post (Hr:=[[(bs,row [.int .i64 0,.int .i64 (n:Int),.slice p2 (A.length+1+B.length) cap2] 129)],c2]) Tryz.results154 (hR:= ?_);refine⟨rfl,p2,cap2,c2,A++[(e.1+m,e.2-m)]++B,?_,?_,?_⟩)
  ·rw[show(A++[(e.1+m,e.2-m)]++B).length=A.length+1+B.length by simp;omega]
  ·rw[show(A++[(e.1+m,e.2-m)]++B).length=A.length+1+B.length by simp;omega];exact hV2
  ·simp[hlt]
 ·have hR:=RepZ_ct (some ⟨vb,0,none⟩) cap A B e [(vb,row cells 126)] A.length (A.length+1+B.length) rfl rfl (by omega) hV3
  refine Ct.intro Tryz.func154 rfl Tryz.ntmps154 (nle rfl) fun w0=> ?_;dsimp only[argSlots,Nat.reduceAdd]
  repeat(first|(refine st ?_;intros)|(refine cq hI ?_)|(refine cq hBe ?_)|(refine cq hE ?_))
  refine R.call (hct:=hR) (h:= ?_)
  rintro _ _ ⟨p2,cap2,c2,rfl,hV2,rfl⟩
  try dsimp only[List.cons_append,List.nil_append]
  repeat(first|(refine st ?_;intros)|(refine cq hI ?_)|(refine cq hBe ?_)|(refine cq hE ?_))
  (refine Dn.post (Hr:=[[(bs,row [.int .i64 0,.int .i64 (n:Int),.slice p2 (A.length+B.length) cap2] 129)],c2]) Tryz.results154 (hR:= ?_);refine⟨rfl,p2,cap2,c2,A++B,?_,?_,?_⟩)
  ·rw[List.length_append]
  ·rw[List.length_append];exact hV2
  ·simp[hlt]
theorem fok_held {n:Nat} {A B:List Ext} {e:Ext} {m:Nat} (h:fok n (A++e::B)) (h1:1≤m) (h2:m≤e.2):fok n (A++((if m<e.2 then[(e.1+m,e.2-m)] else[])++B)):=by
 obtain⟨hA,hB,hAB⟩:=fok_app.1 h
 obtain⟨he,hB2,heB⟩:=fok_cons.1 hB
 split
 ·refine fok_app.2 ⟨hA,fok_cons.2 ⟨⟨by dsimp only;omega,by dsimp only;omega⟩,hB2,fun y hy=> ?_⟩,fun x hx y hy=> ?_⟩
  ·have:=heB y hy;dsimp only;omega
  ·rcases List.mem_cons.1 hy with rfl|hy
   ·have:=hAB x hx e List.mem_cons_self;dsimp only;omega
   ·exact hAB x hx y (List.mem_cons_of_mem _ hy)
 ·rw[List.nil_append]
  exact fok_app.2 ⟨hA,hB2,fun x hx y hy=>hAB x hx y (List.mem_cons_of_mem _ hy)⟩
theorem inF_held {A B:List Ext} {e:Ext} {n m:Nat} (h:fok n (A++e::B)) (h1:1≤m) (h2:m≤e.2) (x:Nat):
  inF (A++((if m<e.2 then[(e.1+m,e.2-m)] else[])++B)) x↔inF (A++e::B) x∧¬(e.1≤x∧x<e.1+m):=by
 obtain⟨hA,hB,hAB⟩:=fok_app.1 h
 obtain⟨he,hB2,heB⟩:=fok_cons.1 hB
 have key1:inF A x→x<e.1:=by
  rintro⟨y,hy,h3,h4⟩
  have:=hAB y hy e List.mem_cons_self
  omega
 have key2:inF B x→e.1+e.2<x:=by
  rintro⟨y,hy,h3,h4⟩
  have:=heB y hy
  omega
 by_cases hlt:m<e.2
 ·simp only[hlt,if_true,inF_app,inF_cons,inF_nil,or_false]
  constructor
  ·rintro(h|h|h)
   ·have:=key1 h;exact⟨.inl h,by omega⟩
   ·exact⟨.inr (.inl (by omega)),by omega⟩
   ·have:=key2 h;exact⟨.inr (.inr h),by omega⟩
  ·rintro⟨h|h|h,h5⟩
   ·exact .inl h
   ·exact .inr (.inl (by omega))
   ·exact .inr (.inr h)
 ·simp only[hlt,if_false,List.nil_append,inF_app,inF_cons]
  constructor
  ·rintro(h|h)
   ·have:=key1 h;exact⟨.inl h,by omega⟩
   ·have:=key2 h;exact⟨.inr (.inr h),by omega⟩
  ·rintro⟨h|h|h,h5⟩
   ·exact .inl h
   ·omega
   ·exact .inr h
theorem total_held {A B:List Ext} {e:Ext} {m:Nat} (h2:m≤e.2):total (A++((if m<e.2 then[(e.1+m,e.2-m)] else[])++B))+m=total (A++e::B):=by
 split<;>simp<;>omega
theorem big_held {A B:List Ext} {e:Ext} {m:Nat}:big (A++e::B)≤big (A++((if m<e.2 then[(e.1+m,e.2-m)] else[])++B))+m:=by
 split<;>simp only[big_app,big,List.nil_append]<;>omega
theorem Take_ok (bs:Nat) (σ:Sp) (c:Chunk) (h:IsSpace bs σ c) (m:Nat) (hm:1≤m) (hb:m≤big σ.free):
  Ct Tryz.prog 121 [.pointer (some ⟨bs,0,none⟩),.int .i64 (m:Int)] [c] fun v H'=>
   ∃(f:Nat) (c':Chunk) (σ':Sp),v= .tuple #[.int .i64 (f:Int),.int .i64 0]∧IsSpace bs σ' c'∧σ'.n=σ.n∧(∀x,f≤x→x<f+m→inF σ.free x)∧f+m≤σ.n∧
    (∀x,inF σ'.free x↔inF σ.free x∧¬(f≤x∧x<f+m))∧total σ'.free+m=total σ.free∧big σ.free≤big σ'.free+m∧H'=[c']:=by
 obtain⟨n,free⟩:=σ
 dsimp only at hb
 rcases first_fit m free with hno|⟨A,e,B,rfl,hme,hA⟩
 ·exfalso
  obtain⟨e,he,h2⟩:=big_mem (l:=free) (by omega)
  have:=hno e he
  omega
 obtain⟨p,cap,vc,rfl,hV,hfo,hn⟩:=h
 dsimp only at hV hfo hn
 have hH:=Hold_ct bs n cap p vc A B e hfo hn hV m hm hme
 refine Ct.conv (H2:=[[(bs,row (spCells n p (A++e::B).length cap) 129)],vc]) (R2:=fun v H'=>v= .tuple #[.int .i64 (e.1:Int),.int .i64 0]∧∃p' cap' vc' free',H'=[[(bs,row (spCells n p' free'.length cap') 129)],vc']∧
  Vec 126 2 p' free'.length cap' (ecells free') vc'∧free'=A++((if m<e.2 then[(e.1+m,e.2-m)] else[])++B)) ?_ (by simp) ?_
 ·have hlen:=fok_len hfo (k:=0) (by omega) (by omega)
  have hl:(A++e::B).length=A.length+1+B.length:=by simp;omega
  have hfb:=hfo.1
  obtain⟨_,h0|⟨vb,rest,rfl,rfl,hrl,hmc,hcm⟩⟩:=hV
  ·omega
  generalize hfr:A++e::B=free at*
  unfold spCells at hH⊢
  generalize hcl:ecells free++rest=cells at*
  refine Ct.intro Tryz.func121 rfl Tryz.ntmps121 (nle rfl) fun w0=> ?_;dsimp only[argSlots,Nat.reduceAdd]
  repeat(first|(refine st ?_;intros)|refine G.draw (id:=9) [(6,.eff [1])] (h:= ?_))
  refine G.loop (X:=Nat) (fun i=>i≤A.length) (fun i=>[(17,.int .i64 (i:Int)),(16,.int .i64 (free.length:Int)),(15,.slice (some ⟨vb,0,none⟩) free.length cap),(0,.pointer (some ⟨bs,0,none⟩)),(1,.int .i64 (m:Int))])
   (fun _=>[[(bs,row [.int .i64 0,.int .i64 (n:Int),.slice (some ⟨vb,0,none⟩) free.length cap] 129)],[(vb,row cells 126)]]) (fun i=>A.length-i) 0 (by omega) (body:= ?_)
  intro i hi
  obtain⟨A',x,B',hs,hA'⟩:=split_at (l:=free) (i:=i) (by omega)
  obtain⟨g1,g2,g3⟩:=eget (rest:=rest) (B:=B') (e:=x) hA'
  rw[←hs,hcl] at g1 g2 g3
  have hx1:free[i]? =some x:=by rw[hs,List.getElem?_append_right (by omega)];simp[hA']
  have hxn:=hfb x (List.mem_of_getElem? hx1)
  by_cases hiA:i<A.length
  ·have hxm:x.2<m:=by
    rw[←hfr,List.getElem?_append_left hiA] at hx1
    exact hA x (List.mem_of_getElem? hx1)
   repeat(first|(refine st ?_;intros)|refine G.draw (id:=9) [(6,.eff [1])] (h:= ?_))
   exact Dn.round (i+1) (by omega) (by omega)
  ·obtain rfl:i=A.length:=by omega
   have hxe:x=e:=by
    rw[←hfr] at hx1
    simpa using hx1.symm
   subst hxe
   repeat(first|(refine st ?_;intros)|refine G.draw (id:=9) [(6,.eff [1])] (h:= ?_))
   refine R.callX (hct:=hH) (h:= ?_)
   rintro _ _ ⟨rfl,p',cap',vc',free',rfl,hV',hf'⟩
   try dsimp only[List.cons_append,List.nil_append]
   constructor
   ·(·(first|(intro _ _ h;cases h;done)|(repeat(first|exact qok_nil|(apply qok_cons;(·first|(intro hc;exact absurd hc (nmem rfl))|(intro _;apply CellPr.mk;(·repeat(first|exact Has.here|apply Has.there));(first|exact rfl|assumption))|(intro _;apply CellsPr.mk;(·repeat(first|exact Has.here|apply Has.there));(first|exact rfl|assumption))))))))
   repeat(first|(refine st ?_;intros)|refine G.draw (id:=9) [(6,.eff [1])] (h:= ?_))
   (refine Dn.post (Hr:=[[(bs,row [.int .i64 0,.int .i64 (n:Int),.slice p' free'.length cap'] 129)],vc']) Tryz.results121 (hR:= ?_);exact⟨rfl,p',cap',vc',free',rfl,hV',hf'⟩)
 ·rintro v H' ⟨rfl,p',cap',vc',free',rfl,hV',hf'⟩
  refine⟨_,⟨e.1,_,⟨n,free'⟩,rfl,⟨p',cap',vc',rfl,hV',?_,hn⟩,rfl,?_,?_,?_,?_,?_,rfl⟩,by simp⟩
  ·rw[hf'];exact fok_held hfo hm hme
  ·intro x h1 h2
   dsimp only
   rw[inF_app,inF_cons]
   exact .inr (.inl (by omega))
  ·have:=hfo.1 e (by simp);dsimp only;omega
  ·intro x;rw[hf'];exact inF_held hfo hm hme x
  ·rw[hf'];exact total_held hme
  ·rw[hf'];exact big_held
theorem Take_full (bs:Nat) (σ:Sp) (c:Chunk) (h:IsSpace bs σ c) (m:Nat) (hm:1≤m) (hb:big σ.free<m) (hmm:m≤1000000000):
  CtQ Tryz.prog 121 [.pointer (some ⟨bs,0,none⟩),.int .i64 (m:Int)] [c] (.tuple #[.int .i64 0,.int .i64 5]):=by
 obtain⟨n,free⟩:=σ
 dsimp only at hb
 obtain⟨p,cap,vc,rfl,hV,hfo,hn⟩:=h
 dsimp only at hV hfo hn
 have hlen:=fok_len hfo (k:=0) (by omega) (by omega)
 refine CtQ.conv (H2:=[[(bs,row (spCells n p free.length cap) 129)],vc]) ?_ (by simp)
 unfold spCells
 refine Ct.intro Tryz.func121 rfl Tryz.ntmps121 (nle rfl) fun w0=> ?_;dsimp only[argSlots,Nat.reduceAdd]
 repeat(first|(refine st ?_;intros)|refine G.draw (id:=9) [(6,.eff [1])] (h:= ?_))
 refine G.loop (X:=Nat) (fun i=>i≤free.length) (fun i=>[(17,.int .i64 (i:Int)),(16,.int .i64 (free.length:Int)),(15,.slice p free.length cap),(0,.pointer (some ⟨bs,0,none⟩)),(1,.int .i64 (m:Int))])
  (fun _=>[[(bs,row [.int .i64 0,.int .i64 (n:Int),.slice p free.length cap] 129)],vc]) (fun i=>free.length-i) 0 (by omega) (body:= ?_)
 intro i hi
 by_cases hif:i<free.length
 ·obtain⟨A',x,B',hs,hA'⟩:=split_at (l:=free) (i:=i) (by omega)
  obtain⟨_,h0|⟨vb,rest,hp,hvc,hrl,hmc,hcm⟩⟩:=hV
  ·omega
  obtain⟨g1,g2,g3⟩:=eget (rest:=rest) (B:=B') (e:=x) hA'
  rw[←hs] at g1 g2 g3
  have hx1:free[i]? =some x:=by rw[hs,List.getElem?_append_right (by omega)];simp[hA']
  have hxn:=hfo.1 x (List.mem_of_getElem? hx1)
  have hxm:x.2<m:=by
   have:=le_big (List.mem_of_getElem? hx1)
   omega
  rw[hp,hvc]
  generalize ecells free++rest=cells at*
  repeat(first|(refine st ?_;intros)|refine G.draw (id:=9) [(6,.eff [1])] (h:= ?_))
  exact Dn.round (i+1) (by omega) (by omega)
 ·obtain rfl:i=free.length:=by omega
  repeat(first|(refine st ?_;intros)|refine G.draw (id:=9) [(6,.eff [1])] (h:= ?_))
  (refine Dn.post (Hr:=[[(bs,row [.int .i64 0,.int .i64 (n:Int),.slice p free.length cap] 129)],vc]) Tryz.results121 (hR:= ?_);exact⟨rfl,rfl⟩)
def Gave (n:Nat) (free free':List Ext) (first m:Nat):Prop:=fok n free'∧(∀x,inF free' x↔inF free x∨(first≤x∧x<first+m))∧total free'=total free+m∧big free≤big free'
section
variable (bs:Nat) (n cap:Nat) (p:Option Addr) (vc:Chunk) (first m:Nat) (hn:n≤1000000) (hm:1≤m) (hfm:first+m≤n)
include hn hm hfm
theorem Give00w (hfo:fok n (([]:List Ext)++([]:List Ext))) (hA:∀e∈(([]:List Ext):List Ext),e.1+e.2≤first) (hB:∀e∈(([]:List Ext):List Ext),first<e.1+e.2) (hV:Vec 126 2 p (([]:List Ext)++([]:List Ext)).length cap (ecells (([]:List Ext)++([]:List Ext))) vc):
  Ct Tryz.prog 125 [.pointer (some ⟨bs,0,none⟩),.int .i64 (first:Int),.int .i64 (m:Int)] [[(bs,row (spCells n p (([]:List Ext)++([]:List Ext)).length cap) 129)],vc] fun v H'=>
   v= .int .i64 0∧∃p' cap' vc',H'=[[(bs,row (spCells n p' ([]++[(first,m)]++[]).length cap') 129)],vc']∧Vec 126 2 p' ([]++[(first,m)]++[]).length cap' (ecells ([]++[(first,m)]++[])) vc':=by
 have hI:CtQ Tryz.prog 158 [.pointer (some ⟨bs,0,none⟩),.int .i64 (first:Int),.int .i64 (m:Int)] [[(bs,row (spCells n p (([]:List Ext)++([]:List Ext)).length cap) 129)],vc] (.bool true):=CtQ.conv (inside_ct bs ⟨n,(([]:List Ext)++([]:List Ext))⟩ _ ⟨p,cap,vc,rfl,hV,hfo,hn⟩ first m hm hfm) (by simp)
 have hBe:=behind_ct bs n cap first p vc ([]:List Ext) ([]:List Ext) hfo hn hV hA hB
 have hlen:=fok_len hfo (k:=0) (by omega) (by omega)
 have hl:(([]:List Ext)++([]:List Ext)).length=0+0:=by simp<;>omega
 have hlA:(([]:List Ext):List Ext).length=0:=by simp
 have hl2:([]++[(first,m)]++[]).length=0+1+0:=by simp<;>omega
 have hfb:=hfo.1
 have hE1:=end_ct first m (by omega)
 rw[hl] at hI hBe hlen⊢
 rw[hlA] at hBe
 rw[hl] at hV
 rw[hl2]
 unfold spCells at hI hBe⊢
 have hR:=fun bv=>RepAny_ct p cap [] [] [] (first,m) vc 0 (0+0) ((0:Nat):Int) ((0:Nat):Int) (first:Int) (m:Int) (by simp) (by omega) (by simp only[List.length_nil,List.length_cons]<;>omega) (by simp) (by simp only[List.length_nil,List.length_cons]<;>omega) (by omega) bv 1 [] (by first|rfl|omega) (by first|rfl|(dsimp only;omega)) hV
 simp only[List.append_nil] at hR
 refine Ct.intro Tryz.func125 rfl Tryz.ntmps125 (nle rfl) fun w0=> ?_;dsimp only[argSlots,Nat.reduceAdd]
 repeat(first|(refine st ?_;intros)|refine G.draw (id:=7) [(17,.quiet)] (h:= ?_)|refine G.draw [] (h:= ?_)|(refine cq hI ?_)|(refine cq hBe ?_)|(refine cq hE0 ?_)|(refine cq hE1 ?_))
 refine R.call (hct:=hR _) (h:= ?_)
 rintro _ _ ⟨p2,cap2,c2,rfl,hV2,rfl⟩
 try dsimp only[List.cons_append,List.nil_append]
 repeat(first|(refine st ?_;intros)|refine G.draw (id:=7) [(17,.quiet)] (h:= ?_)|refine G.draw [] (h:= ?_)|(refine cq hI ?_)|(refine cq hBe ?_)|(refine cq hE0 ?_)|(refine cq hE1 ?_))
 (refine Dn.post (Hr:=[[(bs,row [.int .i64 0,.int .i64 (n:Int),.slice p2 (0+1+([]:List Ext).length) cap2] 129)],c2]) Tryz.results125 (hR:= ?_);refine⟨rfl,p2,cap2,c2,?_,?_⟩)
 ·first|rfl|(rw[show([]:List Ext).length=0 by simp])
 ·first|exact hV2|(simpa using hV2)|(rw[show 0+1+0=0+1+([]:List Ext).length by simp];exact hV2)
theorem Give01w (B2:List Ext) (e1:Ext) (hb:first+m<e1.1) (hfo:fok n (([]:List Ext)++(e1::B2))) (hA:∀e∈(([]:List Ext):List Ext),e.1+e.2≤first) (hB:∀e∈((e1::B2):List Ext),first<e.1+e.2) (hV:Vec 126 2 p (([]:List Ext)++(e1::B2)).length cap (ecells (([]:List Ext)++(e1::B2))) vc):
  Ct Tryz.prog 125 [.pointer (some ⟨bs,0,none⟩),.int .i64 (first:Int),.int .i64 (m:Int)] [[(bs,row (spCells n p (([]:List Ext)++(e1::B2)).length cap) 129)],vc] fun v H'=>
   v= .int .i64 0∧∃p' cap' vc',H'=[[(bs,row (spCells n p' ([]++[(first,m)]++(e1::B2)).length cap') 129)],vc']∧Vec 126 2 p' ([]++[(first,m)]++(e1::B2)).length cap' (ecells ([]++[(first,m)]++(e1::B2))) vc':=by
 have hI:CtQ Tryz.prog 158 [.pointer (some ⟨bs,0,none⟩),.int .i64 (first:Int),.int .i64 (m:Int)] [[(bs,row (spCells n p (([]:List Ext)++(e1::B2)).length cap) 129)],vc] (.bool true):=CtQ.conv (inside_ct bs ⟨n,(([]:List Ext)++(e1::B2))⟩ _ ⟨p,cap,vc,rfl,hV,hfo,hn⟩ first m hm hfm) (by simp)
 have hBe:=behind_ct bs n cap first p vc ([]:List Ext) (e1::B2) hfo hn hV hA hB
 have hlen:=fok_len hfo (k:=0) (by omega) (by omega)
 have hl:(([]:List Ext)++(e1::B2)).length=0+(B2.length+1):=by simp<;>omega
 have hlA:(([]:List Ext):List Ext).length=0:=by simp
 have hl2:([]++[(first,m)]++(e1::B2)).length=0+1+(B2.length+1):=by simp<;>omega
 have hfb:=hfo.1
 have hE1:=end_ct first m (by omega)
 have hb1:=hfb e1 (by simp)
 rw[hl] at hI hBe hlen⊢
 rw[hlA] at hBe
 rw[hl] at hV
 rw[hl2]
 unfold spCells at hI hBe⊢
 have hVV:=hV
 obtain⟨_,h0|⟨vb,rest,rfl,rfl,hrl,hmc,hcm⟩⟩:=hV
 ·omega
 obtain⟨k1,k2,k3⟩:=eget (A:=([]:List Ext)) (rest:=rest) (B:=B2) (e:=e1) (i:=0) (by simp)
 generalize hcl:ecells (([]:List Ext)++(e1::B2))++rest=cells at*
 have hR:=fun bv=>RepAny_ct (some ⟨vb,0,none⟩) cap [] (e1::B2) [] (first,m) [(vb,row cells 126)] 0 (0+(B2.length+1)) ((0:Nat):Int) ((0:Nat):Int) (first:Int) (m:Int) (by simp) (by omega) (by simp only[List.length_nil,List.length_cons]<;>omega) (by simp) (by simp only[List.length_nil,List.length_cons]<;>omega) (by omega) bv 1 [] (by first|rfl|omega) (by first|rfl|(dsimp only;omega))
  (by rw[show[]++[]++(e1::B2)=(([]:List Ext)++(e1::B2)) by simp];exact hVV)
 simp only[List.append_nil] at hR
 refine Ct.intro Tryz.func125 rfl Tryz.ntmps125 (nle rfl) fun w0=> ?_;dsimp only[argSlots,Nat.reduceAdd]
 repeat(first|(refine st ?_;intros)|refine G.draw (id:=7) [(17,.quiet)] (h:= ?_)|refine G.draw [] (h:= ?_)|(refine cq hI ?_)|(refine cq hBe ?_)|(refine cq hE0 ?_)|(refine cq hE1 ?_))
 refine R.call (hct:=hR _) (h:= ?_)
 rintro _ _ ⟨p2,cap2,c2,rfl,hV2,rfl⟩
 try dsimp only[List.cons_append,List.nil_append]
 repeat(first|(refine st ?_;intros)|refine G.draw (id:=7) [(17,.quiet)] (h:= ?_)|refine G.draw [] (h:= ?_)|(refine cq hI ?_)|(refine cq hBe ?_)|(refine cq hE0 ?_)|(refine cq hE1 ?_))
 (refine Dn.post (Hr:=[[(bs,row [.int .i64 0,.int .i64 (n:Int),.slice p2 (0+1+((e1::B2):List Ext).length) cap2] 129)],c2]) Tryz.results125 (hR:= ?_);refine⟨rfl,p2,cap2,c2,?_,?_⟩)
 ·first|rfl|(rw[show((e1::B2):List Ext).length=(B2.length+1) by simp])
 ·first|exact hV2|(simpa using hV2)|(rw[show 0+1+(B2.length+1)=0+1+((e1::B2):List Ext).length by simp];exact hV2)
theorem Give02w (B2:List Ext) (e1:Ext) (hb:e1.1=first+m) (hfo:fok n (([]:List Ext)++(e1::B2))) (hA:∀e∈(([]:List Ext):List Ext),e.1+e.2≤first) (hB:∀e∈((e1::B2):List Ext),first<e.1+e.2) (hV:Vec 126 2 p (([]:List Ext)++(e1::B2)).length cap (ecells (([]:List Ext)++(e1::B2))) vc):
  Ct Tryz.prog 125 [.pointer (some ⟨bs,0,none⟩),.int .i64 (first:Int),.int .i64 (m:Int)] [[(bs,row (spCells n p (([]:List Ext)++(e1::B2)).length cap) 129)],vc] fun v H'=>
   v= .int .i64 0∧∃p' cap' vc',H'=[[(bs,row (spCells n p' ([]++[(first,m+e1.2)]++B2).length cap') 129)],vc']∧Vec 126 2 p' ([]++[(first,m+e1.2)]++B2).length cap' (ecells ([]++[(first,m+e1.2)]++B2)) vc':=by
 have hI:CtQ Tryz.prog 158 [.pointer (some ⟨bs,0,none⟩),.int .i64 (first:Int),.int .i64 (m:Int)] [[(bs,row (spCells n p (([]:List Ext)++(e1::B2)).length cap) 129)],vc] (.bool true):=CtQ.conv (inside_ct bs ⟨n,(([]:List Ext)++(e1::B2))⟩ _ ⟨p,cap,vc,rfl,hV,hfo,hn⟩ first m hm hfm) (by simp)
 have hBe:=behind_ct bs n cap first p vc ([]:List Ext) (e1::B2) hfo hn hV hA hB
 have hlen:=fok_len hfo (k:=0) (by omega) (by omega)
 have hl:(([]:List Ext)++(e1::B2)).length=0+(B2.length+1):=by simp<;>omega
 have hlA:(([]:List Ext):List Ext).length=0:=by simp
 have hl2:([]++[(first,m+e1.2)]++B2).length=0+1+B2.length:=by simp<;>omega
 have hfb:=hfo.1
 have hE1:=end_ct first m (by omega)
 have hb1:=hfb e1 (by simp)
 rw[hl] at hI hBe hlen⊢
 rw[hlA] at hBe
 rw[hl] at hV
 rw[hl2]
 unfold spCells at hI hBe⊢
 have hVV:=hV
 obtain⟨_,h0|⟨vb,rest,rfl,rfl,hrl,hmc,hcm⟩⟩:=hV
 ·omega
 obtain⟨k1,k2,k3⟩:=eget (A:=([]:List Ext)) (rest:=rest) (B:=B2) (e:=e1) (i:=0) (by simp)
 generalize hcl:ecells (([]:List Ext)++(e1::B2))++rest=cells at*
 have hR:=fun bv=>RepAny_ct (some ⟨vb,0,none⟩) cap [] B2 [e1] (first,m+e1.2) [(vb,row cells 126)] 0 (0+(B2.length+1)) ((0:Nat):Int) (((0:Nat):Int)+1) (first:Int) ((m:Int)+(e1.2:Int)) (by simp) (by omega) (by simp only[List.length_nil,List.length_cons]<;>omega) (by simp) (by simp only[List.length_nil,List.length_cons]<;>omega) (by omega) bv 1 [] (by first|rfl|omega) (by first|rfl|(dsimp only;omega))
  (by rw[show[]++[e1]++B2=(([]:List Ext)++(e1::B2)) by simp];exact hVV)
 simp only[List.append_nil] at hR
 refine Ct.intro Tryz.func125 rfl Tryz.ntmps125 (nle rfl) fun w0=> ?_;dsimp only[argSlots,Nat.reduceAdd]
 repeat(first|(refine st ?_;intros)|refine G.draw (id:=7) [(17,.quiet)] (h:= ?_)|refine G.draw [] (h:= ?_)|(refine cq hI ?_)|(refine cq hBe ?_)|(refine cq hE0 ?_)|(refine cq hE1 ?_))
 refine R.call (hct:=hR _) (h:= ?_)
 rintro _ _ ⟨p2,cap2,c2,rfl,hV2,rfl⟩
 try dsimp only[List.cons_append,List.nil_append]
 repeat(first|(refine st ?_;intros)|refine G.draw (id:=7) [(17,.quiet)] (h:= ?_)|refine G.draw [] (h:= ?_)|(refine cq hI ?_)|(refine cq hBe ?_)|(refine cq hE0 ?_)|(refine cq hE1 ?_))
 (refine Dn.post (Hr:=[[(bs,row [.int .i64 0,.int .i64 (n:Int),.slice p2 (0+1+(B2:List Ext).length) cap2] 129)],c2]) Tryz.results125 (hR:= ?_);refine⟨rfl,p2,cap2,c2,?_,?_⟩)
 ·first|rfl|(rw[show(B2:List Ext).length=B2.length by simp])
 ·first|exact hV2|(simpa using hV2)|(rw[show 0+1+B2.length=0+1+(B2:List Ext).length by simp];exact hV2)
theorem Give10w (A2:List Ext) (e0:Ext) (ha:e0.1+e0.2<first) (hfo:fok n ((A2++[e0])++([]:List Ext))) (hA:∀e∈((A2++[e0]):List Ext),e.1+e.2≤first) (hB:∀e∈(([]:List Ext):List Ext),first<e.1+e.2) (hV:Vec 126 2 p ((A2++[e0])++([]:List Ext)).length cap (ecells ((A2++[e0])++([]:List Ext))) vc):
  Ct Tryz.prog 125 [.pointer (some ⟨bs,0,none⟩),.int .i64 (first:Int),.int .i64 (m:Int)] [[(bs,row (spCells n p ((A2++[e0])++([]:List Ext)).length cap) 129)],vc] fun v H'=>
   v= .int .i64 0∧∃p' cap' vc',H'=[[(bs,row (spCells n p' ((A2++[e0])++[(first,m)]++[]).length cap') 129)],vc']∧Vec 126 2 p' ((A2++[e0])++[(first,m)]++[]).length cap' (ecells ((A2++[e0])++[(first,m)]++[])) vc':=by
 have hI:CtQ Tryz.prog 158 [.pointer (some ⟨bs,0,none⟩),.int .i64 (first:Int),.int .i64 (m:Int)] [[(bs,row (spCells n p ((A2++[e0])++([]:List Ext)).length cap) 129)],vc] (.bool true):=CtQ.conv (inside_ct bs ⟨n,((A2++[e0])++([]:List Ext))⟩ _ ⟨p,cap,vc,rfl,hV,hfo,hn⟩ first m hm hfm) (by simp)
 have hBe:=behind_ct bs n cap first p vc (A2++[e0]) ([]:List Ext) hfo hn hV hA hB
 have hlen:=fok_len hfo (k:=0) (by omega) (by omega)
 have hl:((A2++[e0])++([]:List Ext)).length=(A2.length+1)+0:=by simp<;>omega
 have hlA:((A2++[e0]):List Ext).length=(A2.length+1):=by simp
 have hl2:((A2++[e0])++[(first,m)]++[]).length=(A2.length+1)+1+0:=by simp<;>omega
 have hfb:=hfo.1
 have hE1:=end_ct first m (by omega)
 have hb0:=hfb e0 (by simp)
 have hE0:=end_ct e0.1 e0.2 (by omega)
 rw[hl] at hI hBe hlen⊢
 rw[hlA] at hBe
 rw[hl] at hV
 rw[hl2]
 unfold spCells at hI hBe⊢
 have hVV:=hV
 obtain⟨_,h0|⟨vb,rest,rfl,rfl,hrl,hmc,hcm⟩⟩:=hV
 ·omega
 obtain⟨g1,g2,g3⟩:=eget (A:=A2) (rest:=rest) (B:=([]:List Ext)) (e:=e0) (rfl:A2.length=A2.length)
 rw[show A2++e0::([]:List Ext)=((A2++[e0])++([]:List Ext)) by simp] at g1 g2 g3
 have ei:(((A2.length+1:Nat):Int)-1).toNat=A2.length:=by omega
 generalize hcl:ecells ((A2++[e0])++([]:List Ext))++rest=cells at*
 have hR:=fun bv=>RepAny_ct (some ⟨vb,0,none⟩) cap (A2++[e0]) [] [] (first,m) [(vb,row cells 126)] (A2.length+1) ((A2.length+1)+0) (((A2.length+1):Nat):Int) (((A2.length+1):Nat):Int) (first:Int) (m:Int) (by simp) (by omega) (by simp only[List.length_nil,List.length_cons]<;>omega) (by simp) (by simp only[List.length_nil,List.length_cons]<;>omega) (by omega) bv 1 [] (by first|rfl|omega) (by first|rfl|(dsimp only;omega))
  (by rw[show(A2++[e0])++[]++[]=((A2++[e0])++([]:List Ext)) by simp];exact hVV)
 simp only[List.append_nil] at hR
 refine Ct.intro Tryz.func125 rfl Tryz.ntmps125 (nle rfl) fun w0=> ?_;dsimp only[argSlots,Nat.reduceAdd]
 repeat(first|(refine st ?_;intros)|refine G.draw (id:=7) [(17,.quiet)] (h:= ?_)|refine G.draw [] (h:= ?_)|(refine cq hI ?_)|(refine cq hBe ?_)|(refine cq hE0 ?_)|(refine cq hE1 ?_))
 refine R.call (hct:=hR _) (h:= ?_)
 rintro _ _ ⟨p2,cap2,c2,rfl,hV2,rfl⟩
 try dsimp only[List.cons_append,List.nil_append]
 repeat(first|(refine st ?_;intros)|refine G.draw (id:=7) [(17,.quiet)] (h:= ?_)|refine G.draw [] (h:= ?_)|(refine cq hI ?_)|(refine cq hBe ?_)|(refine cq hE0 ?_)|(refine cq hE1 ?_))
 (refine Dn.post (Hr:=[[(bs,row [.int .i64 0,.int .i64 (n:Int),.slice p2 ((A2.length+1)+1+([]:List Ext).length) cap2] 129)],c2]) Tryz.results125 (hR:= ?_);refine⟨rfl,p2,cap2,c2,?_,?_⟩)
 ·first|rfl|(rw[show([]:List Ext).length=0 by simp])
 ·first|exact hV2|(simpa using hV2)|(rw[show(A2.length+1)+1+0=(A2.length+1)+1+([]:List Ext).length by simp];exact hV2)
theorem Give11w (A2:List Ext) (e0:Ext) (B2:List Ext) (e1:Ext) (ha:e0.1+e0.2<first) (hb:first+m<e1.1) (hfo:fok n ((A2++[e0])++(e1::B2))) (hA:∀e∈((A2++[e0]):List Ext),e.1+e.2≤first) (hB:∀e∈((e1::B2):List Ext),first<e.1+e.2) (hV:Vec 126 2 p ((A2++[e0])++(e1::B2)).length cap (ecells ((A2++[e0])++(e1::B2))) vc):
  Ct Tryz.prog 125 [.pointer (some ⟨bs,0,none⟩),.int .i64 (first:Int),.int .i64 (m:Int)] [[(bs,row (spCells n p ((A2++[e0])++(e1::B2)).length cap) 129)],vc] fun v H'=>
   v= .int .i64 0∧∃p' cap' vc',H'=[[(bs,row (spCells n p' ((A2++[e0])++[(first,m)]++(e1::B2)).length cap') 129)],vc']∧Vec 126 2 p' ((A2++[e0])++[(first,m)]++(e1::B2)).length cap' (ecells ((A2++[e0])++[(first,m)]++(e1::B2))) vc':=by
 have hI:CtQ Tryz.prog 158 [.pointer (some ⟨bs,0,none⟩),.int .i64 (first:Int),.int .i64 (m:Int)] [[(bs,row (spCells n p ((A2++[e0])++(e1::B2)).length cap) 129)],vc] (.bool true):=CtQ.conv (inside_ct bs ⟨n,((A2++[e0])++(e1::B2))⟩ _ ⟨p,cap,vc,rfl,hV,hfo,hn⟩ first m hm hfm) (by simp)
 have hBe:=behind_ct bs n cap first p vc (A2++[e0]) (e1::B2) hfo hn hV hA hB
 have hlen:=fok_len hfo (k:=0) (by omega) (by omega)
 have hl:((A2++[e0])++(e1::B2)).length=(A2.length+1)+(B2.length+1):=by simp<;>omega
 have hlA:((A2++[e0]):List Ext).length=(A2.length+1):=by simp
 have hl2:((A2++[e0])++[(first,m)]++(e1::B2)).length=(A2.length+1)+1+(B2.length+1):=by simp<;>omega
 have hfb:=hfo.1
 have hE1:=end_ct first m (by omega)
 have hb0:=hfb e0 (by simp)
 have hE0:=end_ct e0.1 e0.2 (by omega)
 have hb1:=hfb e1 (by simp)
 rw[hl] at hI hBe hlen⊢
 rw[hlA] at hBe
 rw[hl] at hV
 rw[hl2]
 unfold spCells at hI hBe⊢
 have hVV:=hV
 obtain⟨_,h0|⟨vb,rest,rfl,rfl,hrl,hmc,hcm⟩⟩:=hV
 ·omega
 obtain⟨g1,g2,g3⟩:=eget (A:=A2) (rest:=rest) (B:=(e1::B2)) (e:=e0) (rfl:A2.length=A2.length)
 rw[show A2++e0::(e1::B2)=((A2++[e0])++(e1::B2)) by simp] at g1 g2 g3
 have ei:(((A2.length+1:Nat):Int)-1).toNat=A2.length:=by omega
 obtain⟨k1,k2,k3⟩:=eget (A:=(A2++[e0])) (rest:=rest) (B:=B2) (e:=e1) (i:=(A2.length+1)) (by simp)
 generalize hcl:ecells ((A2++[e0])++(e1::B2))++rest=cells at*
 have hR:=fun bv=>RepAny_ct (some ⟨vb,0,none⟩) cap (A2++[e0]) (e1::B2) [] (first,m) [(vb,row cells 126)] (A2.length+1) ((A2.length+1)+(B2.length+1)) (((A2.length+1):Nat):Int) (((A2.length+1):Nat):Int) (first:Int) (m:Int) (by simp) (by omega) (by simp only[List.length_nil,List.length_cons]<;>omega) (by simp) (by simp only[List.length_nil,List.length_cons]<;>omega) (by omega) bv 1 [] (by first|rfl|omega) (by first|rfl|(dsimp only;omega))
  (by rw[show(A2++[e0])++[]++(e1::B2)=((A2++[e0])++(e1::B2)) by simp];exact hVV)
 simp only[List.append_nil] at hR
 refine Ct.intro Tryz.func125 rfl Tryz.ntmps125 (nle rfl) fun w0=> ?_;dsimp only[argSlots,Nat.reduceAdd]
 repeat(first|(refine st ?_;intros)|refine G.draw (id:=7) [(17,.quiet)] (h:= ?_)|refine G.draw [] (h:= ?_)|(refine cq hI ?_)|(refine cq hBe ?_)|(refine cq hE0 ?_)|(refine cq hE1 ?_))
 refine R.call (hct:=hR _) (h:= ?_)
 rintro _ _ ⟨p2,cap2,c2,rfl,hV2,rfl⟩
 try dsimp only[List.cons_append,List.nil_append]
 repeat(first|(refine st ?_;intros)|refine G.draw (id:=7) [(17,.quiet)] (h:= ?_)|refine G.draw [] (h:= ?_)|(refine cq hI ?_)|(refine cq hBe ?_)|(refine cq hE0 ?_)|(refine cq hE1 ?_))
 (refine Dn.post (Hr:=[[(bs,row [.int .i64 0,.int .i64 (n:Int),.slice p2 ((A2.length+1)+1+((e1::B2):List Ext).length) cap2] 129)],c2]) Tryz.results125 (hR:= ?_);refine⟨rfl,p2,cap2,c2,?_,?_⟩)
 ·first|rfl|(rw[show((e1::B2):List Ext).length=(B2.length+1) by simp])
 ·first|exact hV2|(simpa using hV2)|(rw[show(A2.length+1)+1+(B2.length+1)=(A2.length+1)+1+((e1::B2):List Ext).length by simp];exact hV2)
theorem Give12w (A2:List Ext) (e0:Ext) (B2:List Ext) (e1:Ext) (ha:e0.1+e0.2<first) (hb:e1.1=first+m) (hfo:fok n ((A2++[e0])++(e1::B2))) (hA:∀e∈((A2++[e0]):List Ext),e.1+e.2≤first) (hB:∀e∈((e1::B2):List Ext),first<e.1+e.2) (hV:Vec 126 2 p ((A2++[e0])++(e1::B2)).length cap (ecells ((A2++[e0])++(e1::B2))) vc):
  Ct Tryz.prog 125 [.pointer (some ⟨bs,0,none⟩),.int .i64 (first:Int),.int .i64 (m:Int)] [[(bs,row (spCells n p ((A2++[e0])++(e1::B2)).length cap) 129)],vc] fun v H'=>
   v= .int .i64 0∧∃p' cap' vc',H'=[[(bs,row (spCells n p' ((A2++[e0])++[(first,m+e1.2)]++B2).length cap') 129)],vc']∧Vec 126 2 p' ((A2++[e0])++[(first,m+e1.2)]++B2).length cap' (ecells ((A2++[e0])++[(first,m+e1.2)]++B2)) vc':=by
 have hI:CtQ Tryz.prog 158 [.pointer (some ⟨bs,0,none⟩),.int .i64 (first:Int),.int .i64 (m:Int)] [[(bs,row (spCells n p ((A2++[e0])++(e1::B2)).length cap) 129)],vc] (.bool true):=CtQ.conv (inside_ct bs ⟨n,((A2++[e0])++(e1::B2))⟩ _ ⟨p,cap,vc,rfl,hV,hfo,hn⟩ first m hm hfm) (by simp)
 have hBe:=behind_ct bs n cap first p vc (A2++[e0]) (e1::B2) hfo hn hV hA hB
 have hlen:=fok_len hfo (k:=0) (by omega) (by omega)
 have hl:((A2++[e0])++(e1::B2)).length=(A2.length+1)+(B2.length+1):=by simp<;>omega
 have hlA:((A2++[e0]):List Ext).length=(A2.length+1):=by simp
 have hl2:((A2++[e0])++[(first,m+e1.2)]++B2).length=(A2.length+1)+1+B2.length:=by simp<;>omega
 have hfb:=hfo.1
 have hE1:=end_ct first m (by omega)
 have hb0:=hfb e0 (by simp)
 have hE0:=end_ct e0.1 e0.2 (by omega)
 have hb1:=hfb e1 (by simp)
 rw[hl] at hI hBe hlen⊢
 rw[hlA] at hBe
 rw[hl] at hV
 rw[hl2]
 unfold spCells at hI hBe⊢
 have hVV:=hV
 obtain⟨_,h0|⟨vb,rest,rfl,rfl,hrl,hmc,hcm⟩⟩:=hV
 ·omega
 obtain⟨g1,g2,g3⟩:=eget (A:=A2) (rest:=rest) (B:=(e1::B2)) (e:=e0) (rfl:A2.length=A2.length)
 rw[show A2++e0::(e1::B2)=((A2++[e0])++(e1::B2)) by simp] at g1 g2 g3
 have ei:(((A2.length+1:Nat):Int)-1).toNat=A2.length:=by omega
 obtain⟨k1,k2,k3⟩:=eget (A:=(A2++[e0])) (rest:=rest) (B:=B2) (e:=e1) (i:=(A2.length+1)) (by simp)
 generalize hcl:ecells ((A2++[e0])++(e1::B2))++rest=cells at*
 have hR:=fun bv=>RepAny_ct (some ⟨vb,0,none⟩) cap (A2++[e0]) B2 [e1] (first,m+e1.2) [(vb,row cells 126)] (A2.length+1) ((A2.length+1)+(B2.length+1)) (((A2.length+1):Nat):Int) ((((A2.length+1):Nat):Int)+1) (first:Int) ((m:Int)+(e1.2:Int)) (by simp) (by omega) (by simp only[List.length_nil,List.length_cons]<;>omega) (by simp) (by simp only[List.length_nil,List.length_cons]<;>omega) (by omega) bv 1 [] (by first|rfl|omega) (by first|rfl|(dsimp only;omega))
  (by rw[show(A2++[e0])++[e1]++B2=((A2++[e0])++(e1::B2)) by simp];exact hVV)
 simp only[List.append_nil] at hR
 refine Ct.intro Tryz.func125 rfl Tryz.ntmps125 (nle rfl) fun w0=> ?_;dsimp only[argSlots,Nat.reduceAdd]
 repeat(first|(refine st ?_;intros)|refine G.draw (id:=7) [(17,.quiet)] (h:= ?_)|refine G.draw [] (h:= ?_)|(refine cq hI ?_)|(refine cq hBe ?_)|(refine cq hE0 ?_)|(refine cq hE1 ?_))
 refine R.call (hct:=hR _) (h:= ?_)
 rintro _ _ ⟨p2,cap2,c2,rfl,hV2,rfl⟩
 try dsimp only[List.cons_append,List.nil_append]
 repeat(first|(refine st ?_;intros)|refine G.draw (id:=7) [(17,.quiet)] (h:= ?_)|refine G.draw [] (h:= ?_)|(refine cq hI ?_)|(refine cq hBe ?_)|(refine cq hE0 ?_)|(refine cq hE1 ?_))
 (refine Dn.post (Hr:=[[(bs,row [.int .i64 0,.int .i64 (n:Int),.slice p2 ((A2.length+1)+1+(B2:List Ext).length) cap2] 129)],c2]) Tryz.results125 (hR:= ?_);refine⟨rfl,p2,cap2,c2,?_,?_⟩)
 ·first|rfl|(rw[show(B2:List Ext).length=B2.length by simp])
 ·first|exact hV2|(simpa using hV2)|(rw[show(A2.length+1)+1+B2.length=(A2.length+1)+1+(B2:List Ext).length by simp];exact hV2)
theorem Give20w (A2:List Ext) (e0:Ext) (ha:e0.1+e0.2=first) (hfo:fok n ((A2++[e0])++([]:List Ext))) (hA:∀e∈((A2++[e0]):List Ext),e.1+e.2≤first) (hB:∀e∈(([]:List Ext):List Ext),first<e.1+e.2) (hV:Vec 126 2 p ((A2++[e0])++([]:List Ext)).length cap (ecells ((A2++[e0])++([]:List Ext))) vc):
  Ct Tryz.prog 125 [.pointer (some ⟨bs,0,none⟩),.int .i64 (first:Int),.int .i64 (m:Int)] [[(bs,row (spCells n p ((A2++[e0])++([]:List Ext)).length cap) 129)],vc] fun v H'=>
   v= .int .i64 0∧∃p' cap' vc',H'=[[(bs,row (spCells n p' (A2++[(e0.1,m+e0.2)]++[]).length cap') 129)],vc']∧Vec 126 2 p' (A2++[(e0.1,m+e0.2)]++[]).length cap' (ecells (A2++[(e0.1,m+e0.2)]++[])) vc':=by
 have hI:CtQ Tryz.prog 158 [.pointer (some ⟨bs,0,none⟩),.int .i64 (first:Int),.int .i64 (m:Int)] [[(bs,row (spCells n p ((A2++[e0])++([]:List Ext)).length cap) 129)],vc] (.bool true):=CtQ.conv (inside_ct bs ⟨n,((A2++[e0])++([]:List Ext))⟩ _ ⟨p,cap,vc,rfl,hV,hfo,hn⟩ first m hm hfm) (by simp)
 have hBe:=behind_ct bs n cap first p vc (A2++[e0]) ([]:List Ext) hfo hn hV hA hB
 have hlen:=fok_len hfo (k:=0) (by omega) (by omega)
 have hl:((A2++[e0])++([]:List Ext)).length=(A2.length+1)+0:=by simp<;>omega
 have hlA:((A2++[e0]):List Ext).length=(A2.length+1):=by simp
 have hl2:(A2++[(e0.1,m+e0.2)]++[]).length=A2.length+1+0:=by simp<;>omega
 have hfb:=hfo.1
 have hE1:=end_ct first m (by omega)
 have hb0:=hfb e0 (by simp)
 have hE0:=end_ct e0.1 e0.2 (by omega)
 rw[hl] at hI hBe hlen⊢
 rw[hlA] at hBe
 rw[hl] at hV
 rw[hl2]
 unfold spCells at hI hBe⊢
 have hVV:=hV
 obtain⟨_,h0|⟨vb,rest,rfl,rfl,hrl,hmc,hcm⟩⟩:=hV
 ·omega
 obtain⟨g1,g2,g3⟩:=eget (A:=A2) (rest:=rest) (B:=([]:List Ext)) (e:=e0) (rfl:A2.length=A2.length)
 rw[show A2++e0::([]:List Ext)=((A2++[e0])++([]:List Ext)) by simp] at g1 g2 g3
 have ei:(((A2.length+1:Nat):Int)-1).toNat=A2.length:=by omega
 generalize hcl:ecells ((A2++[e0])++([]:List Ext))++rest=cells at*
 have hR:=fun bv=>RepAny_ct (some ⟨vb,0,none⟩) cap A2 [] [e0] (e0.1,m+e0.2) [(vb,row cells 126)] A2.length ((A2.length+1)+0) ((((A2.length+1):Nat):Int)-1) (((A2.length+1):Nat):Int) (e0.1:Int) ((m:Int)+(e0.2:Int)) (by simp) (by omega) (by simp only[List.length_nil,List.length_cons]<;>omega) (by simp) (by simp only[List.length_nil,List.length_cons]<;>omega) (by omega) bv 1 [] (by first|rfl|omega) (by first|rfl|(dsimp only;omega))
  (by rw[show A2++[e0]++[]=((A2++[e0])++([]:List Ext)) by simp];exact hVV)
 simp only[List.append_nil] at hR
 refine Ct.intro Tryz.func125 rfl Tryz.ntmps125 (nle rfl) fun w0=> ?_;dsimp only[argSlots,Nat.reduceAdd]
 repeat(first|(refine st ?_;intros)|refine G.draw (id:=7) [(17,.quiet)] (h:= ?_)|refine G.draw [] (h:= ?_)|(refine cq hI ?_)|(refine cq hBe ?_)|(refine cq hE0 ?_)|(refine cq hE1 ?_))
 refine R.call (hct:=hR _) (h:= ?_)
 rintro _ _ ⟨p2,cap2,c2,rfl,hV2,rfl⟩
 try dsimp only[List.cons_append,List.nil_append]
 repeat(first|(refine st ?_;intros)|refine G.draw (id:=7) [(17,.quiet)] (h:= ?_)|refine G.draw [] (h:= ?_)|(refine cq hI ?_)|(refine cq hBe ?_)|(refine cq hE0 ?_)|(refine cq hE1 ?_))
 (refine Dn.post (Hr:=[[(bs,row [.int .i64 0,.int .i64 (n:Int),.slice p2 (A2.length+1+([]:List Ext).length) cap2] 129)],c2]) Tryz.results125 (hR:= ?_);refine⟨rfl,p2,cap2,c2,?_,?_⟩)
 ·first|rfl|(rw[show([]:List Ext).length=0 by simp])
 ·first|exact hV2|(simpa using hV2)|(rw[show A2.length+1+0=A2.length+1+([]:List Ext).length by simp];exact hV2)
theorem Give21w (A2:List Ext) (e0:Ext) (B2:List Ext) (e1:Ext) (ha:e0.1+e0.2=first) (hb:first+m<e1.1) (hfo:fok n ((A2++[e0])++(e1::B2))) (hA:∀e∈((A2++[e0]):List Ext),e.1+e.2≤first) (hB:∀e∈((e1::B2):List Ext),first<e.1+e.2) (hV:Vec 126 2 p ((A2++[e0])++(e1::B2)).length cap (ecells ((A2++[e0])++(e1::B2))) vc):
  Ct Tryz.prog 125 [.pointer (some ⟨bs,0,none⟩),.int .i64 (first:Int),.int .i64 (m:Int)] [[(bs,row (spCells n p ((A2++[e0])++(e1::B2)).length cap) 129)],vc] fun v H'=>
   v= .int .i64 0∧∃p' cap' vc',H'=[[(bs,row (spCells n p' (A2++[(e0.1,m+e0.2)]++(e1::B2)).length cap') 129)],vc']∧Vec 126 2 p' (A2++[(e0.1,m+e0.2)]++(e1::B2)).length cap' (ecells (A2++[(e0.1,m+e0.2)]++(e1::B2))) vc':=by
 have hI:CtQ Tryz.prog 158 [.pointer (some ⟨bs,0,none⟩),.int .i64 (first:Int),.int .i64 (m:Int)] [[(bs,row (spCells n p ((A2++[e0])++(e1::B2)).length cap) 129)],vc] (.bool true):=CtQ.conv (inside_ct bs ⟨n,((A2++[e0])++(e1::B2))⟩ _ ⟨p,cap,vc,rfl,hV,hfo,hn⟩ first m hm hfm) (by simp)
 have hBe:=behind_ct bs n cap first p vc (A2++[e0]) (e1::B2) hfo hn hV hA hB
 have hlen:=fok_len hfo (k:=0) (by omega) (by omega)
 have hl:((A2++[e0])++(e1::B2)).length=(A2.length+1)+(B2.length+1):=by simp<;>omega
 have hlA:((A2++[e0]):List Ext).length=(A2.length+1):=by simp
 have hl2:(A2++[(e0.1,m+e0.2)]++(e1::B2)).length=A2.length+1+(B2.length+1):=by simp<;>omega
 have hfb:=hfo.1
 have hE1:=end_ct first m (by omega)
 have hb0:=hfb e0 (by simp)
 have hE0:=end_ct e0.1 e0.2 (by omega)
 have hb1:=hfb e1 (by simp)
 rw[hl] at hI hBe hlen⊢
 rw[hlA] at hBe
 rw[hl] at hV
 rw[hl2]
 unfold spCells at hI hBe⊢
 have hVV:=hV
 obtain⟨_,h0|⟨vb,rest,rfl,rfl,hrl,hmc,hcm⟩⟩:=hV
 ·omega
 obtain⟨g1,g2,g3⟩:=eget (A:=A2) (rest:=rest) (B:=(e1::B2)) (e:=e0) (rfl:A2.length=A2.length)
 rw[show A2++e0::(e1::B2)=((A2++[e0])++(e1::B2)) by simp] at g1 g2 g3
 have ei:(((A2.length+1:Nat):Int)-1).toNat=A2.length:=by omega
 obtain⟨k1,k2,k3⟩:=eget (A:=(A2++[e0])) (rest:=rest) (B:=B2) (e:=e1) (i:=(A2.length+1)) (by simp)
 generalize hcl:ecells ((A2++[e0])++(e1::B2))++rest=cells at*
 have hR:=fun bv=>RepAny_ct (some ⟨vb,0,none⟩) cap A2 (e1::B2) [e0] (e0.1,m+e0.2) [(vb,row cells 126)] A2.length ((A2.length+1)+(B2.length+1)) ((((A2.length+1):Nat):Int)-1) (((A2.length+1):Nat):Int) (e0.1:Int) ((m:Int)+(e0.2:Int)) (by simp) (by omega) (by simp only[List.length_nil,List.length_cons]<;>omega) (by simp) (by simp only[List.length_nil,List.length_cons]<;>omega) (by omega) bv 1 [] (by first|rfl|omega) (by first|rfl|(dsimp only;omega))
  (by rw[show A2++[e0]++(e1::B2)=((A2++[e0])++(e1::B2)) by simp];exact hVV)
 simp only[List.append_nil] at hR
 refine Ct.intro Tryz.func125 rfl Tryz.ntmps125 (nle rfl) fun w0=> ?_;dsimp only[argSlots,Nat.reduceAdd]
 repeat(first|(refine st ?_;intros)|refine G.draw (id:=7) [(17,.quiet)] (h:= ?_)|refine G.draw [] (h:= ?_)|(refine cq hI ?_)|(refine cq hBe ?_)|(refine cq hE0 ?_)|(refine cq hE1 ?_))
 refine R.call (hct:=hR _) (h:= ?_)
 rintro _ _ ⟨p2,cap2,c2,rfl,hV2,rfl⟩
 try dsimp only[List.cons_append,List.nil_append]
 repeat(first|(refine st ?_;intros)|refine G.draw (id:=7) [(17,.quiet)] (h:= ?_)|refine G.draw [] (h:= ?_)|(refine cq hI ?_)|(refine cq hBe ?_)|(refine cq hE0 ?_)|(refine cq hE1 ?_))
 (refine Dn.post (Hr:=[[(bs,row [.int .i64 0,.int .i64 (n:Int),.slice p2 (A2.length+1+((e1::B2):List Ext).length) cap2] 129)],c2]) Tryz.results125 (hR:= ?_);refine⟨rfl,p2,cap2,c2,?_,?_⟩)
 ·first|rfl|(rw[show((e1::B2):List Ext).length=(B2.length+1) by simp])
 ·first|exact hV2|(simpa using hV2)|(rw[show A2.length+1+(B2.length+1)=A2.length+1+((e1::B2):List Ext).length by simp];exact hV2)
theorem Give22w (A2:List Ext) (e0:Ext) (B2:List Ext) (e1:Ext) (ha:e0.1+e0.2=first) (hb:e1.1=first+m) (hfo:fok n ((A2++[e0])++(e1::B2))) (hA:∀e∈((A2++[e0]):List Ext),e.1+e.2≤first) (hB:∀e∈((e1::B2):List Ext),first<e.1+e.2) (hV:Vec 126 2 p ((A2++[e0])++(e1::B2)).length cap (ecells ((A2++[e0])++(e1::B2))) vc):
  Ct Tryz.prog 125 [.pointer (some ⟨bs,0,none⟩),.int .i64 (first:Int),.int .i64 (m:Int)] [[(bs,row (spCells n p ((A2++[e0])++(e1::B2)).length cap) 129)],vc] fun v H'=>
   v= .int .i64 0∧∃p' cap' vc',H'=[[(bs,row (spCells n p' (A2++[(e0.1,m+e1.2+e0.2)]++B2).length cap') 129)],vc']∧Vec 126 2 p' (A2++[(e0.1,m+e1.2+e0.2)]++B2).length cap' (ecells (A2++[(e0.1,m+e1.2+e0.2)]++B2)) vc':=by
 have hI:CtQ Tryz.prog 158 [.pointer (some ⟨bs,0,none⟩),.int .i64 (first:Int),.int .i64 (m:Int)] [[(bs,row (spCells n p ((A2++[e0])++(e1::B2)).length cap) 129)],vc] (.bool true):=CtQ.conv (inside_ct bs ⟨n,((A2++[e0])++(e1::B2))⟩ _ ⟨p,cap,vc,rfl,hV,hfo,hn⟩ first m hm hfm) (by simp)
 have hBe:=behind_ct bs n cap first p vc (A2++[e0]) (e1::B2) hfo hn hV hA hB
 have hlen:=fok_len hfo (k:=0) (by omega) (by omega)
 have hl:((A2++[e0])++(e1::B2)).length=(A2.length+1)+(B2.length+1):=by simp<;>omega
 have hlA:((A2++[e0]):List Ext).length=(A2.length+1):=by simp
 have hl2:(A2++[(e0.1,m+e1.2+e0.2)]++B2).length=A2.length+1+B2.length:=by simp<;>omega
 have hfb:=hfo.1
 have hE1:=end_ct first m (by omega)
 have hb0:=hfb e0 (by simp)
 have hE0:=end_ct e0.1 e0.2 (by omega)
 have hb1:=hfb e1 (by simp)
 rw[hl] at hI hBe hlen⊢
 rw[hlA] at hBe
 rw[hl] at hV
 rw[hl2]
 unfold spCells at hI hBe⊢
 have hVV:=hV
 obtain⟨_,h0|⟨vb,rest,rfl,rfl,hrl,hmc,hcm⟩⟩:=hV
 ·omega
 obtain⟨g1,g2,g3⟩:=eget (A:=A2) (rest:=rest) (B:=(e1::B2)) (e:=e0) (rfl:A2.length=A2.length)
 rw[show A2++e0::(e1::B2)=((A2++[e0])++(e1::B2)) by simp] at g1 g2 g3
 have ei:(((A2.length+1:Nat):Int)-1).toNat=A2.length:=by omega
 obtain⟨k1,k2,k3⟩:=eget (A:=(A2++[e0])) (rest:=rest) (B:=B2) (e:=e1) (i:=(A2.length+1)) (by simp)
 generalize hcl:ecells ((A2++[e0])++(e1::B2))++rest=cells at*
 have hR:=fun bv=>RepAny_ct (some ⟨vb,0,none⟩) cap A2 B2 [e0,e1] (e0.1,m+e1.2+e0.2) [(vb,row cells 126)] A2.length ((A2.length+1)+(B2.length+1)) ((((A2.length+1):Nat):Int)-1) ((((A2.length+1):Nat):Int)+1) (e0.1:Int) (((m:Int)+(e1.2:Int))+(e0.2:Int)) (by simp) (by omega) (by simp only[List.length_nil,List.length_cons]<;>omega) (by simp) (by simp only[List.length_nil,List.length_cons]<;>omega) (by omega) bv 1 [] (by first|rfl|omega) (by first|rfl|(dsimp only;omega))
  (by rw[show A2++[e0,e1]++B2=((A2++[e0])++(e1::B2)) by simp];exact hVV)
 simp only[List.append_nil] at hR
 refine Ct.intro Tryz.func125 rfl Tryz.ntmps125 (nle rfl) fun w0=> ?_;dsimp only[argSlots,Nat.reduceAdd]
 repeat(first|(refine st ?_;intros)|refine G.draw (id:=7) [(17,.quiet)] (h:= ?_)|refine G.draw [] (h:= ?_)|(refine cq hI ?_)|(refine cq hBe ?_)|(refine cq hE0 ?_)|(refine cq hE1 ?_))
 refine R.call (hct:=hR _) (h:= ?_)
 rintro _ _ ⟨p2,cap2,c2,rfl,hV2,rfl⟩
 try dsimp only[List.cons_append,List.nil_append]
 repeat(first|(refine st ?_;intros)|refine G.draw (id:=7) [(17,.quiet)] (h:= ?_)|refine G.draw [] (h:= ?_)|(refine cq hI ?_)|(refine cq hBe ?_)|(refine cq hE0 ?_)|(refine cq hE1 ?_))
 (refine Dn.post (Hr:=[[(bs,row [.int .i64 0,.int .i64 (n:Int),.slice p2 (A2.length+1+(B2:List Ext).length) cap2] 129)],c2]) Tryz.results125 (hR:= ?_);refine⟨rfl,p2,cap2,c2,?_,?_⟩)
 ·first|rfl|(rw[show(B2:List Ext).length=B2.length by simp])
 ·first|exact hV2|(simpa using hV2)|(rw[show A2.length+1+B2.length=A2.length+1+(B2:List Ext).length by simp];exact hV2)
end
end Go.Proofs.YtammjnjpheobaaaGreat
