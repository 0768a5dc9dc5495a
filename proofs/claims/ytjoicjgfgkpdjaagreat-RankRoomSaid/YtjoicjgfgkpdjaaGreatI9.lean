/-
  Parts of the proof, put together: Give, Give2, WorkPlain, Work. No condition.
-/
import Derived.Test.YtjoicjgfgkpdjaaGreatI8
set_option linter.unusedVariables false
set_option linter.unusedSimpArgs false
set_option linter.unnecessarySimpa false
set_option maxHeartbeats 4000000
namespace Go.Proofs.YtjoicjgfgkpdjaaGreat
open Go.SL Go.Spc
def Gave (n:Nat) (free free':List Ext) (first m:Nat):Prop:=fok n free'∧(∀x,inF free' x↔inF free x∨(first≤x∧x<first+m))∧total free'=total free+m∧big free≤big free'
section
variable (bs:Nat) (n cap:Nat) (p:Option Addr) (vc:Chunk) (first m:Nat) (hn:n≤1000000) (hm:1≤m) (hfm:first+m≤n)
include hn hm hfm
theorem Give00w (hfo:fok n (([]:List Ext)++([]:List Ext))) (hA:∀e∈(([]:List Ext):List Ext),e.1+e.2≤first) (hB:∀e∈(([]:List Ext):List Ext),first<e.1+e.2) (hV:Vec 119 2 p (([]:List Ext)++([]:List Ext)).length cap (ecells (([]:List Ext)++([]:List Ext))) vc):
  Ct Tryz.prog 85 [.pointer (some ⟨bs,0,none⟩),.int .i64 (first:Int),.int .i64 (m:Int)] [[(bs,row (spCells n p (([]:List Ext)++([]:List Ext)).length cap) 122)],vc] fun v H'=>
   v= .int .i64 0∧∃p' cap' vc',H'=[[(bs,row (spCells n p' ([]++[(first,m)]++[]).length cap') 122)],vc']∧Vec 119 2 p' ([]++[(first,m)]++[]).length cap' (ecells ([]++[(first,m)]++[])) vc':=by
 have hI:CtQ Tryz.prog 111 [.pointer (some ⟨bs,0,none⟩),.int .i64 (first:Int),.int .i64 (m:Int)] [[(bs,row (spCells n p (([]:List Ext)++([]:List Ext)).length cap) 122)],vc] (.bool true):=CtQ.conv (inside_ct bs ⟨n,(([]:List Ext)++([]:List Ext))⟩ _ ⟨p,cap,vc,rfl,hV,hfo,hn⟩ first m hm hfm) (by simp)
 have hBe:=behind_ct bs n cap first p vc ([]:List Ext) ([]:List Ext) hfo hn hV hA hB
 have hlen:=fok_len hfo (k:=0) (by omega) (by omega)
 have hl:(([]:List Ext)++([]:List Ext)).length=0+0:=by simp<;>omega
 have hlA:(([]:List Ext):List Ext).length=0:=by simp
 have hl2:([]++[(first,m)]++[]).length=0+1+0:=by simp<;>omega
 have hfb:=hfo.1
 have hE1:=end_ct first m (by omega)
 rw[hl] at hI hBe hlen⊢
 rw[hlA] at hBe
 rw[hl] at hV
 rw[hl2]
 unfold spCells at hI hBe⊢
 have hR:=fun bv=>RepAny_ct p cap [] [] [] (first,m) vc 0 (0+0) ((0:Nat):Int) ((0:Nat):Int) (first:Int) (m:Int) (by simp) (by omega) (by simp only[List.length_nil,List.length_cons]<;>omega) (by simp) (by simp only[List.length_nil,List.length_cons]<;>omega) (by omega) bv 1 [] (by first|rfl|omega) (by first|rfl|(dsimp only;omega)) hV
 simp only[List.append_nil] at hR
 refine Ct.intro Tryz.func85 rfl Tryz.ntmps85 (nle rfl) fun w0=> ?_;dsimp only[argSlots,Nat.reduceAdd]
 repeat(first|(refine st ?_;intros)|refine G.draw (id:=7) [(17,.quiet)] (h:= ?_)|refine G.draw [] (h:= ?_)|(refine cq hI ?_)|(refine cq hBe ?_)|(refine cq hE0 ?_)|(refine cq hE1 ?_))
 refine R.call (hct:=hR _) (h:= ?_)
 rintro _ _ ⟨p2,cap2,c2,rfl,hV2,rfl⟩
 try dsimp only[List.cons_append,List.nil_append]
 repeat(first|(refine st ?_;intros)|refine G.draw (id:=7) [(17,.quiet)] (h:= ?_)|refine G.draw [] (h:= ?_)|(refine cq hI ?_)|(refine cq hBe ?_)|(refine cq hE0 ?_)|(refine cq hE1 ?_))
 (refine Dn.post (Hr:=[[(bs,row [.int .i64 0,.int .i64 (n:Int),.slice p2 (0+1+([]:List Ext).length) cap2] 122)],c2]) Tryz.results85 (hR:= ?_);refine⟨rfl,p2,cap2,c2,?_,?_⟩)
 ·first|rfl|(rw[show([]:List Ext).length=0 by simp])
 ·first|exact hV2|(simpa using hV2)|(rw[show 0+1+0=0+1+([]:List Ext).length by simp];exact hV2)
theorem Give01w (B2:List Ext) (e1:Ext) (hb:first+m<e1.1) (hfo:fok n (([]:List Ext)++(e1::B2))) (hA:∀e∈(([]:List Ext):List Ext),e.1+e.2≤first) (hB:∀e∈((e1::B2):List Ext),first<e.1+e.2) (hV:Vec 119 2 p (([]:List Ext)++(e1::B2)).length cap (ecells (([]:List Ext)++(e1::B2))) vc):
  Ct Tryz.prog 85 [.pointer (some ⟨bs,0,none⟩),.int .i64 (first:Int),.int .i64 (m:Int)] [[(bs,row (spCells n p (([]:List Ext)++(e1::B2)).length cap) 122)],vc] fun v H'=>
   v= .int .i64 0∧∃p' cap' vc',H'=[[(bs,row (spCells n p' ([]++[(first,m)]++(e1::B2)).length cap') 122)],vc']∧Vec 119 2 p' ([]++[(first,m)]++(e1::B2)).length cap' (ecells ([]++[(first,m)]++(e1::B2))) vc':=by
 have hI:CtQ Tryz.prog 111 [.pointer (some ⟨bs,0,none⟩),.int .i64 (first:Int),.int .i64 (m:Int)] [[(bs,row (spCells n p (([]:List Ext)++(e1::B2)).length cap) 122)],vc] (.bool true):=CtQ.conv (inside_ct bs ⟨n,(([]:List Ext)++(e1::B2))⟩ _ ⟨p,cap,vc,rfl,hV,hfo,hn⟩ first m hm hfm) (by simp)
 have hBe:=behind_ct bs n cap first p vc ([]:List Ext) (e1::B2) hfo hn hV hA hB
 have hlen:=fok_len hfo (k:=0) (by omega) (by omega)
 have hl:(([]:List Ext)++(e1::B2)).length=0+(B2.length+1):=by simp<;>omega
 have hlA:(([]:List Ext):List Ext).length=0:=by simp
 have hl2:([]++[(first,m)]++(e1::B2)).length=0+1+(B2.length+1):=by simp<;>omega
 have hfb:=hfo.1
 have hE1:=end_ct first m (by omega)
 have hb1:=hfb e1 (by simp)
 rw[hl] at hI hBe hlen⊢
 rw[hlA] at hBe
 rw[hl] at hV
 rw[hl2]
 unfold spCells at hI hBe⊢
 have hVV:=hV
 obtain⟨_,h0|⟨vb,rest,rfl,rfl,hrl,hmc,hcm⟩⟩:=hV
 ·omega
 obtain⟨k1,k2,k3⟩:=eget (A:=([]:List Ext)) (rest:=rest) (B:=B2) (e:=e1) (i:=0) (by simp)
 generalize hcl:ecells (([]:List Ext)++(e1::B2))++rest=cells at*
 have hR:=fun bv=>RepAny_ct (some ⟨vb,0,none⟩) cap [] (e1::B2) [] (first,m) [(vb,row cells 119)] 0 (0+(B2.length+1)) ((0:Nat):Int) ((0:Nat):Int) (first:Int) (m:Int) (by simp) (by omega) (by simp only[List.length_nil,List.length_cons]<;>omega) (by simp) (by simp only[List.length_nil,List.length_cons]<;>omega) (by omega) bv 1 [] (by first|rfl|omega) (by first|rfl|(dsimp only;omega))
  (by rw[show[]++[]++(e1::B2)=(([]:List Ext)++(e1::B2)) by simp];exact hVV)
 simp only[List.append_nil] at hR
 refine Ct.intro Tryz.func85 rfl Tryz.ntmps85 (nle rfl) fun w0=> ?_;dsimp only[argSlots,Nat.reduceAdd]
 repeat(first|(refine st ?_;intros)|refine G.draw (id:=7) [(17,.quiet)] (h:= ?_)|refine G.draw [] (h:= ?_)|(refine cq hI ?_)|(refine cq hBe ?_)|(refine cq hE0 ?_)|(refine cq hE1 ?_))
 refine R.call (hct:=hR _) (h:= ?_)
 rintro _ _ ⟨p2,cap2,c2,rfl,hV2,rfl⟩
 try dsimp only[List.cons_append,List.nil_append]
 repeat(first|(refine st ?_;intros)|refine G.draw (id:=7) [(17,.quiet)] (h:= ?_)|refine G.draw [] (h:= ?_)|(refine cq hI ?_)|(refine cq hBe ?_)|(refine cq hE0 ?_)|(refine cq hE1 ?_))
 (refine Dn.post (Hr:=[[(bs,row [.int .i64 0,.int .i64 (n:Int),.slice p2 (0+1+((e1::B2):List Ext).length) cap2] 122)],c2]) Tryz.results85 (hR:= ?_);refine⟨rfl,p2,cap2,c2,?_,?_⟩)
 ·first|rfl|(rw[show((e1::B2):List Ext).length=(B2.length+1) by simp])
 ·first|exact hV2|(simpa using hV2)|(rw[show 0+1+(B2.length+1)=0+1+((e1::B2):List Ext).length by simp];exact hV2)
theorem Give02w (B2:List Ext) (e1:Ext) (hb:e1.1=first+m) (hfo:fok n (([]:List Ext)++(e1::B2))) (hA:∀e∈(([]:List Ext):List Ext),e.1+e.2≤first) (hB:∀e∈((e1::B2):List Ext),first<e.1+e.2) (hV:Vec 119 2 p (([]:List Ext)++(e1::B2)).length cap (ecells (([]:List Ext)++(e1::B2))) vc):
  Ct Tryz.prog 85 [.pointer (some ⟨bs,0,none⟩),.int .i64 (first:Int),.int .i64 (m:Int)] [[(bs,row (spCells n p (([]:List Ext)++(e1::B2)).length cap) 122)],vc] fun v H'=>
   v= .int .i64 0∧∃p' cap' vc',H'=[[(bs,row (spCells n p' ([]++[(first,m+e1.2)]++B2).length cap') 122)],vc']∧Vec 119 2 p' ([]++[(first,m+e1.2)]++B2).length cap' (ecells ([]++[(first,m+e1.2)]++B2)) vc':=by
 have hI:CtQ Tryz.prog 111 [.pointer (some ⟨bs,0,none⟩),.int .i64 (first:Int),.int .i64 (m:Int)] [[(bs,row (spCells n p (([]:List Ext)++(e1::B2)).length cap) 122)],vc] (.bool true):=CtQ.conv (inside_ct bs ⟨n,(([]:List Ext)++(e1::B2))⟩ _ ⟨p,cap,vc,rfl,hV,hfo,hn⟩ first m hm hfm) (by simp)
 have hBe:=behind_ct bs n cap first p vc ([]:List Ext) (e1::B2) hfo hn hV hA hB
 have hlen:=fok_len hfo (k:=0) (by omega) (by omega)
 have hl:(([]:List Ext)++(e1::B2)).length=0+(B2.length+1):=by simp<;>omega
 have hlA:(([]:List Ext):List Ext).length=0:=by simp
 have hl2:([]++[(first,m+e1.2)]++B2).length=0+1+B2.length:=by simp<;>omega
 have hfb:=hfo.1
 have hE1:=end_ct first m (by omega)
 have hb1:=hfb e1 (by simp)
 rw[hl] at hI hBe hlen⊢
 rw[hlA] at hBe
 rw[hl] at hV
 rw[hl2]
 unfold spCells at hI hBe⊢
 have hVV:=hV
 obtain⟨_,h0|⟨vb,rest,rfl,rfl,hrl,hmc,hcm⟩⟩:=hV
 ·omega
 obtain⟨k1,k2,k3⟩:=eget (A:=([]:List Ext)) (rest:=rest) (B:=B2) (e:=e1) (i:=0) (by simp)
 generalize hcl:ecells (([]:List Ext)++(e1::B2))++rest=cells at*
 have hR:=fun bv=>RepAny_ct (some ⟨vb,0,none⟩) cap [] B2 [e1] (first,m+e1.2) [(vb,row cells 119)] 0 (0+(B2.length+1)) ((0:Nat):Int) (((0:Nat):Int)+1) (first:Int) ((m:Int)+(e1.2:Int)) (by simp) (by omega) (by simp only[List.length_nil,List.length_cons]<;>omega) (by simp) (by simp only[List.length_nil,List.length_cons]<;>omega) (by omega) bv 1 [] (by first|rfl|omega) (by first|rfl|(dsimp only;omega))
  (by rw[show[]++[e1]++B2=(([]:List Ext)++(e1::B2)) by simp];exact hVV)
 simp only[List.append_nil] at hR
 refine Ct.intro Tryz.func85 rfl Tryz.ntmps85 (nle rfl) fun w0=> ?_;dsimp only[argSlots,Nat.reduceAdd]
 repeat(first|(refine st ?_;intros)|refine G.draw (id:=7) [(17,.quiet)] (h:= ?_)|refine G.draw [] (h:= ?_)|(refine cq hI ?_)|(refine cq hBe ?_)|(refine cq hE0 ?_)|(refine cq hE1 ?_))
 refine R.call (hct:=hR _) (h:= ?_)
 rintro _ _ ⟨p2,cap2,c2,rfl,hV2,rfl⟩
 try dsimp only[List.cons_append,List.nil_append]
 repeat(first|(refine st ?_;intros)|refine G.draw (id:=7) [(17,.quiet)] (h:= ?_)|refine G.draw [] (h:= ?_)|(refine cq hI ?_)|(refine cq hBe ?_)|(refine cq hE0 ?_)|(refine cq hE1 ?_))
 (refine Dn.post (Hr:=[[(bs,row [.int .i64 0,.int .i64 (n:Int),.slice p2 (0+1+(B2:List Ext).length) cap2] 122)],c2]) Tryz.results85 (hR:= ?_);refine⟨rfl,p2,cap2,c2,?_,?_⟩)
 ·first|rfl|(rw[show(B2:List Ext).length=B2.length by simp])
 ·first|exact hV2|(simpa using hV2)|(rw[show 0+1+B2.length=0+1+(B2:List Ext).length by simp];exact hV2)
theorem Give10w (A2:List Ext) (e0:Ext) (ha:e0.1+e0.2<first) (hfo:fok n ((A2++[e0])++([]:List Ext))) (hA:∀e∈((A2++[e0]):List Ext),e.1+e.2≤first) (hB:∀e∈(([]:List Ext):List Ext),first<e.1+e.2) (hV:Vec 119 2 p ((A2++[e0])++([]:List Ext)).length cap (ecells ((A2++[e0])++([]:List Ext))) vc):
  Ct Tryz.prog 85 [.pointer (some ⟨bs,0,none⟩),.int .i64 (first:Int),.int .i64 (m:Int)] [[(bs,row (spCells n p ((A2++[e0])++([]:List Ext)).length cap) 122)],vc] fun v H'=>
   v= .int .i64 0∧∃p' cap' vc',H'=[[(bs,row (spCells n p' ((A2++[e0])++[(first,m)]++[]).length cap') 122)],vc']∧Vec 119 2 p' ((A2++[e0])++[(first,m)]++[]).length cap' (ecells ((A2++[e0])++[(first,m)]++[])) vc':=by
 have hI:CtQ Tryz.prog 111 [.pointer (some ⟨bs,0,none⟩),.int .i64 (first:Int),.int .i64 (m:Int)] [[(bs,row (spCells n p ((A2++[e0])++([]:List Ext)).length cap) 122)],vc] (.bool true):=CtQ.conv (inside_ct bs ⟨n,((A2++[e0])++([]:List Ext))⟩ _ ⟨p,cap,vc,rfl,hV,hfo,hn⟩ first m hm hfm) (by simp)
 have hBe:=behind_ct bs n cap first p vc (A2++[e0]) ([]:List Ext) hfo hn hV hA hB
 have hlen:=fok_len hfo (k:=0) (by omega) (by omega)
 have hl:((A2++[e0])++([]:List Ext)).length=(A2.length+1)+0:=by simp<;>omega
 have hlA:((A2++[e0]):List Ext).length=(A2.length+1):=by simp
 have hl2:((A2++[e0])++[(first,m)]++[]).length=(A2.length+1)+1+0:=by simp<;>omega
 have hfb:=hfo.1
 have hE1:=end_ct first m (by omega)
 have hb0:=hfb e0 (by simp)
 have hE0:=end_ct e0.1 e0.2 (by omega)
 rw[hl] at hI hBe hlen⊢
 rw[hlA] at hBe
 rw[hl] at hV
 rw[hl2]
 unfold spCells at hI hBe⊢
 have hVV:=hV
 obtain⟨_,h0|⟨vb,rest,rfl,rfl,hrl,hmc,hcm⟩⟩:=hV
 ·omega
 obtain⟨g1,g2,g3⟩:=eget (A:=A2) (rest:=rest) (B:=([]:List Ext)) (e:=e0) (rfl:A2.length=A2.length)
 rw[show A2++e0::([]:List Ext)=((A2++[e0])++([]:List Ext)) by simp] at g1 g2 g3
 have ei:(((A2.length+1:Nat):Int)-1).toNat=A2.length:=by omega
 generalize hcl:ecells ((A2++[e0])++([]:List Ext))++rest=cells at*
 have hR:=fun bv=>RepAny_ct (some ⟨vb,0,none⟩) cap (A2++[e0]) [] [] (first,m) [(vb,row cells 119)] (A2.length+1) ((A2.length+1)+0) (((A2.length+1):Nat):Int) (((A2.length+1):Nat):Int) (first:Int) (m:Int) (by simp) (by omega) (by simp only[List.length_nil,List.length_cons]<;>omega) (by simp) (by simp only[List.length_nil,List.length_cons]<;>omega) (by omega) bv 1 [] (by first|rfl|omega) (by first|rfl|(dsimp only;omega))
  (by rw[show(A2++[e0])++[]++[]=((A2++[e0])++([]:List Ext)) by simp];exact hVV)
 simp only[List.append_nil] at hR
 refine Ct.intro Tryz.func85 rfl Tryz.ntmps85 (nle rfl) fun w0=> ?_;dsimp only[argSlots,Nat.reduceAdd]
 repeat(first|(refine st ?_;intros)|refine G.draw (id:=7) [(17,.quiet)] (h:= ?_)|refine G.draw [] (h:= ?_)|(refine cq hI ?_)|(refine cq hBe ?_)|(refine cq hE0 ?_)|(refine cq hE1 ?_))
 refine R.call (hct:=hR _) (h:= ?_)
 rintro _ _ ⟨p2,cap2,c2,rfl,hV2,rfl⟩
 try dsimp only[List.cons_append,List.nil_append]
 repeat(first|(refine st ?_;intros)|refine G.draw (id:=7) [(17,.quiet)] (h:= ?_)|refine G.draw [] (h:= ?_)|(refine cq hI ?_)|(refine cq hBe ?_)|(refine cq hE0 ?_)|(refine cq hE1 ?_))
 (refine Dn.post (Hr:=[[(bs,row [.int .i64 0,.int .i64 (n:Int),.slice p2 ((A2.length+1)+1+([]:List Ext).length) cap2] 122)],c2]) Tryz.results85 (hR:= ?_);refine⟨rfl,p2,cap2,c2,?_,?_⟩)
 ·first|rfl|(rw[show([]:List Ext).length=0 by simp])
 ·first|exact hV2|(simpa using hV2)|(rw[show(A2.length+1)+1+0=(A2.length+1)+1+([]:List Ext).length by simp];exact hV2)
theorem Give11w (A2:List Ext) (e0:Ext) (B2:List Ext) (e1:Ext) (ha:e0.1+e0.2<first) (hb:first+m<e1.1) (hfo:fok n ((A2++[e0])++(e1::B2))) (hA:∀e∈((A2++[e0]):List Ext),e.1+e.2≤first) (hB:∀e∈((e1::B2):List Ext),first<e.1+e.2) (hV:Vec 119 2 p ((A2++[e0])++(e1::B2)).length cap (ecells ((A2++[e0])++(e1::B2))) vc):
  Ct Tryz.prog 85 [.pointer (some ⟨bs,0,none⟩),.int .i64 (first:Int),.int .i64 (m:Int)] [[(bs,row (spCells n p ((A2++[e0])++(e1::B2)).length cap) 122)],vc] fun v H'=>
   v= .int .i64 0∧∃p' cap' vc',H'=[[(bs,row (spCells n p' ((A2++[e0])++[(first,m)]++(e1::B2)).length cap') 122)],vc']∧Vec 119 2 p' ((A2++[e0])++[(first,m)]++(e1::B2)).length cap' (ecells ((A2++[e0])++[(first,m)]++(e1::B2))) vc':=by
 have hI:CtQ Tryz.prog 111 [.pointer (some ⟨bs,0,none⟩),.int .i64 (first:Int),.int .i64 (m:Int)] [[(bs,row (spCells n p ((A2++[e0])++(e1::B2)).length cap) 122)],vc] (.bool true):=CtQ.conv (inside_ct bs ⟨n,((A2++[e0])++(e1::B2))⟩ _ ⟨p,cap,vc,rfl,hV,hfo,hn⟩ first m hm hfm) (by simp)
 have hBe:=behind_ct bs n cap first p vc (A2++[e0]) (e1::B2) hfo hn hV hA hB
 have hlen:=fok_len hfo (k:=0) (by omega) (by omega)
 have hl:((A2++[e0])++(e1::B2)).length=(A2.length+1)+(B2.length+1):=by simp<;>omega
 have hlA:((A2++[e0]):List Ext).length=(A2.length+1):=by simp
 have hl2:((A2++[e0])++[(first,m)]++(e1::B2)).length=(A2.length+1)+1+(B2.length+1):=by simp<;>omega
 have hfb:=hfo.1
 have hE1:=end_ct first m (by omega)
 have hb0:=hfb e0 (by simp)
 have hE0:=end_ct e0.1 e0.2 (by omega)
 have hb1:=hfb e1 (by simp)
 rw[hl] at hI hBe hlen⊢
 rw[hlA] at hBe
 rw[hl] at hV
 rw[hl2]
 unfold spCells at hI hBe⊢
 have hVV:=hV
 obtain⟨_,h0|⟨vb,rest,rfl,rfl,hrl,hmc,hcm⟩⟩:=hV
 ·omega
 obtain⟨g1,g2,g3⟩:=eget (A:=A2) (rest:=rest) (B:=(e1::B2)) (e:=e0) (rfl:A2.length=A2.length)
 rw[show A2++e0::(e1::B2)=((A2++[e0])++(e1::B2)) by simp] at g1 g2 g3
 have ei:(((A2.length+1:Nat):Int)-1).toNat=A2.length:=by omega
 obtain⟨k1,k2,k3⟩:=eget (A:=(A2++[e0])) (rest:=rest) (B:=B2) (e:=e1) (i:=(A2.length+1)) (by simp)
 generalize hcl:ecells ((A2++[e0])++(e1::B2))++rest=cells at*
 have hR:=fun bv=>RepAny_ct (some ⟨vb,0,none⟩) cap (A2++[e0]) (e1::B2) [] (first,m) [(vb,row cells 119)] (A2.length+1) ((A2.length+1)+(B2.length+1)) (((A2.length+1):Nat):Int) (((A2.length+1):Nat):Int) (first:Int) (m:Int) (by simp) (by omega) (by simp only[List.length_nil,List.length_cons]<;>omega) (by simp) (by simp only[List.length_nil,List.length_cons]<;>omega) (by omega) bv 1 [] (by first|rfl|omega) (by first|rfl|(dsimp only;omega))
  (by rw[show(A2++[e0])++[]++(e1::B2)=((A2++[e0])++(e1::B2)) by simp];exact hVV)
 simp only[List.append_nil] at hR
 refine Ct.intro Tryz.func85 rfl Tryz.ntmps85 (nle rfl) fun w0=> ?_;dsimp only[argSlots,Nat.reduceAdd]
 repeat(first|(refine st ?_;intros)|refine G.draw (id:=7) [(17,.quiet)] (h:= ?_)|refine G.draw [] (h:= ?_)|(refine cq hI ?_)|(refine cq hBe ?_)|(refine cq hE0 ?_)|(refine cq hE1 ?_))
 refine R.call (hct:=hR _) (h:= ?_)
 rintro _ _ ⟨p2,cap2,c2,rfl,hV2,rfl⟩
 try dsimp only[List.cons_append,List.nil_append]
 repeat(first|(refine st ?_;intros)|refine G.draw (id:=7) [(17,.quiet)] (h:= ?_)|refine G.draw [] (h:= ?_)|(refine cq hI ?_)|(refine cq hBe ?_)|(refine cq hE0 ?_)|(refine cq hE1 ?_))
 (refine Dn.post (Hr:=[[(bs,row [.int .i64 0,.int .i64 (n:Int),.slice p2 ((A2.length+1)+1+((e1::B2):List Ext).length) cap2] 122)],c2]) Tryz.results85 (hR:= ?_);refine⟨rfl,p2,cap2,c2,?_,?_⟩)
 ·first|rfl|(rw[show((e1::B2):List Ext).length=(B2.length+1) by simp])
 ·first|exact hV2|(simpa using hV2)|(rw[show(A2.length+1)+1+(B2.length+1)=(A2.length+1)+1+((e1::B2):List Ext).length by simp];exact hV2)
theorem Give12w (A2:List Ext) (e0:Ext) (B2:List Ext) (e1:Ext) (ha:e0.1+e0.2<first) (hb:e1.1=first+m) (hfo:fok n ((A2++[e0])++(e1::B2))) (hA:∀e∈((A2++[e0]):List Ext),e.1+e.2≤first) (hB:∀e∈((e1::B2):List Ext),first<e.1+e.2) (hV:Vec 119 2 p ((A2++[e0])++(e1::B2)).length cap (ecells ((A2++[e0])++(e1::B2))) vc):
  Ct Tryz.prog 85 [.pointer (some ⟨bs,0,none⟩),.int .i64 (first:Int),.int .i64 (m:Int)] [[(bs,row (spCells n p ((A2++[e0])++(e1::B2)).length cap) 122)],vc] fun v H'=>
   v= .int .i64 0∧∃p' cap' vc',H'=[[(bs,row (spCells n p' ((A2++[e0])++[(first,m+e1.2)]++B2).length cap') 122)],vc']∧Vec 119 2 p' ((A2++[e0])++[(first,m+e1.2)]++B2).length cap' (ecells ((A2++[e0])++[(first,m+e1.2)]++B2)) vc':=by
 have hI:CtQ Tryz.prog 111 [.pointer (some ⟨bs,0,none⟩),.int .i64 (first:Int),.int .i64 (m:Int)] [[(bs,row (spCells n p ((A2++[e0])++(e1::B2)).length cap) 122)],vc] (.bool true):=CtQ.conv (inside_ct bs ⟨n,((A2++[e0])++(e1::B2))⟩ _ ⟨p,cap,vc,rfl,hV,hfo,hn⟩ first m hm hfm) (by simp)
 have hBe:=behind_ct bs n cap first p vc (A2++[e0]) (e1::B2) hfo hn hV hA hB
 have hlen:=fok_len hfo (k:=0) (by omega) (by omega)
 have hl:((A2++[e0])++(e1::B2)).length=(A2.length+1)+(B2.length+1):=by simp<;>omega
 have hlA:((A2++[e0]):List Ext).length=(A2.length+1):=by simp
 have hl2:((A2++[e0])++[(first,m+e1.2)]++B2).length=(A2.length+1)+1+B2.length:=by simp<;>omega
 have hfb:=hfo.1
 have hE1:=end_ct first m (by omega)
 have hb0:=hfb e0 (by simp)
 have hE0:=end_ct e0.1 e0.2 (by omega)
 have hb1:=hfb e1 (by simp)
 rw[hl] at hI hBe hlen⊢
 rw[hlA] at hBe
 rw[hl] at hV
 rw[hl2]
 unfold spCells at hI hBe⊢
 have hVV:=hV
 obtain⟨_,h0|⟨vb,rest,rfl,rfl,hrl,hmc,hcm⟩⟩:=hV
 ·omega
 obtain⟨g1,g2,g3⟩:=eget (A:=A2) (rest:=rest) (B:=(e1::B2)) (e:=e0) (rfl:A2.length=A2.length)
 rw[show A2++e0::(e1::B2)=((A2++[e0])++(e1::B2)) by simp] at g1 g2 g3
 have ei:(((A2.length+1:Nat):Int)-1).toNat=A2.length:=by omega
 obtain⟨k1,k2,k3⟩:=eget (A:=(A2++[e0])) (rest:=rest) (B:=B2) (e:=e1) (i:=(A2.length+1)) (by simp)
 generalize hcl:ecells ((A2++[e0])++(e1::B2))++rest=cells at*
 have hR:=fun bv=>RepAny_ct (some ⟨vb,0,none⟩) cap (A2++[e0]) B2 [e1] (first,m+e1.2) [(vb,row cells 119)] (A2.length+1) ((A2.length+1)+(B2.length+1)) (((A2.length+1):Nat):Int) ((((A2.length+1):Nat):Int)+1) (first:Int) ((m:Int)+(e1.2:Int)) (by simp) (by omega) (by simp only[List.length_nil,List.length_cons]<;>omega) (by simp) (by simp only[List.length_nil,List.length_cons]<;>omega) (by omega) bv 1 [] (by first|rfl|omega) (by first|rfl|(dsimp only;omega))
  (by rw[show(A2++[e0])++[e1]++B2=((A2++[e0])++(e1::B2)) by simp];exact hVV)
 simp only[List.append_nil] at hR
 refine Ct.intro Tryz.func85 rfl Tryz.ntmps85 (nle rfl) fun w0=> ?_;dsimp only[argSlots,Nat.reduceAdd]
 repeat(first|(refine st ?_;intros)|refine G.draw (id:=7) [(17,.quiet)] (h:= ?_)|refine G.draw [] (h:= ?_)|(refine cq hI ?_)|(refine cq hBe ?_)|(refine cq hE0 ?_)|(refine cq hE1 ?_))
 refine R.call (hct:=hR _) (h:= ?_)
 rintro _ _ ⟨p2,cap2,c2,rfl,hV2,rfl⟩
 try dsimp only[List.cons_append,List.nil_append]
 repeat(first|(refine st ?_;intros)|refine G.draw (id:=7) [(17,.quiet)] (h:= ?_)|refine G.draw [] (h:= ?_)|(refine cq hI ?_)|(refine cq hBe ?_)|(refine cq hE0 ?_)|(refine cq hE1 ?_))
 (refine Dn.post (Hr:=[[(bs,row [.int .i64 0,.int .i64 (n:Int),.slice p2 ((A2.length+1)+1+(B2:List Ext).length) cap2] 122)],c2]) Tryz.results85 (hR:= ?_);refine⟨rfl,p2,cap2,c2,?_,?_⟩)
 ·first|rfl|(rw[show(B2:List Ext).length=B2.length by simp])
 ·first|exact hV2|(simpa using hV2)|(rw[show(A2.length+1)+1+B2.length=(A2.length+1)+1+(B2:List Ext).length by simp];exact hV2)
theorem Give20w (A2:List Ext) (e0:Ext) (ha:e0.1+e0.2=first) (hfo:fok n ((A2++[e0])++([]:List Ext))) (hA:∀e∈((A2++[e0]):List Ext),e.1+e.2≤first) (hB:∀e∈(([]:List Ext):List Ext),first<e.1+e.2) (hV:Vec 119 2 p ((A2++[e0])++([]:List Ext)).length cap (ecells ((A2++[e0])++([]:List Ext))) vc):
  Ct Tryz.prog 85 [.pointer (some ⟨bs,0,none⟩),.int .i64 (first:Int),.int .i64 (m:Int)] [[(bs,row (spCells n p ((A2++[e0])++([]:List Ext)).length cap) 122)],vc] fun v H'=>
   v= .int .i64 0∧∃p' cap' vc',H'=[[(bs,row (spCells n p' (A2++[(e0.1,m+e0.2)]++[]).length cap') 122)],vc']∧Vec 119 2 p' (A2++[(e0.1,m+e0.2)]++[]).length cap' (ecells (A2++[(e0.1,m+e0.2)]++[])) vc':=by
 have hI:CtQ Tryz.prog 111 [.pointer (some ⟨bs,0,none⟩),.int .i64 (first:Int),.int .i64 (m:Int)] [[(bs,row (spCells n p ((A2++[e0])++([]:List Ext)).length cap) 122)],vc] (.bool true):=CtQ.conv (inside_ct bs ⟨n,((A2++[e0])++([]:List Ext))⟩ _ ⟨p,cap,vc,rfl,hV,hfo,hn⟩ first m hm hfm) (by simp)
 have hBe:=behind_ct bs n cap first p vc (A2++[e0]) ([]:List Ext) hfo hn hV hA hB
 have hlen:=fok_len hfo (k:=0) (by omega) (by omega)
 have hl:((A2++[e0])++([]:List Ext)).length=(A2.length+1)+0:=by simp<;>omega
 have hlA:((A2++[e0]):List Ext).length=(A2.length+1):=by simp
 have hl2:(A2++[(e0.1,m+e0.2)]++[]).length=A2.length+1+0:=by simp<;>omega
 have hfb:=hfo.1
 have hE1:=end_ct first m (by omega)
 have hb0:=hfb e0 (by simp)
 have hE0:=end_ct e0.1 e0.2 (by omega)
 rw[hl] at hI hBe hlen⊢
 rw[hlA] at hBe
 rw[hl] at hV
 rw[hl2]
 unfold spCells at hI hBe⊢
 have hVV:=hV
 obtain⟨_,h0|⟨vb,rest,rfl,rfl,hrl,hmc,hcm⟩⟩:=hV
 ·omega
 obtain⟨g1,g2,g3⟩:=eget (A:=A2) (rest:=rest) (B:=([]:List Ext)) (e:=e0) (rfl:A2.length=A2.length)
 rw[show A2++e0::([]:List Ext)=((A2++[e0])++([]:List Ext)) by simp] at g1 g2 g3
 have ei:(((A2.length+1:Nat):Int)-1).toNat=A2.length:=by omega
 generalize hcl:ecells ((A2++[e0])++([]:List Ext))++rest=cells at*
 have hR:=fun bv=>RepAny_ct (some ⟨vb,0,none⟩) cap A2 [] [e0] (e0.1,m+e0.2) [(vb,row cells 119)] A2.length ((A2.length+1)+0) ((((A2.length+1):Nat):Int)-1) (((A2.length+1):Nat):Int) (e0.1:Int) ((m:Int)+(e0.2:Int)) (by simp) (by omega) (by simp only[List.length_nil,List.length_cons]<;>omega) (by simp) (by simp only[List.length_nil,List.length_cons]<;>omega) (by omega) bv 1 [] (by first|rfl|omega) (by first|rfl|(dsimp only;omega))
  (by rw[show A2++[e0]++[]=((A2++[e0])++([]:List Ext)) by simp];exact hVV)
 simp only[List.append_nil] at hR
 refine Ct.intro Tryz.func85 rfl Tryz.ntmps85 (nle rfl) fun w0=> ?_;dsimp only[argSlots,Nat.reduceAdd]
 repeat(first|(refine st ?_;intros)|refine G.draw (id:=7) [(17,.quiet)] (h:= ?_)|refine G.draw [] (h:= ?_)|(refine cq hI ?_)|(refine cq hBe ?_)|(refine cq hE0 ?_)|(refine cq hE1 ?_))
 refine R.call (hct:=hR _) (h:= ?_)
 rintro _ _ ⟨p2,cap2,c2,rfl,hV2,rfl⟩
 try dsimp only[List.cons_append,List.nil_append]
 repeat(first|(refine st ?_;intros)|refine G.draw (id:=7) [(17,.quiet)] (h:= ?_)|refine G.draw [] (h:= ?_)|(refine cq hI ?_)|(refine cq hBe ?_)|(refine cq hE0 ?_)|(refine cq hE1 ?_))
 (refine Dn.post (Hr:=[[(bs,row [.int .i64 0,.int .i64 (n:Int),.slice p2 (A2.length+1+([]:List Ext).length) cap2] 122)],c2]) Tryz.results85 (hR:= ?_);refine⟨rfl,p2,cap2,c2,?_,?_⟩)
 ·first|rfl|(rw[show([]:List Ext).length=0 by simp])
 ·first|exact hV2|(simpa using hV2)|(rw[show A2.length+1+0=A2.length+1+([]:List Ext).length by simp];exact hV2)
theorem Give21w (A2:List Ext) (e0:Ext) (B2:List Ext) (e1:Ext) (ha:e0.1+e0.2=first) (hb:first+m<e1.1) (hfo:fok n ((A2++[e0])++(e1::B2))) (hA:∀e∈((A2++[e0]):List Ext),e.1+e.2≤first) (hB:∀e∈((e1::B2):List Ext),first<e.1+e.2) (hV:Vec 119 2 p ((A2++[e0])++(e1::B2)).length cap (ecells ((A2++[e0])++(e1::B2))) vc):
  Ct Tryz.prog 85 [.pointer (some ⟨bs,0,none⟩),.int .i64 (first:Int),.int .i64 (m:Int)] [[(bs,row (spCells n p ((A2++[e0])++(e1::B2)).length cap) 122)],vc] fun v H'=>
   v= .int .i64 0∧∃p' cap' vc',H'=[[(bs,row (spCells n p' (A2++[(e0.1,m+e0.2)]++(e1::B2)).length cap') 122)],vc']∧Vec 119 2 p' (A2++[(e0.1,m+e0.2)]++(e1::B2)).length cap' (ecells (A2++[(e0.1,m+e0.2)]++(e1::B2))) vc':=by
 have hI:CtQ Tryz.prog 111 [.pointer (some ⟨bs,0,none⟩),.int .i64 (first:Int),.int .i64 (m:Int)] [[(bs,row (spCells n p ((A2++[e0])++(e1::B2)).length cap) 122)],vc] (.bool true):=CtQ.conv (inside_ct bs ⟨n,((A2++[e0])++(e1::B2))⟩ _ ⟨p,cap,vc,rfl,hV,hfo,hn⟩ first m hm hfm) (by simp)
 have hBe:=behind_ct bs n cap first p vc (A2++[e0]) (e1::B2) hfo hn hV hA hB
 have hlen:=fok_len hfo (k:=0) (by omega) (by omega)
 have hl:((A2++[e0])++(e1::B2)).length=(A2.length+1)+(B2.length+1):=by simp<;>omega
 have hlA:((A2++[e0]):List Ext).length=(A2.length+1):=by simp
 have hl2:(A2++[(e0.1,m+e0.2)]++(e1::B2)).length=A2.length+1+(B2.length+1):=by simp<;>omega
 have hfb:=hfo.1
 have hE1:=end_ct first m (by omega)
 have hb0:=hfb e0 (by simp)
 have hE0:=end_ct e0.1 e0.2 (by omega)
 have hb1:=hfb e1 (by simp)
 rw[hl] at hI hBe hlen⊢
 rw[hlA] at hBe
 rw[hl] at hV
 rw[hl2]
 unfold spCells at hI hBe⊢
 have hVV:=hV
 obtain⟨_,h0|⟨vb,rest,rfl,rfl,hrl,hmc,hcm⟩⟩:=hV
 ·omega
 obtain⟨g1,g2,g3⟩:=eget (A:=A2) (rest:=rest) (B:=(e1::B2)) (e:=e0) (rfl:A2.length=A2.length)
 rw[show A2++e0::(e1::B2)=((A2++[e0])++(e1::B2)) by simp] at g1 g2 g3
 have ei:(((A2.length+1:Nat):Int)-1).toNat=A2.length:=by omega
 obtain⟨k1,k2,k3⟩:=eget (A:=(A2++[e0])) (rest:=rest) (B:=B2) (e:=e1) (i:=(A2.length+1)) (by simp)
 generalize hcl:ecells ((A2++[e0])++(e1::B2))++rest=cells at*
 have hR:=fun bv=>RepAny_ct (some ⟨vb,0,none⟩) cap A2 (e1::B2) [e0] (e0.1,m+e0.2) [(vb,row cells 119)] A2.length ((A2.length+1)+(B2.length+1)) ((((A2.length+1):Nat):Int)-1) (((A2.length+1):Nat):Int) (e0.1:Int) ((m:Int)+(e0.2:Int)) (by simp) (by omega) (by simp only[List.length_nil,List.length_cons]<;>omega) (by simp) (by simp only[List.length_nil,List.length_cons]<;>omega) (by omega) bv 1 [] (by first|rfl|omega) (by first|rfl|(dsimp only;omega))
  (by rw[show A2++[e0]++(e1::B2)=((A2++[e0])++(e1::B2)) by simp];exact hVV)
 simp only[List.append_nil] at hR
 refine Ct.intro Tryz.func85 rfl Tryz.ntmps85 (nle rfl) fun w0=> ?_;dsimp only[argSlots,Nat.reduceAdd]
 repeat(first|(refine st ?_;intros)|refine G.draw (id:=7) [(17,.quiet)] (h:= ?_)|refine G.draw [] (h:= ?_)|(refine cq hI ?_)|(refine cq hBe ?_)|(refine cq hE0 ?_)|(refine cq hE1 ?_))
 refine R.call (hct:=hR _) (h:= ?_)
 rintro _ _ ⟨p2,cap2,c2,rfl,hV2,rfl⟩
 try dsimp only[List.cons_append,List.nil_append]
 repeat(first|(refine st ?_;intros)|refine G.draw (id:=7) [(17,.quiet)] (h:= ?_)|refine G.draw [] (h:= ?_)|(refine cq hI ?_)|(refine cq hBe ?_)|(refine cq hE0 ?_)|(refine cq hE1 ?_))
 (refine Dn.post (Hr:=[[(bs,row [.int .i64 0,.int .i64 (n:Int),.slice p2 (A2.length+1+((e1::B2):List Ext).length) cap2] 122)],c2]) Tryz.results85 (hR:= ?_);refine⟨rfl,p2,cap2,c2,?_,?_⟩)
 ·first|rfl|(rw[show((e1::B2):List Ext).length=(B2.length+1) by simp])
 ·first|exact hV2|(simpa using hV2)|(rw[show A2.length+1+(B2.length+1)=A2.length+1+((e1::B2):List Ext).length by simp];exact hV2)
theorem Give22w (A2:List Ext) (e0:Ext) (B2:List Ext) (e1:Ext) (ha:e0.1+e0.2=first) (hb:e1.1=first+m) (hfo:fok n ((A2++[e0])++(e1::B2))) (hA:∀e∈((A2++[e0]):List Ext),e.1+e.2≤first) (hB:∀e∈((e1::B2):List Ext),first<e.1+e.2) (hV:Vec 119 2 p ((A2++[e0])++(e1::B2)).length cap (ecells ((A2++[e0])++(e1::B2))) vc):
  Ct Tryz.prog 85 [.pointer (some ⟨bs,0,none⟩),.int .i64 (first:Int),.int .i64 (m:Int)] [[(bs,row (spCells n p ((A2++[e0])++(e1::B2)).length cap) 122)],vc] fun v H'=>
   v= .int .i64 0∧∃p' cap' vc',H'=[[(bs,row (spCells n p' (A2++[(e0.1,m+e1.2+e0.2)]++B2).length cap') 122)],vc']∧Vec 119 2 p' (A2++[(e0.1,m+e1.2+e0.2)]++B2).length cap' (ecells (A2++[(e0.1,m+e1.2+e0.2)]++B2)) vc':=by
 have hI:CtQ Tryz.prog 111 [.pointer (some ⟨bs,0,none⟩),.int .i64 (first:Int),.int .i64 (m:Int)] [[(bs,row (spCells n p ((A2++[e0])++(e1::B2)).length cap) 122)],vc] (.bool true):=CtQ.conv (inside_ct bs ⟨n,((A2++[e0])++(e1::B2))⟩ _ ⟨p,cap,vc,rfl,hV,hfo,hn⟩ first m hm hfm) (by simp)
 have hBe:=behind_ct bs n cap first p vc (A2++[e0]) (e1::B2) hfo hn hV hA hB
 have hlen:=fok_len hfo (k:=0) (by omega) (by omega)
 have hl:((A2++[e0])++(e1::B2)).length=(A2.length+1)+(B2.length+1):=by simp<;>omega
 have hlA:((A2++[e0]):List Ext).length=(A2.length+1):=by simp
 have hl2:(A2++[(e0.1,m+e1.2+e0.2)]++B2).length=A2.length+1+B2.length:=by simp<;>omega
 have hfb:=hfo.1
 have hE1:=end_ct first m (by omega)
 have hb0:=hfb e0 (by simp)
 have hE0:=end_ct e0.1 e0.2 (by omega)
 have hb1:=hfb e1 (by simp)
 rw[hl] at hI hBe hlen⊢
 rw[hlA] at hBe
 rw[hl] at hV
 rw[hl2]
 unfold spCells at hI hBe⊢
 have hVV:=hV
 obtain⟨_,h0|⟨vb,rest,rfl,rfl,hrl,hmc,hcm⟩⟩:=hV
 ·omega
 obtain⟨g1,g2,g3⟩:=eget (A:=A2) (rest:=rest) (B:=(e1::B2)) (e:=e0) (rfl:A2.length=A2.length)
 rw[show A2++e0::(e1::B2)=((A2++[e0])++(e1::B2)) by simp] at g1 g2 g3
 have ei:(((A2.length+1:Nat):Int)-1).toNat=A2.length:=by omega
 obtain⟨k1,k2,k3⟩:=eget (A:=(A2++[e0])) (rest:=rest) (B:=B2) (e:=e1) (i:=(A2.length+1)) (by simp)
 generalize hcl:ecells ((A2++[e0])++(e1::B2))++rest=cells at*
 have hR:=fun bv=>RepAny_ct (some ⟨vb,0,none⟩) cap A2 B2 [e0,e1] (e0.1,m+e1.2+e0.2) [(vb,row cells 119)] A2.length ((A2.length+1)+(B2.length+1)) ((((A2.length+1):Nat):Int)-1) ((((A2.length+1):Nat):Int)+1) (e0.1:Int) (((m:Int)+(e1.2:Int))+(e0.2:Int)) (by simp) (by omega) (by simp only[List.length_nil,List.length_cons]<;>omega) (by simp) (by simp only[List.length_nil,List.length_cons]<;>omega) (by omega) bv 1 [] (by first|rfl|omega) (by first|rfl|(dsimp only;omega))
  (by rw[show A2++[e0,e1]++B2=((A2++[e0])++(e1::B2)) by simp];exact hVV)
 simp only[List.append_nil] at hR
 refine Ct.intro Tryz.func85 rfl Tryz.ntmps85 (nle rfl) fun w0=> ?_;dsimp only[argSlots,Nat.reduceAdd]
 repeat(first|(refine st ?_;intros)|refine G.draw (id:=7) [(17,.quiet)] (h:= ?_)|refine G.draw [] (h:= ?_)|(refine cq hI ?_)|(refine cq hBe ?_)|(refine cq hE0 ?_)|(refine cq hE1 ?_))
 refine R.call (hct:=hR _) (h:= ?_)
 rintro _ _ ⟨p2,cap2,c2,rfl,hV2,rfl⟩
 try dsimp only[List.cons_append,List.nil_append]
 repeat(first|(refine st ?_;intros)|refine G.draw (id:=7) [(17,.quiet)] (h:= ?_)|refine G.draw [] (h:= ?_)|(refine cq hI ?_)|(refine cq hBe ?_)|(refine cq hE0 ?_)|(refine cq hE1 ?_))
 (refine Dn.post (Hr:=[[(bs,row [.int .i64 0,.int .i64 (n:Int),.slice p2 (A2.length+1+(B2:List Ext).length) cap2] 122)],c2]) Tryz.results85 (hR:= ?_);refine⟨rfl,p2,cap2,c2,?_,?_⟩)
 ·first|rfl|(rw[show(B2:List Ext).length=B2.length by simp])
 ·first|exact hV2|(simpa using hV2)|(rw[show A2.length+1+B2.length=A2.length+1+(B2:List Ext).length by simp];exact hV2)
end
theorem gave_of {n first m f bl:Nat} {A1 B1 L R:List Ext} (hfo:fok n (A1++L++(R++B1))) (hm:1≤m) (hfm:first+m≤n)
  (hL:L=[]∧f=first∨∃e0:Ext,L=[e0]∧e0.1+e0.2=first∧f=e0.1) (hR:R=[]∧f+bl=first+m∨∃e1:Ext,R=[e1]∧e1.1=first+m∧f+bl=e1.1+e1.2)
  (hA:∀e∈A1,e.1+e.2<f) (hB:∀e∈B1,f+bl<e.1):Gave n (A1++L++(R++B1)) (A1++[(f,bl)]++B1) first m:=by
 obtain⟨h1,h2,h3⟩:=fok_app.1 hfo
 obtain⟨h4,h5,h6⟩:=fok_app.1 h1
 obtain⟨h7,h8,h9⟩:=fok_app.1 h2
 have hf:f≤first∧first+m≤f+bl∧f+bl≤n:=by
  rcases hL with⟨rfl,e⟩|⟨e0,rfl,e,e'⟩<;>rcases hR with⟨rfl,g⟩|⟨e1,rfl,g,g'⟩
  ·omega
  ·have:=h7.1 e1 (by simp);omega
  ·omega
  ·have:=h7.1 e1 (by simp);omega
 refine⟨fok_app.2 ⟨fok_app.2 ⟨h4,fok_cons.2 ⟨⟨by dsimp only;omega,by dsimp only;omega⟩,fok_nil n,by simp⟩,fun x hx y hy=> ?_⟩,h8,fun x hx y hy=> ?_⟩,fun x=> ?_,?_,?_⟩
 ·simp only[List.mem_singleton] at hy;subst hy;exact hA x hx
 ·rcases List.mem_append.1 hx with hx|hx
  ·have:=hA x hx;have:=hB y hy;omega
  ·simp only[List.mem_singleton] at hx;subst hx;exact hB y hy
 ·simp only[inF_app,inF_cons,inF_nil,or_false]
  clear h1 h2 h3 h4 h5 h6 h7 h8 h9 hA hB hfo
  rcases hL with⟨rfl,e⟩|⟨e0,rfl,e,e'⟩<;>rcases hR with⟨rfl,g⟩|⟨e1,rfl,g,g'⟩<;>simp only[inF_cons,inF_nil,or_false,false_or]<;>
   by_cases hP:inF A1 x<;>by_cases hQ:inF B1 x<;>simp only[hP,hQ,true_or,or_true,false_or,or_false]<;>omega
 ·rcases hL with⟨rfl,e⟩|⟨e0,rfl,e,e'⟩<;>rcases hR with⟨rfl,g⟩|⟨e1,rfl,g,g'⟩<;>simp<;>omega
 ·rcases hL with⟨rfl,e⟩|⟨e0,rfl,e,e'⟩<;>rcases hR with⟨rfl,g⟩|⟨e1,rfl,g,g'⟩<;>simp only[big_app,big,List.nil_append]<;>omega
theorem Give_ct (bs:Nat) (σ:Sp) (c:Chunk) (h:IsSpace bs σ c) (first m:Nat) (hm:1≤m) (hfm:first+m≤σ.n) (hd:∀x,first≤x→x<first+m→¬inF σ.free x):
  Ct Tryz.prog 85 [.pointer (some ⟨bs,0,none⟩),.int .i64 (first:Int),.int .i64 (m:Int)] [c] fun v H'=>
   ∃(c':Chunk) (σ':Sp),v= .int .i64 0∧IsSpace bs σ' c'∧σ'.n=σ.n∧(∀x,inF σ'.free x↔inF σ.free x∨(first≤x∧x<first+m))∧total σ'.free=total σ.free+m∧big σ.free≤big σ'.free∧H'=[c']:=by
 obtain⟨n,free⟩:=σ
 obtain⟨p,cap,vc,rfl,hV,hfo,hn⟩:=h
 dsimp only at hV hfo hn hfm hd
 obtain⟨A,B,hAB,hA,hB⟩:=cut_at first free hfo
 have fin:∀free',Gave n free free' first m→Ct Tryz.prog 85 [.pointer (some ⟨bs,0,none⟩),.int .i64 (first:Int),.int .i64 (m:Int)] [[(bs,row (spCells n p free.length cap) 122)],vc] (fun v H'=>
   v= .int .i64 0∧∃p' cap' vc',H'=[[(bs,row (spCells n p' free'.length cap') 122)],vc']∧Vec 119 2 p' free'.length cap' (ecells free') vc')→Ct Tryz.prog 85 [.pointer (some ⟨bs,0,none⟩),.int .i64 (first:Int),.int .i64 (m:Int)] [(bs,row (spCells n p free.length cap) 122)::vc] fun v H'=>
   ∃(c':Chunk) (σ':Sp),v= .int .i64 0∧IsSpace bs σ' c'∧σ'.n=n∧(∀x,inF σ'.free x↔inF free x∨(first≤x∧x<first+m))∧total σ'.free=total free+m∧big free≤big σ'.free∧H'=[c']:=by
  intro free' hg hc
  refine Ct.conv hc (by simp) ?_
  rintro v H' ⟨rfl,p',cap',vc',rfl,hV'⟩
  exact⟨_,⟨_,⟨n,free'⟩,rfl,⟨p',cap',vc',rfl,hV',hg.1,hn⟩,rfl,hg.2.1,hg.2.2.1,hg.2.2.2,rfl⟩,by simp⟩
 subst hAB
 obtain⟨hfA,hfB,hcross⟩:=fok_app.1 hfo
 have hA2:A=[]∨∃A2 e0,A=A2++[e0]:=by
  rcases List.eq_nil_or_concat A with h|⟨A2,e0,h⟩
  ·exact .inl h
  ·exact .inr ⟨A2,e0,by simpa using h⟩
 have hB2:∀e1 B2,B=e1::B2→first+m≤e1.1:=by
  rintro e1 B2 rfl
  exact behind_free (hB e1 List.mem_cons_self) (hfB.1 e1 List.mem_cons_self).1 (fun x h1 h2 hh=>hd x h1 h2 (by rw[inF_app];exact .inr hh)) hm
 rcases hA2 with rfl|⟨A2,e0,rfl⟩
 ·rcases B with _|⟨e1,B2⟩
  ·have hg:=gave_of (n:=n) (first:=first) (m:=m) (f:=first) (bl:=m) (A1:=[]) (B1:=[]) (L:=[]) (R:=[]) (by simpa using hfo) hm hfm (.inl ⟨rfl,rfl⟩) (.inl ⟨rfl,by omega⟩) (by simp)
     (by simp)
   refine fin _ (by simpa using hg) ?_
   simpa using Give00w bs n cap p vc first m hn hm hfm (by simpa using hfo) (by simpa using hA) (by simpa using hB) (by simpa using hV)
  ·have hb:=hB2 e1 B2 rfl
   by_cases hb:e1.1=first+m
   ·have hg:=gave_of (n:=n) (first:=first) (m:=m) (f:=first) (bl:=m+e1.2) (A1:=[]) (B1:=B2) (L:=[]) (R:=[e1]) (by simpa using hfo) hm hfm (.inl ⟨rfl,rfl⟩) (.inr ⟨e1,rfl,hb,by omega⟩) (by simp)
      (fun e he=>by
       have:=(fok_cons.1 hfB).2.2 e he;omega)
    refine fin _ (by simpa using hg) ?_
    simpa using Give02w bs n cap p vc first m hn hm hfm B2 e1 hb (by simpa using hfo) (by simpa using hA) (by simpa using hB) (by simpa using hV)
   ·have hb:first+m<e1.1:=by omega
    have hg:=gave_of (n:=n) (first:=first) (m:=m) (f:=first) (bl:=m) (A1:=[]) (B1:=(e1::B2)) (L:=[]) (R:=[]) (by simpa using hfo) hm hfm (.inl ⟨rfl,rfl⟩) (.inl ⟨rfl,by omega⟩) (by simp)
      (fun e he=>by
       rcases List.mem_cons.1 he with rfl|he
       ·omega
       ·have:=(fok_cons.1 hfB).2.2 e he;omega)
    refine fin _ (by simpa using hg) ?_
    simpa using Give01w bs n cap p vc first m hn hm hfm B2 e1 hb (by simpa using hfo) (by simpa using hA) (by simpa using hB) (by simpa using hV)
 ·have ha:=hA e0 (by simp)
  by_cases ha:e0.1+e0.2=first
  ·rcases B with _|⟨e1,B2⟩
   ·have hg:=gave_of (n:=n) (first:=first) (m:=m) (f:=e0.1) (bl:=m+e0.2) (A1:=A2) (B1:=[]) (L:=[e0]) (R:=[]) (by simpa using hfo) hm hfm (.inr ⟨e0,rfl,ha,rfl⟩) (.inl ⟨rfl,by omega⟩) (fun e he=>(fok_app.1 hfA).2.2 e he e0 (by simp))
      (by simp)
    refine fin _ (by simpa using hg) ?_
    simpa using Give20w bs n cap p vc first m hn hm hfm A2 e0 ha (by simpa using hfo) (by simpa using hA) (by simpa using hB) (by simpa using hV)
   ·have hb:=hB2 e1 B2 rfl
    by_cases hb:e1.1=first+m
    ·have hg:=gave_of (n:=n) (first:=first) (m:=m) (f:=e0.1) (bl:=m+e1.2+e0.2) (A1:=A2) (B1:=B2) (L:=[e0]) (R:=[e1]) (by simpa using hfo) hm hfm (.inr ⟨e0,rfl,ha,rfl⟩) (.inr ⟨e1,rfl,hb,by omega⟩) (fun e he=>(fok_app.1 hfA).2.2 e he e0 (by simp))
       (fun e he=>by
        have:=(fok_cons.1 hfB).2.2 e he;omega)
     refine fin _ (by simpa using hg) ?_
     simpa using Give22w bs n cap p vc first m hn hm hfm A2 e0 B2 e1 ha hb (by simpa using hfo) (by simpa using hA) (by simpa using hB) (by simpa using hV)
    ·have hb:first+m<e1.1:=by omega
     have hg:=gave_of (n:=n) (first:=first) (m:=m) (f:=e0.1) (bl:=m+e0.2) (A1:=A2) (B1:=(e1::B2)) (L:=[e0]) (R:=[]) (by simpa using hfo) hm hfm (.inr ⟨e0,rfl,ha,rfl⟩) (.inl ⟨rfl,by omega⟩) (fun e he=>(fok_app.1 hfA).2.2 e he e0 (by simp))
       (fun e he=>by
        rcases List.mem_cons.1 he with rfl|he
        ·omega
        ·have:=(fok_cons.1 hfB).2.2 e he;omega)
     refine fin _ (by simpa using hg) ?_
     simpa using Give21w bs n cap p vc first m hn hm hfm A2 e0 B2 e1 ha hb (by simpa using hfo) (by simpa using hA) (by simpa using hB) (by simpa using hV)
  ·have ha:e0.1+e0.2<first:=by omega
   rcases B with _|⟨e1,B2⟩
   ·have hg:=gave_of (n:=n) (first:=first) (m:=m) (f:=first) (bl:=m) (A1:=(A2++[e0])) (B1:=[]) (L:=[]) (R:=[]) (by simpa using hfo) hm hfm (.inl ⟨rfl,rfl⟩) (.inl ⟨rfl,by omega⟩) (fun e he=>by
       rcases List.mem_append.1 he with he|he
       ·have:=(fok_app.1 hfA).2.2 e he e0 (by simp);omega
       ·simp only[List.mem_singleton] at he;subst he;exact ha)
      (by simp)
    refine fin _ (by simpa using hg) ?_
    simpa using Give10w bs n cap p vc first m hn hm hfm A2 e0 ha (by simpa using hfo) (by simpa using hA) (by simpa using hB) (by simpa using hV)
   ·have hb:=hB2 e1 B2 rfl
    by_cases hb:e1.1=first+m
    ·have hg:=gave_of (n:=n) (first:=first) (m:=m) (f:=first) (bl:=m+e1.2) (A1:=(A2++[e0])) (B1:=B2) (L:=[]) (R:=[e1]) (by simpa using hfo) hm hfm (.inl ⟨rfl,rfl⟩) (.inr ⟨e1,rfl,hb,by omega⟩) (fun e he=>by
        rcases List.mem_append.1 he with he|he
        ·have:=(fok_app.1 hfA).2.2 e he e0 (by simp);omega
        ·simp only[List.mem_singleton] at he;subst he;exact ha)
       (fun e he=>by
        have:=(fok_cons.1 hfB).2.2 e he;omega)
     refine fin _ (by simpa using hg) ?_
     simpa using Give12w bs n cap p vc first m hn hm hfm A2 e0 B2 e1 ha hb (by simpa using hfo) (by simpa using hA) (by simpa using hB) (by simpa using hV)
    ·have hb:first+m<e1.1:=by omega
     have hg:=gave_of (n:=n) (first:=first) (m:=m) (f:=first) (bl:=m) (A1:=(A2++[e0])) (B1:=(e1::B2)) (L:=[]) (R:=[]) (by simpa using hfo) hm hfm (.inl ⟨rfl,rfl⟩) (.inl ⟨rfl,by omega⟩) (fun e he=>by
        rcases List.mem_append.1 he with he|he
        ·have:=(fok_app.1 hfA).2.2 e he e0 (by simp);omega
        ·simp only[List.mem_singleton] at he;subst he;exact ha)
       (fun e he=>by
        rcases List.mem_cons.1 he with rfl|he
        ·omega
        ·have:=(fok_cons.1 hfB).2.2 e he;omega)
     refine fin _ (by simpa using hg) ?_
     simpa using Give11w bs n cap p vc first m hn hm hfm A2 e0 B2 e1 ha hb (by simpa using hfo) (by simpa using hA) (by simpa using hB) (by simpa using hV)
theorem SpaceNew_ct (n:Nat) (h1:1≤n) (h2:n≤1000000):Ct Tryz.prog 37 [.int .i64 0,.int .i64 (n:Int)] [] fun v H'=>
  ∃bs c',v= .pointer (some ⟨bs,0,none⟩)∧IsSpace bs ⟨n,[(0,n)]⟩ c'∧H'=[c']:=by
 refine Ct.conv (H2:=[]) (R2:=fun v H'=>∃bs vb,v= .pointer (some ⟨bs,0,none⟩)∧H'=[[(bs,row [.int .i64 0,.int .i64 (n:Int),.slice (some ⟨vb,0,none⟩) 1 1] 122)],[(vb,row [.int .i64 0,.int .i64 (n:Int)] 119)]]) ?_ rfl ?_
 ·refine Ct.intro Tryz.func37 rfl Tryz.ntmps37 (nle rfl) fun w0=> ?_;dsimp only[argSlots,Nat.reduceAdd]
  repeat(refine st ?_;intros)
  rename_i bs vb
  (refine Dn.post (Hr:=[[(bs,row [.int .i64 0,.int .i64 (n:Int),.slice (some ⟨vb,0,none⟩) 1 1] 122)],[(vb,row [.int .i64 0,.int .i64 (n:Int)] 119)]]) Tryz.results37 (hR:= ?_);exact⟨bs,vb,rfl,rfl⟩)
 ·rintro v H' ⟨bs,vb,rfl,rfl⟩
  refine⟨_,⟨bs,_,rfl,⟨some ⟨vb,0,none⟩,1,_,rfl,⟨rfl,.inr ⟨vb,[],rfl,rfl,by simp[ecells],Nat.le_refl _,by decide⟩⟩,?_,h2⟩,rfl⟩,by simp[spCells,ecells]⟩
  exact fok_cons.2 ⟨⟨h1,by dsimp only;omega⟩,fok_nil n,by simp⟩
end Go.Proofs.YtjoicjgfgkpdjaaGreat
namespace Go.Proofs.YtjoicjgfgkpdjaaGreat
open Go.SL Go.Spc Go.Tup
abbrev pv (b:Nat):Value:= .pointer (some ⟨b,0,none⟩)
abbrev wd (c:Int):Int:=IntKind.wrap .u64 c
def inI64 (c:Int):Prop:= -9223372036854775808≤c∧c≤9223372036854775807
def okT (k:Nat) (t:T5):Prop:=(∀c∈t.toList,inI64 c)∧∀i,k≤i→t.col i=0
theorem wrap_back {c:Int} (h:inI64 c):IntKind.wrap .i64 (wd c)=c:=by
 obtain⟨h1,h2⟩:=h
 have h3:(9223372036854775808:Int)=2^(64-1):=by decide
 simp only[wd,IntKind.wrap,IntKind.bits,IntKind.signed,Bool.true_and,Bool.false_and,decide_eq_true_eq,←h3]
 simp
 split<;>omega
def tw (k:Nat) (t:T5):List Int:=(t.toList.take k).map wd
def words (k:Nat) (ts:List T5):List Int:=ts.flatMap (tw k)
theorem tw_length {k:Nat} (t:T5) (hk:k≤5):(tw k t).length=k:=by simp[tw,T5.toList];omega
theorem words_length {k:Nat} (hk:k≤5) (ts:List T5):(words k ts).length=ts.length*k:=by
 induction ts with
 |nil=>simp[words]
 |cons t ts ih=>
  simp only[words,List.flatMap_cons,List.length_append,tw_length t hk,List.length_cons] at ih⊢
  rw[ih,Nat.succ_mul];omega
@[simp] theorem words_app (k:Nat) (a b:List T5):words k (a++b)=words k a++words k b:=by simp[words]
@[simp] theorem words_nil (k:Nat):words k []=[]:=rfl
def Onto (d:Nat→Option (List Int)) (size k h first:Nat) (ts:List T5) (nb:Nat):Prop:=
 ∀j,j<nb→d (first+j)=some (sealW size ((first+j:Nat):Int) (k:Int) (words k ((ts.drop (j*h)).take h)))
structure Fl where
 first:Nat
 blocks:Nat
 width:Nat
 count:Nat
 deriving DecidableEq
def Fl.ext (f:Fl):Ext:=(f.first,f.blocks)
def flv (f:Fl):Value:= .agg #[.int .i64 (f.first:Int),.int .i64 (f.blocks:Int),.int .i64 (f.width:Int),.int .i64 (f.count:Int)]
abbrev holds (size k:Nat):Nat:=(size-2)/k
abbrev nblocks (size k c:Nat):Nat:=(c+holds size k-1)/holds size k
structure FileOk (d:Nat→Option (List Int)) (size:Nat) (Lv:List Ext) (f:Fl) (ts:List T5):Prop where
 w1:1≤f.width
 w2:f.width≤5
 len:ts.length=f.count
 cnt:f.count≤100000000
 blk:f.blocks=nblocks size f.width f.count
 fit:∀t∈ts,okT f.width t
 onto:Onto d size f.width (holds size f.width) f.first ts f.blocks
 live:f.blocks≠0→f.ext∈Lv
theorem FileOk.keep {d d':Nat→Option (List Int)} {size:Nat} {Lv:List Ext} {f:Fl} {ts:List T5} (h:FileOk d size Lv f ts) (hd:∀x,inF Lv x→d' x=d x):FileOk d' size Lv f ts:=by
 have ho:Onto d' size f.width (holds size f.width) f.first ts f.blocks:=by
  intro j hj
  rw[hd]
  ·exact h.onto j hj
  ·exact⟨f.ext,h.live (by omega),by simp[Fl.ext],by simp[Fl.ext];omega⟩
 exact{h with onto:=ho}
theorem FileOk.sub {d:Nat→Option (List Int)} {size:Nat} {Lv Lv':List Ext} {f:Fl} {ts:List T5} (h:FileOk d size Lv f ts) (hs:∀e∈Lv,e∈Lv'):FileOk d size Lv' f ts:=
 {h with live:=fun hb=>hs _ (h.live hb)}
structure Live (σ:Sp) (live:List Ext):Prop where
 fit:∀e∈live,1≤e.2∧e.1+e.2≤σ.n
 apart:live.Pairwise fun a b=>a.1+a.2≤b.1∨b.1+b.2≤a.1
 free:∀x,x<σ.n→(inF σ.free x↔¬inF live x)
 sum:total σ.free+total live=σ.n
theorem total_perm {a b:List Ext} (h:a.Perm b):total a=total b:=(h.map _).sum_nat
theorem inF_perm {a b:List Ext} (h:a.Perm b) (x:Nat):inF a x↔inF b x:=by
 unfold inF
 constructor
 ·rintro⟨e,he,h2⟩;exact⟨e,h.mem_iff.1 he,h2⟩
 ·rintro⟨e,he,h2⟩;exact⟨e,h.mem_iff.2 he,h2⟩
theorem Live.perm {σ:Sp} {l l':List Ext} (h:Live σ l) (hp:l.Perm l'):Live σ l' where
 fit:=fun e he=>h.fit e (hp.mem_iff.2 he)
 apart:=(hp.pairwise_iff (fun {a b} hab=>hab.symm)).1 h.apart
 free:=fun x hx=>by rw[h.free x hx,inF_perm hp]
 sum:=by rw[←total_perm hp];exact h.sum
theorem Live.other {σ:Sp} {e:Ext} {l:List Ext} (h:Live σ (e::l)) {x:Nat} (h1:e.1≤x) (h2:x<e.1+e.2):¬inF l x:=by
 rintro⟨y,hy,h3,h4⟩
 have:=List.rel_of_pairwise_cons h.apart hy
 omega
structure Wk where
 δ:Dv
 α:Ar
 σ:Sp
 live:List Ext
def IsAr (ba:Nat) (α:Ar) (c:Chunk):Prop:=∃c0,IsArena ba α c0∧c.Perm c0
theorem IsAr.perm {ba:Nat} {α:Ar} {c c':Chunk} (h:IsAr ba α c) (hp:c'.Perm c):IsAr ba α c':=
 let ⟨c0,h1,h2⟩:=h;⟨c0,h1,hp.trans h2⟩
theorem IsArena.ar {ba:Nat} {α:Ar} {c:Chunk} (h:IsArena ba α c):IsAr ba α c:=⟨c,h,.refl _⟩
theorem IsAr.open_ {ba:Nat} {α:Ar} {c:Chunk} (h:IsAr ba α c) {g:Gr} (hg:g∈α.gs):∃c1,c.Perm (c1++[g.obj]):=by
 obtain⟨c0,⟨bm,ck,rfl,_⟩,hp⟩:=h
 have hm:g.obj∈((ba,row (arCells α bm) 90)::(bm,mrow pkey (α.gs.map Gr.ent) ck)::α.gs.map Gr.obj):=by
  simp only[List.mem_cons,List.mem_map]
  exact .inr (.inr ⟨g,hg,rfl⟩)
 obtain⟨l1,l2,he⟩:=List.append_of_mem hm
 refine⟨l1++l2,hp.trans ?_⟩
 rw[he]
 exact List.perm_middle.trans (List.perm_append_comm (l₁:=[g.obj]))
theorem IsAr.num {ba:Nat} {α:Ar} {c:Chunk} (h:IsAr ba α c):α.used≤α.room∧α.room≤1000000000∧α.peak≤α.room∧α.used=(α.gs.map (·.n)).sum:=by
 obtain⟨c0,⟨bm,ck,_,h1,h2,h3,_,h5⟩,_⟩:=h
 exact⟨h1,h2,h3,h5⟩
def wrow (bw bd ba bs:Nat):Chunk:=[(bw,row [pv bd,pv ba,pv bs] 87)]
structure Wc (bd ba bs:Nat) (W:Wk) (cd ca cs:Chunk):Prop where
 dev:IsDev bd W.δ cd
 ar:IsAr ba W.α ca
 sp:IsSpace bs W.σ cs
 nn:W.δ.blocks=W.σ.n
 live:Live W.σ W.live
theorem IsDev.num {bd:Nat} {δ:Dv} {c:Chunk} (h:IsDev bd δ c):(8≤δ.size∧δ.size≤256)∧δ.blocks≤1000000∧(-1≤δ.fault∧δ.fault≤1000000000):=by
 obtain⟨bl,bn,pp,np,cp,xs,pc,es,ck,junk,_,_,_,_,_,h1,h2,h3⟩:=h
 exact⟨h1,h2,h3⟩
structure Ev (W W':Wk) (k m:Nat):Prop where
 size:W'.δ.size=W.δ.size
 n:W'.σ.n=W.σ.n
 acts:W.δ.acts≤W'.δ.acts∧W'.δ.acts≤W.δ.acts+k
 fault:W.δ.fault= -1→W'.δ.fault= -1
 room:W'.α.room=W.α.room
 big:big W.σ.free≤big W'.σ.free+m
theorem Ev.refl (W:Wk):Ev W W 0 0:=⟨rfl,rfl,⟨Nat.le_refl _,Nat.le_refl _⟩,id,rfl,Nat.le_refl _⟩
theorem Ev.trans {W W1 W2:Wk} {k1 m1 k2 m2:Nat} (h:Ev W W1 k1 m1) (h2:Ev W1 W2 k2 m2):Ev W W2 (k1+k2) (m1+m2):=
 ⟨h2.size.trans h.size,h2.n.trans h.n,⟨Nat.le_trans h.acts.1 h2.acts.1,by have:=h.acts.2;have:=h2.acts.2;omega⟩,fun e=>h2.fault (h.fault e),h2.room.trans h.room,by have:=h.big;have:=h2.big;omega⟩
theorem Ev.weak {W W':Wk} {k m k' m':Nat} (h:Ev W W' k m) (hk:k≤k') (hm:m≤m'):Ev W W' k' m':=
 {h with acts:=⟨h.acts.1,Nat.le_trans h.acts.2 (by omega)⟩,big:=Nat.le_trans h.big (by omega)}
theorem flat1 {c c0:Chunk} (h:c.Perm c0):(([c]:Hp).flatten).Perm (([c0]:Hp).flatten):=by simpa using h
theorem aUsed (ba:Nat) (α:Ar) (c:Chunk) (h:IsAr ba α c):CtQ Tryz.prog 18 [pv ba] [c] (.int .i64 (α.used:Int)):=by
 obtain⟨c0,h1,h2⟩:=h
 exact CtQ.convP (Used_ct ba α c0 h1) (flat1 h2)
theorem aLeft (ba:Nat) (α:Ar) (c:Chunk) (h:IsAr ba α c):CtQ Tryz.prog 65 [pv ba] [c] (.int .i64 ((α.room:Int)-(α.used:Int))):=by
 obtain⟨c0,h1,h2⟩:=h
 exact CtQ.convP (Left_ct ba α c0 h1) (flat1 h2)
theorem aFull (ba:Nat) (α:Ar) (c:Chunk) (h:IsAr ba α c) (n:Int) (hn:0≤n) (hr:(α.room:Int)-(α.used:Int)<n):CtQ Tryz.prog 78 [pv ba,.int .i64 n] [c] (.tuple #[.pointer none,.int .i64 7]):=by
 obtain⟨c0,h1,h2⟩:=h
 exact CtQ.convP (Grant_full ba α c0 h1 n hn hr) (flat1 h2)
theorem aGrant (ba:Nat) (α:Ar) (c:Chunk) (h:IsAr ba α c) (n:Nat) (hn:n≤α.room-α.used):Ct Tryz.prog 78 [pv ba,.int .i64 (n:Int)] [c] fun v H'=>
  ∃(g:Gr) (c':Chunk) (α':Ar),g.n=n∧v= .tuple #[pv g.bb,.int .i64 0]∧IsAr ba α' c'∧α'.gs.Perm (g::α.gs)∧α'.room=α.room∧H'=[c',[(g.br,row (wcells (List.replicate n 0)) 125)]]:=by
 obtain⟨c0,h1,h2⟩:=h
 refine Ct.convP (Grant_ct ba α c0 h1 n hn) (flat1 h2) ?_
 rintro v H' ⟨g,c',e1,e2,e3,rfl⟩
 refine⟨_,⟨g,c',_,e1,e2,e3.ar,?_,rfl,rfl⟩,?_⟩
 ·show(α.gs++[g]).Perm _
  exact List.perm_append_comm
 ·rw[zrep_w]
theorem aRelease_cb (ba:Nat) (α:Ar) (c:Chunk) (h:IsAr ba α c) (g:Gr) (G:List Gr) (hg:α.gs.Perm (g::G)):Cb Tryz.prog 81 [pv ba,pv g.bb] [c] fun v H'=>
  ∃(c':Chunk) (α':Ar),v= .bool true∧IsAr ba α' c'∧α'.gs.Perm G∧α'.room=α.room∧H'=[c']:=by
 obtain⟨c0,h1,h2⟩:=h
 obtain⟨l1,l2,he⟩:=List.append_of_mem (hg.mem_iff.2 List.mem_cons_self)
 refine Cb.conv (Release_cb ba α c0 h1 l1 l2 g he) (flat1 h2) ?_
 rintro v H' ⟨c',rfl,e3,rfl⟩
 refine⟨_,⟨c',_,rfl,e3.ar,?_,rfl,rfl⟩,.refl _⟩
 show(l1++l2).Perm G
 rw[he] at hg
 exact((List.perm_middle.symm.trans hg)).cons_inv
theorem aRelease (ba:Nat) (α:Ar) (c:Chunk) (h:IsAr ba α c) (g:Gr) (G:List Gr) (hg:α.gs.Perm (g::G)):Ct Tryz.prog 81 [pv ba,pv g.bb] [c] fun v H'=>
  ∃(c':Chunk) (α':Ar),v= .bool true∧IsAr ba α' c'∧α'.gs.Perm G∧α'.room=α.room∧H'=[c']:=(aRelease_cb ba α c h g G hg).1
theorem WDevice_ct (bw bd ba bs:Nat):CtQ Tryz.prog 25 [pv bw] [wrow bw bd ba bs] (pv bd):=by
 unfold wrow
 refine Ct.intro Tryz.func25 rfl Tryz.ntmps25 (nle rfl) fun w0=> ?_;dsimp only[argSlots,Nat.reduceAdd]
 repeat(refine st ?_;intros)
 (refine Dn.post (Hr:=[[(bw,row [pv bd,pv ba,pv bs] 87)]]) Tryz.results25 (hR:= ?_);exact⟨rfl,rfl⟩)
theorem WArena_ct (bw bd ba bs:Nat):CtQ Tryz.prog 17 [pv bw] [wrow bw bd ba bs] (pv ba):=by
 unfold wrow
 refine Ct.intro Tryz.func17 rfl Tryz.ntmps17 (nle rfl) fun w0=> ?_;dsimp only[argSlots,Nat.reduceAdd]
 repeat(refine st ?_;intros)
 (refine Dn.post (Hr:=[[(bw,row [pv bd,pv ba,pv bs] 87)]]) Tryz.results17 (hR:= ?_);exact⟨rfl,rfl⟩)
theorem Holds_ct (bw bd ba bs:Nat) (δ:Dv) (cd:Chunk) (h:IsDev bd δ cd) (k:Nat) (h1:1≤k) (h2:k≤5):CtQ Tryz.prog 77 [pv bw,.int .i64 (k:Int)] [wrow bw bd ba bs,cd] (.int .i64 ((holds δ.size k:Nat):Int)):=by
 have hS:=Size_ct bd δ cd h
 obtain⟨hs,_⟩:=h.num
 have hq:((δ.size:Int)-2).tdiv (k:Int)=((holds δ.size k:Nat):Int):=by
  rw[show(δ.size:Int)-2=((δ.size-2:Nat):Int) by omega,Int.tdiv_eq_ediv_of_nonneg (by omega)]
  simp[holds]
 have hle:holds δ.size k≤256:=Nat.le_trans (Nat.div_le_self _ _) (by omega)
 have hw:IntKind.wrap .i64 (((δ.size:Int)-2).tdiv (k:Int))=((holds δ.size k:Nat):Int):=by rw[hq];exact wrap_i64 (by omega)
 unfold wrow
 refine Ct.intro Tryz.func77 rfl Tryz.ntmps77 (nle rfl) fun w0=> ?_;dsimp only[argSlots,Nat.reduceAdd]
 repeat(first|(refine st ?_;intros)|(refine cq hS ?_))
 (refine Dn.post (Hr:=[[(bw,row [pv bd,pv ba,pv bs] 87)],cd]) Tryz.results77 (hR:= ?_);exact⟨rfl,rfl⟩)
theorem holds_pos {s k:Nat} (hs:8≤s) (h1:1≤k) (h2:k≤5):1≤holds s k:=(Nat.le_div_iff_mul_le (by omega)).2 (by omega)
theorem holds_mul {s k:Nat}:holds s k*k≤s-2:=Nat.div_mul_le_self _ _
theorem blocks_ct (bw bd ba bs:Nat) (δ:Dv) (cd:Chunk) (h:IsDev bd δ cd) (k c:Nat) (h1:1≤k) (h2:k≤5) (hc:c≤100000000):CtQ Tryz.prog 79 [pv bw,.int .i64 (k:Int),.int .i64 (c:Int)] [wrow bw bd ba bs,cd] (.int .i64 ((nblocks δ.size k c:Nat):Int)):=by
 have hS:=Holds_ct bw bd ba bs δ cd h k h1 h2
 obtain⟨hs,_⟩:=h.num
 have hp:=holds_pos hs.1 h1 h2
 have hle:holds δ.size k≤256:=Nat.le_trans (Nat.div_le_self _ _) (by omega)
 have hq:((c:Int)+((holds δ.size k:Nat):Int)-1).tdiv ((holds δ.size k:Nat):Int)=((nblocks δ.size k c:Nat):Int):=by
  rw[show(c:Int)+((holds δ.size k:Nat):Int)-1=((c+holds δ.size k-1:Nat):Int) by omega,Int.tdiv_eq_ediv_of_nonneg (by omega)]
  simp[nblocks]
 have hle2:nblocks δ.size k c≤1000000000:=Nat.le_trans (Nat.div_le_self _ _) (by omega)
 have hw:IntKind.wrap .i64 (((c:Int)+((holds δ.size k:Nat):Int)-1).tdiv ((holds δ.size k:Nat):Int))=((nblocks δ.size k c:Nat):Int):=by rw[hq];exact wrap_i64 (by omega)
 generalize holds δ.size k=hk at*
 refine Ct.intro Tryz.func79 rfl Tryz.ntmps79 (nle rfl) fun w0=> ?_;dsimp only[argSlots,Nat.reduceAdd]
 repeat(first|(refine st ?_;intros)|(refine cq hS ?_))
 (refine Dn.post (Hr:=[wrow bw bd ba bs,cd]) Tryz.results79 (hR:= ?_);exact⟨rfl,rfl⟩)
end Go.Proofs.YtjoicjgfgkpdjaaGreat
