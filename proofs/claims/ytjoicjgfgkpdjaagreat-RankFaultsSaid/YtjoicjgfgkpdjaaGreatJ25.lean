/-
  Parts of the proof, put together: Chains, ChainP, Row, RowTup, RowIn, RowsIn, RankOrder0, RankFaults0, ChainC. No condition.
-/
import Derived.Below
import Derived.Carry
import Derived.Deep.Slices
import Derived.OpenShut
import Derived.ProofKit
import Derived.Test.YtjoicjgfgkpdjaaGreatRows
import Derived.Test.YtjoicjgfgkpdjaaGreatJ24
set_option linter.unusedVariables false
set_option linter.unusedSimpArgs false
set_option linter.unnecessarySimpa false
set_option maxHeartbeats 4000000
namespace Go.Proofs.YtjoicjgfgkpdjaaGreat
open Go.SL Go.Spc Go.Tup Go.Srt
def u8cl (x:Nat):List Value:=[.int .u8 (x:Int)]
theorem u8cl_len (x:Nat):(u8cl x).length=1:=rfl
def chT (el:Nat→Int) (ws:List Int) (n:Nat) (last:Bool):T5:=⟨el n,if last then-1 else el (n+1),(ws[n]?).getD 1,0,0⟩
def chO (el:Nat→Int) (ws:List Int) (n s:Nat):List T5:=(List.range s).map fun k=>chT el ws (n+k) (decide (k+1=s))
def chL (el:Nat→Int) (ws:List Int):Nat→List Nat→List T5
 |_,[]=>[]
 |n,s::ss=>chO el ws n (s%60)++chL el ws (n+s%60) ss
def allS (ss:List Nat):Nat:=(ss.map (·%60)).sum
theorem chL_snoc (el:Nat→Int) (ws:List Int) (s:Nat):∀(n:Nat) (ss:List Nat),chL el ws n (ss++[s])=chL el ws n ss++chO el ws (n+allS ss) (s%60)
 |n,[]=>by simp[chL,allS]
 |n,x::ss=>by
  show chO el ws n (x%60)++chL el ws (n+x%60) (ss++[s])=_
  rw[chL_snoc el ws s]
  show _=(chO el ws n (x%60)++chL el ws (n+x%60) ss)++_
  rw[List.append_assoc]
  simp[allS,Nat.add_assoc]
theorem chO_len (el:Nat→Int) (ws:List Int) (n s:Nat):(chO el ws n s).length=s:=by simp[chO]
theorem chL_len (el:Nat→Int) (ws:List Int):∀(n:Nat) (ss:List Nat),(chL el ws n ss).length=allS ss
 |_,[]=>rfl
 |n,s::ss=>by
  show(chO el ws n (s%60)++chL el ws (n+s%60) ss).length=_
  rw[List.length_append,chO_len,chL_len]
  simp[allS]
theorem allS_take {ss:List Nat} {i s:Nat} (h:ss[i]? =some s):allS (ss.take (i+1))=allS (ss.take i)+s%60:=by
 rw[List.take_add_one,h];simp[allS]
theorem allS_le (ss:List Nat):allS ss≤59*ss.length:=by
 unfold allS
 induction ss with
 |nil=>simp
 |cons s ss ih=>simp only[List.map_cons,List.sum_cons,List.length_cons];omega
def elN (p sp n:Nat):Int:=(((n+1)*sp%p:Nat):Int)
theorem pr251:∀j,j<251→2≤j→251%j≠0:=by decide+kernel
structure ChA where
 i:Nat
 n:Nat
 p:Option Addr
 cap:Nat
 ch:Chunk
theorem chains_ct (p1:Option Addr) (n1 cap1:Nat) (ss:List Nat) (c1:Chunk) (hv1:Rw u8cl 1 p1 n1 ss c1) (hn1:n1≤4) (hs8:∀s∈ss,s<256) (by0:Nat) (hby:by0<65536) (p2:Option Addr) (n2 cap2:Nat) (ws:List Int) (c2:Chunk) (hv2:Rw icl 1 p2 n2 ws c2) (hn2:n2≤300) (A:Chunk) (rA1 rA2:Chunk) (hA1:A.Perm (c1++rA1)) (hA2:A.Perm (c2++rA2)):
  Ct Tryz.prog 31 [.slice p1 n1 cap1,.int .u16 (by0:Int),.slice p2 n2 cap2] [A] fun v H'=>∃q qc ch p sp,v= .slice q (allS ss) qc∧H'=[A,ch]∧Vec 38 5 q (allS ss) qc (flat (chL (elN p sp) ws 0 ss)) ch∧
   allS ss+1<p∧p≤251∧(∀k,2≤k→k<p→p%k≠0)∧1≤sp∧sp<p:=by
 have hl1:=hv1.1
 have hl2:=hv2.1
 have hal:=allS_le ss
 rw[hl1] at hal
 refine Ct.intro Tryz.func31 rfl Tryz.ntmps31 (nle rfl) fun w0=> ?_;dsimp only[argSlots,Nat.reduceAdd]
 repeat(refine st ?_;intros)
 refine G.loop (X:=Nat) (fun i=>i≤n1) (fun i=>[(8,.int .i64 (i:Int)),(7,.int .i64 (allS (ss.take i):Int)),(0,.slice p1 n1 cap1),(1,.int .u16 (by0:Int)),(2,.slice p2 n2 cap2)]) (fun _=>[A]) (fun i=>n1-i) 0 (Nat.zero_le _) (body:= ?_)
 intro i hi
 have hal2:=allS_le (ss.take i)
 rw[List.length_take] at hal2
 by_cases hlt:i<n1
 ·obtain⟨b,off,cc,T,fz,rfl,rfl,_,hget⟩:=hv1.pos u8cl_len (by omega)
  have hit:ss[i]? =some ss[i]:=List.getElem?_eq_getElem (by omega)
  have q0:=hget i 0 _ _ hit rfl
  have hst:=allS_take hit
  rw[Nat.add_zero,Nat.mul_one] at q0
  have hs:=hs8 _ (List.getElem_mem (l:=ss) (n:=i) (by omega))
  generalize ss[i]=s at*
  have e1:IntKind.wrap .i64 ((s:Int).tmod 60)=((s%60:Nat):Int):=by rw[Int.tmod_eq_emod_of_nonneg (by omega),wrap_i64 (by omega)];omega
  have e2:IntKind.wrap .i64 ((allS (ss.take i):Int)+((s%60:Nat):Int))=((allS (ss.take (i+1)):Nat):Int):=by rw[hst,wrap_i64 (by omega)];omega
  have e3:IntKind.wrap .i64 ((i:Int)+1)=((i+1:Nat):Int):=by rw[wrap_i64 (by omega)];omega
  refine G.open hA1 (by(repeat(first|exact Take.here|apply Take.there))) ?_
  repeat(refine st ?_;intros)
  refine Dn.close hA1 (by(repeat(first|exact Take.here|apply Take.there))) (by(repeat(first|exact Take.here|apply Take.there))) ?_
  exact Dn.round (i+1) (by omega) (by omega)
 obtain rfl:i=n1:=by omega
 have ht:ss.take i=ss:=List.take_of_length_le (by omega)
 rw[ht]
 have e1:IntKind.wrap .i64 ((allS ss:Int)+1)=((allS ss+1:Nat):Int):=by rw[wrap_i64 (by omega)];omega
 repeat(refine st ?_;intros)
 clear e1
 refine G.loop (X:=Nat×Bool) (fun x=>allS ss+1≤x.1∧x.1≤251∧(x.2=true→allS ss+1<x.1∧∀k,2≤k→k<x.1→x.1%k≠0)∧(x.2=false→x.1<251)) (fun x=>[(10,.bool x.2),(9,.int .i64 (x.1:Int)),(0,.slice p1 i cap1),(1,.int .u16 (by0:Int)),(2,.slice p2 n2 cap2)]) (fun _=>[A]) (fun x=>if x.2 then 0 else 252-x.1)
  (allS ss+1,false) ⟨Nat.le_refl _,by dsimp only;omega,fun h=>(by cases h),fun _=>(by omega)⟩ (body:= ?_)
 rintro⟨p,pr⟩ ⟨h1,h2,h3,h4⟩
 dsimp only at h1 h2 h3 h4⊢
 cases pr with
 |false=>
  have h5:=h4 rfl
  have e1:IntKind.wrap .i64 ((p:Int)+1)=((p+1:Nat):Int):=by rw[wrap_i64 (by omega)];omega
  repeat(refine st ?_;intros)
  clear e1
  have hp2:2≤p+1:=by omega
  have hp3:allS ss+1<p+1:=by omega
  have hp4:p+1≤251:=by omega
  clear h3 h4 h5
  generalize hpp:p+1=m at*
  refine G.loop (X:=Nat×Bool) (fun x=>2≤x.1∧x.1≤m+1∧(x.2=true→x.1≤m∧∀k,2≤k→k<x.1→m%k≠0)∧(x.2=false→∃k,2≤k∧k<m∧m%k=0)) (fun x=>[(11,.int .i64 (x.1:Int)),(10,.bool x.2),(9,.int .i64 (m:Int)),(0,.slice p1 i cap1),(1,.int .u16 (by0:Int)),(2,.slice p2 n2 cap2)]) (fun _=>[A]) (fun x=>m+1-x.1)
   (2,true) ⟨Nat.le_refl _,by dsimp only;omega,fun _=>⟨hp2,fun k h1 h2=>by dsimp only at h2;omega⟩,fun h=>(by cases h)⟩ (body:= ?_)
  rintro⟨k,b⟩ ⟨g1,g2,g3,g4⟩
  dsimp only at g1 g2 g3 g4⊢
  by_cases hkm:k<m
  ·cases b with
   |true=>
    obtain⟨g5,g6⟩:=g3 rfl
    have e1:IntKind.wrap .i64 ((k:Int)+1)=((k+1:Nat):Int):=by rw[wrap_i64 (by omega)];omega
    have htm:(m:Int).tmod (k:Int)=((m%k:Nat):Int):=by rw[Int.tmod_eq_emod_of_nonneg (by omega)];rfl
    have hk0:(k:Int)≠0:=by omega
    have hd:dec ((m:Int).tmod (k:Int)≠0)=decide ((m:Int).tmod (k:Int)≠0):=dec_eq _
    have hnx:(decide ((m:Int).tmod (k:Int)≠0)=true→k+1≤m∧∀j,2≤j→j<k+1→m%j≠0)∧(decide ((m:Int).tmod (k:Int)≠0)=false→∃j,2≤j∧j<m∧m%j=0):=by
     rw[htm]
     constructor
     ·intro h
      have h:=of_decide_eq_true h
      refine⟨by omega,fun j hj1 hj2=> ?_⟩
      by_cases hjk:j=k
      ·subst hjk;omega
      ·exact g6 j hj1 (by omega)
     ·intro h
      have h:=of_decide_eq_false h
      exact⟨k,g1,hkm,by omega⟩
    clear htm
    repeat(refine st ?_;intros)
    exact Dn.round (k+1,dec ((m:Int).tmod (k:Int)≠0)) ⟨by dsimp only;omega,by dsimp only;omega,by dsimp only;rw[hd];exact hnx.1,by dsimp only;rw[hd];exact hnx.2⟩ (by dsimp only;omega)
   |false=>
    obtain⟨j,hj1,hj2,hj3⟩:=g4 rfl
    repeat(refine st ?_;intros)
    exact Dn.round (m,false) ⟨by dsimp only;omega,hp4,fun h=>(by cases h),fun _=>by
     dsimp only
     by_cases h251:m=251
     ·subst h251;exact absurd hj3 (pr251 j hj2 hj1)
     ·omega⟩ (by dsimp only;simp only[Bool.false_eq_true,if_false];omega)
  ·cases b with
   |true=>
    obtain⟨g5,g6⟩:=g3 rfl
    obtain rfl:k=m:=by omega
    repeat(refine st ?_;intros)
    exact Dn.round (k,true) ⟨by dsimp only;omega,hp4,fun _=>⟨hp3,g6⟩,fun h=>(by cases h)⟩ (by dsimp only;simp only[Bool.false_eq_true,if_false,if_true];omega)
   |false=>
    obtain⟨j,hj1,hj2,hj3⟩:=g4 rfl
    repeat(refine st ?_;intros)
    exact Dn.round (m,false) ⟨by dsimp only;omega,hp4,fun h=>(by cases h),fun _=>by
     dsimp only
     by_cases h251:m=251
     ·subst h251;exact absurd hj3 (pr251 j hj2 hj1)
     ·omega⟩ (by dsimp only;simp only[Bool.false_eq_true,if_false];omega)
 |true=>
 obtain⟨h5,h6⟩:=h3 rfl
 clear h3 h4
 have e1:IntKind.wrap .i64 (by0:Int)=(by0:Int):=wrap_i64 (by omega)
 have e2:IntKind.wrap .i64 ((p:Int)-1)=((p-1:Nat):Int):=by rw[wrap_i64 (by omega)];omega
 obtain⟨sp,hst⟩:∃sp:Nat,sp=1+by0%(p-1):=⟨_,rfl⟩
 have hst1:1≤sp:=by omega
 have hst2:sp<p:=by
  have:=Nat.mod_lt by0 (show 0<p-1 by omega)
  omega
 have hpp1:((p-1:Nat):Int)≠0:=by omega
 repeat(refine st ?_;intros)
 have e3:IntKind.wrap .i64 (1+(by0:Int).tmod ((p-1:Nat):Int))=(sp:Int):=by
  have:(by0:Int).tmod ((p-1:Nat):Int)=((by0%(p-1):Nat):Int):=by rw[Int.tmod_eq_emod_of_nonneg (by omega)];rfl
  rw[this,wrap_i64 (by omega)];omega
 rw[e3]
 clear e3 hst
 refine G.loop (X:=ChA) (fun x=>x.i≤i∧x.n=allS (ss.take x.i)∧Vec 38 5 x.p x.n x.cap (flat (chL (elN p sp) ws 0 (ss.take x.i))) x.ch)
  (fun x=>[(15,.int .i64 (x.i:Int)),(14,.int .i64 (x.n:Int)),(13,.slice x.p x.n x.cap),(12,.int .i64 (sp:Int)),(9,.int .i64 (p:Int)),(0,.slice p1 i cap1),(2,.slice p2 n2 cap2)]) (fun x=>[x.ch,A]) (fun x=>i-x.i)
  ⟨0,0,none,0,[]⟩ ⟨Nat.zero_le _,rfl,Vec.nil _ _⟩ (by repeat(first|exact trivial|refine⟨rfl,?_⟩)) (by repeat(first|exact Split.nil|(apply Split.cons;·(first|exact Take.nil|(repeat(first|exact Take.here|apply Take.there)))))) ?_
 rintro⟨a,n,q,qc,ch⟩ ⟨ha,hn,hV⟩
 dsimp only at ha hn hV⊢
 by_cases hlt:a<i
 rotate_left
 ·obtain rfl:a=i:=by omega
  rw[ht] at hV hn
  subst hn
  repeat(refine st ?_;intros)
  (refine Dn.post (Hr:=[A,ch]) Tryz.results31 (hR:= ?_);exact⟨q,qc,ch,p,sp,rfl,rfl,hV,h5,h2,h6,hst1,hst2⟩)
 obtain⟨b,off,cc,T,fz,rfl,rfl,_,hget⟩:=hv1.pos u8cl_len (by omega)
 have hit:ss[a]? =some ss[a]:=List.getElem?_eq_getElem (by omega)
 have q0:=hget a 0 _ _ hit rfl
 have hta:=allS_take hit
 rw[Nat.add_zero,Nat.mul_one] at q0
 have hs:=hs8 _ (List.getElem_mem (l:=ss) (n:=a) (by omega))
 have htk:ss.take (a+1)=ss.take a++[ss[a]]:=by rw[List.take_add_one,hit];rfl
 have hal2:=allS_le (ss.take (a+1))
 rw[List.length_take] at hal2
 generalize ss[a]=s at*
 have e1:IntKind.wrap .i64 ((s:Int).tmod 60)=((s%60:Nat):Int):=by rw[Int.tmod_eq_emod_of_nonneg (by omega),wrap_i64 (by omega)];omega
 have e3:IntKind.wrap .i64 ((a:Int)+1)=((a+1:Nat):Int):=by rw[wrap_i64 (by omega)];omega
 have hsz:s%60<60:=Nat.mod_lt _ (by omega)
 have hsn:=chL_snoc (elN p sp) ws s 0 (ss.take a)
 rw[Nat.zero_add,←htk,←hn] at hsn
 rw[←hn] at hta
 generalize s%60=z at*
 generalize hB:chL (elN p sp) ws 0 (ss.take a)=B at*
 have hBl:B.length=n:=by rw[←hB,chL_len];exact hn.symm
 refine G.open hA1 (by(repeat(first|exact Take.here|apply Take.there))) ?_
 repeat(refine st ?_;intros)
 refine G.close hA1 (by(repeat(first|exact Take.here|apply Take.there))) (by(repeat(first|exact Take.here|apply Take.there))) ?_
 clear e1
 refine G.loop (X:=ChA) (fun x=>x.i≤z∧x.n=n+x.i∧Vec 38 5 x.p x.n x.cap (flat (B++(chO (elN p sp) ws n z).take x.i)) x.ch)
  (fun x=>[(17,.int .i64 (x.i:Int)),(16,.int .i64 (z:Int)),(15,.int .i64 (a:Int)),(14,.int .i64 (x.n:Int)),(13,.slice x.p x.n x.cap),(12,.int .i64 (sp:Int)),(9,.int .i64 (p:Int)),(0,.slice (some ⟨b,off,none⟩) i cap1),(2,.slice p2 n2 cap2)]) (fun x=>[x.ch,A]) (fun x=>z-x.i)
  ⟨0,n,q,qc,ch⟩ ⟨Nat.zero_le _,rfl,by rw[List.take_zero,List.append_nil];exact hV⟩ (body:= ?_)
 rintro⟨k,m,q,qc,ch⟩ ⟨hk,hm,hV⟩
 dsimp only at hk hm hV⊢
 by_cases hkz:k<z
 rotate_left
 ·obtain rfl:k=z:=by omega
  rw[List.take_of_length_le (by rw[chO_len];omega),←hsn] at hV
  repeat(refine st ?_;intros)
  exact Dn.round ⟨a+1,m,q,qc,ch⟩ ⟨by dsimp only;omega,by dsimp only;omega,hV⟩ (by dsimp only;omega)
 have hmul:∀j,j≤237→j*sp≤237*251:=fun j hj=>Nat.mul_le_mul hj (by omega)
 have hm1:=hmul (m+1) (by omega)
 have e4:IntKind.wrap .i64 ((k:Int)+1)=((k+1:Nat):Int):=by rw[wrap_i64 (by omega)];omega
 have e5:IntKind.wrap .i64 ((m:Int)+1)=((m+1:Nat):Int):=by rw[wrap_i64 (by omega)];omega
 have e6:IntKind.wrap .i64 (((m+1:Nat):Int)*(sp:Int))=(((m+1)*sp:Nat):Int):=by rw[←Int.natCast_mul,wrap_i64 (by omega)]
 have e7:IntKind.wrap .i64 ((m:Int)+2)=((m+2:Nat):Int):=by rw[wrap_i64 (by omega)];omega
 have e8:k+1<z→IntKind.wrap .i64 (((m+2:Nat):Int)*(sp:Int))=(((m+2)*sp:Nat):Int):=fun h=>by
  have:=hmul (m+2) (by omega)
  rw[←Int.natCast_mul,wrap_i64 (by omega)]
 have hp0:(p:Int)≠0:=by omega
 have hot:(chO (elN p sp) ws n z)[k]? =some (chT (elN p sp) ws m (decide (k+1=z))):=by
  unfold chO
  rw[List.getElem?_map,List.getElem?_range (by omega),hm];rfl
 have hsn2:flat (B++(chO (elN p sp) ws n z).take (k+1))=flat (B++(chO (elN p sp) ws n z).take k)++tcells (chT (elN p sp) ws m (decide (k+1=z))):=by
  rw[List.take_add_one,hot,←List.append_assoc,flat_append]
  simp[flat]
 have hmx:m+1≤maxLen:=by simp only[maxLen];omega
 have hend:∀(w:Int) (x1:Int) (p':Option Addr) (cap':Nat) (c':Chunk),(ws[m]?).getD 1=w→(if k+1=z then-1 else elN p sp (m+1))=x1→Vec 38 5 p' (m+1) cap' (flat (B++(chO (elN p sp) ws n z).take k)++[.int .i64 ((((m+1)*sp:Nat):Int).tmod (p:Int)),.int .i64 x1,.int .i64 w,.int .i64 0,.int .i64 0]) c'→Vec 38 5 p' (m+1) cap' (flat (B++(chO (elN p sp) ws n z).take (k+1))) c':=by
  intro w x1 p' cap' c' hw hx hV
  rw[hsn2]
  have h9:(((m+1)*sp:Nat):Int).tmod (p:Int)=elN p sp m:=by rw[Int.tmod_eq_emod_of_nonneg (by omega)];rfl
  rw[h9,←hx,←hw] at hV
  unfold chT tcells
  simp only[decide_eq_true_eq]
  exact hV
 by_cases hlast:k+1<z
 ·have e8:=e8 hlast
  have hx1:(if k+1=z then-1 else elN p sp (m+1))=(((m+2)*sp:Nat):Int).tmod (p:Int):=by
   rw[if_neg (by omega),Int.tmod_eq_emod_of_nonneg (by omega)];rfl
  by_cases hw:m<n2
  ·obtain⟨b2,off2,cc2,T2,fz2,rfl,rfl,_,hget2⟩:=hv2.pos icl_len (by omega)
   have hwt:ws[m]? =some ws[m]:=List.getElem?_eq_getElem (by omega)
   have q2:=hget2 m 0 _ _ hwt rfl
   rw[Nat.add_zero,Nat.mul_one] at q2
   have hw1:(ws[m]?).getD 1=ws[m]:=by rw[hwt];rfl
   generalize ws[m]=wm at*
   have hend:=fun a b c=>hend wm _ a b c hw1 hx1
   clear hx1
   refine G.open hA2 (by(repeat(first|exact Take.here|apply Take.there))) ?_
   repeat(refine st ?_;intros)
   rename_i p' cap' c' hV'
   refine Dn.close hA2 (by(repeat(first|exact Take.here|apply Take.there))) (by(repeat(first|exact Take.here|apply Take.there))) ?_
   exact Dn.round ⟨k+1,m+1,p',cap',c'⟩ ⟨by dsimp only;omega,by dsimp only;omega,hend _ _ _ hV'⟩ (by dsimp only;omega)
  ·have hw1:(ws[m]?).getD 1=1:=by rw[List.getElem?_eq_none (by omega)];rfl
   have hend:=fun a b c=>hend 1 _ a b c hw1 hx1
   clear hx1
   repeat(refine st ?_;intros)
   rename_i p' cap' c' hV'
   exact Dn.round ⟨k+1,m+1,p',cap',c'⟩ ⟨by dsimp only;omega,by dsimp only;omega,hend _ _ _ hV'⟩ (by dsimp only;omega)
 ·have hx1:(if k+1=z then-1 else elN p sp (m+1))= -1:=if_pos (by omega)
  by_cases hw:m<n2
  ·obtain⟨b2,off2,cc2,T2,fz2,rfl,rfl,_,hget2⟩:=hv2.pos icl_len (by omega)
   have hwt:ws[m]? =some ws[m]:=List.getElem?_eq_getElem (by omega)
   have q2:=hget2 m 0 _ _ hwt rfl
   rw[Nat.add_zero,Nat.mul_one] at q2
   have hw1:(ws[m]?).getD 1=ws[m]:=by rw[hwt];rfl
   generalize ws[m]=wm at*
   have hend:=fun a b c=>hend wm _ a b c hw1 hx1
   clear hx1
   refine G.open hA2 (by(repeat(first|exact Take.here|apply Take.there))) ?_
   repeat(refine st ?_;intros)
   rename_i p' cap' c' hV'
   refine Dn.close hA2 (by(repeat(first|exact Take.here|apply Take.there))) (by(repeat(first|exact Take.here|apply Take.there))) ?_
   exact Dn.round ⟨k+1,m+1,p',cap',c'⟩ ⟨by dsimp only;omega,by dsimp only;omega,hend _ _ _ hV'⟩ (by dsimp only;omega)
  ·have hw1:(ws[m]?).getD 1=1:=by rw[List.getElem?_eq_none (by omega)];rfl
   have hend:=fun a b c=>hend 1 _ a b c hw1 hx1
   clear hx1
   repeat(refine st ?_;intros)
   rename_i p' cap' c' hV'
   exact Dn.round ⟨k+1,m+1,p',cap',c'⟩ ⟨by dsimp only;omega,by dsimp only;omega,hend _ _ _ hV'⟩ (by dsimp only;omega)
structure Chn (el:Nat→Int) (l:List T5):Prop where
 c0:∀n t,l[n]? =some t→t.c0=el n
 c1:∀n t,l[n]? =some t→t.c1= -1∨(n+1<l.length∧t.c1=el (n+1))
 inj:∀a b,a<l.length→b<l.length→el a=el b→a=b
 pos:∀n,0≤el n
theorem Chn.okl {el:Nat→Int} {l:List T5} (h:Chn el l):OkL l where
 el t ht:=by
  obtain⟨i,hi,rfl⟩:=List.mem_iff_getElem.1 ht
  have h1:=h.c0 i _ (List.getElem?_eq_getElem hi)
  have h2:=h.c1 i _ (List.getElem?_eq_getElem hi)
  have h3:=h.pos i
  have h4:=h.pos (i+1)
  unfold okE
  omega
 nd:=by
  rw[List.pairwise_iff_getElem]
  intro i j hi hj hij he
  rw[h.c0 i _ (List.getElem?_eq_getElem hi),h.c0 j _ (List.getElem?_eq_getElem hj)] at he
  have:=h.inj i j hi hj he
  omega
 nx:=by
  rw[List.pairwise_iff_getElem]
  intro i j hi hj hij hn he
  rcases h.c1 i _ (List.getElem?_eq_getElem hi) with h1|⟨h1,h2⟩
  ·exact hn h1
  rcases h.c1 j _ (List.getElem?_eq_getElem hj) with h3|⟨h3,h4⟩
  ·exact hn (he.trans h3)
  have:=h.inj (i+1) (j+1) h1 h3 (by rw[←h2,←h4];exact he)
  omega
 im t ht hn:=by
  obtain⟨i,hi,rfl⟩:=List.mem_iff_getElem.1 ht
  rcases h.c1 i _ (List.getElem?_eq_getElem hi) with h1|⟨h1,h2⟩
  ·exact absurd h1 hn
  ·exact⟨l[i+1],List.getElem_mem _,by rw[h.c0 _ _ (List.getElem?_eq_getElem h1),h2]⟩
theorem Chn.ends_at {el:Nat→Int} {l:List T5} (h:Chn el l):∀n,n<l.length→∃k,itA (paT l) k (el n)= -1
 |0,hn=>by
  refine⟨1,?_⟩
  show paT l (el 0)= -1
  rw[paT_pos h.okl.toPreL]
  cases ha:aheadT l (el 0) with
  |none=>rfl
  |some t=>
   obtain⟨ht,hc,hx⟩:=aheadT_of ha
   obtain⟨i,hi,rfl⟩:=List.mem_iff_getElem.1 ht
   rcases h.c1 i _ (List.getElem?_eq_getElem hi) with h1|⟨h1,h2⟩
   ·exact absurd (hc.symm.trans h1) hx
   ·have:=h.inj (i+1) 0 h1 hn (by rw[←h2,hc])
    omega
 |n+1,hn=>by
  cases ha:aheadT l (el (n+1)) with
  |none=>exact⟨1,(paT_pos h.okl.toPreL).2 ha⟩
  |some t=>
   obtain⟨ht,hc,hx⟩:=aheadT_of ha
   obtain⟨i,hi,rfl⟩:=List.mem_iff_getElem.1 ht
   rcases h.c1 i _ (List.getElem?_eq_getElem hi) with h1|⟨h1,h2⟩
   ·exact absurd (hc.symm.trans h1) hx
   ·have:=h.inj (i+1) (n+1) h1 hn (by rw[←h2,hc])
    obtain rfl:i=n:=by omega
    obtain⟨k,hk⟩:=h.ends_at i hi
    refine⟨k+1,?_⟩
    show itA (paT l) k (paT l (el (i+1)))= -1
    have hp:paT l (el (i+1))=el i:=by
     unfold paT;rw[ha];exact h.c0 _ _ (List.getElem?_eq_getElem hi)
    rw[hp];exact hk
theorem Chn.ends {el:Nat→Int} {l:List T5} (h:Chn el l):Ends l:=fun t ht=>by
 obtain⟨i,hi,rfl⟩:=List.mem_iff_getElem.1 ht
 rw[h.c0 _ _ (List.getElem?_eq_getElem hi)]
 exact h.ends_at i hi
theorem chL_get (el:Nat→Int) (ws:List Int):∀(ss:List Nat) (n i:Nat) (t:T5),(chL el ws n ss)[i]? =some t→∃b:Bool,t=chT el ws (n+i) b∧(b=false→i+1<allS ss)
 |[],n,i,t,h=>by simp[chL] at h
 |s::ss,n,i,t,h=>by
  have ha:allS (s::ss)=s%60+allS ss:=by simp[allS]
  change (chO el ws n (s%60)++chL el ws (n+s%60) ss)[i]? =some t at h
  by_cases hi:i<s%60
  ·rw[List.getElem?_append_left (by rw[chO_len];exact hi)] at h
   unfold chO at h
   rw[List.getElem?_map,List.getElem?_range hi] at h
   simp only[Option.map_some,Option.some.injEq] at h
   refine⟨decide (i+1=s%60),h.symm,fun hb=> ?_⟩
   have:=of_decide_eq_false hb
   omega
  ·rw[List.getElem?_append_right (by rw[chO_len];omega),chO_len] at h
   obtain⟨b,h1,h2⟩:=chL_get el ws ss (n+s%60) (i-s%60) t h
   refine⟨b,?_,fun hb=> ?_⟩
   ·rw[show n+i=n+s%60+(i-s%60) by omega];exact h1
   ·have:=h2 hb;omega
theorem elN_inj {p sp:Nat} (hp:∀k,2≤k→k<p→p%k≠0) (h1:1≤sp) (h2:sp<p):∀{a b:Nat},a+1<p→b+1<p→elN p sp a=elN p sp b→a=b:=by
 have hco:Nat.Coprime p sp:=by
  have hd:=Nat.gcd_dvd_left p sp
  have hd2:=Nat.gcd_dvd_right p sp
  have hle:=Nat.le_of_dvd (by omega) hd2
  have hpos:0<Nat.gcd p sp:=Nat.gcd_pos_of_pos_left _ (by omega)
  by_cases hg:Nat.gcd p sp=1
  ·exact hg
  ·exact absurd (Nat.mod_eq_zero_of_dvd hd) (hp _ (by omega) (by omega))
 have key:∀{a b:Nat},b≤a→a+1<p→elN p sp a=elN p sp b→a=b:=by
  intro a b hba ha he
  unfold elN at he
  have he:(a+1)*sp%p=(b+1)*sp%p:=by omega
  have h3:=Nat.sub_mod_eq_zero_of_mod_eq he
  rw[←Nat.sub_mul] at h3
  have h4:p∣(a+1-(b+1))*sp:=Nat.dvd_of_mod_eq_zero h3
  have h5:=hco.dvd_of_dvd_mul_right h4
  by_cases h6:a+1-(b+1)=0
  ·omega
  ·have:=Nat.le_of_dvd (by omega) h5
   omega
 intro a b ha hb he
 by_cases hab:b≤a
 ·exact key hab ha he
 ·exact(key (by omega) hb he.symm).symm
theorem chn_is {p sp:Nat} (ws:List Int) (ss:List Nat) (hall:allS ss+1<p) (hp:∀k,2≤k→k<p→p%k≠0) (h1:1≤sp) (h2:sp<p):Chn (elN p sp) (chL (elN p sp) ws 0 ss) where
 c0 n t ht:=by
  obtain⟨b,rfl,_⟩:=chL_get _ _ _ _ _ _ ht
  rw[Nat.zero_add];rfl
 c1 n t ht:=by
  obtain⟨b,rfl,hb⟩:=chL_get _ _ _ _ _ _ ht
  cases b with
  |true=>exact .inl rfl
  |false=>exact .inr ⟨by rw[chL_len];exact hb rfl,by rw[Nat.zero_add];rfl⟩
 inj a b ha hb he:=by
  rw[chL_len] at ha hb
  exact elN_inj hp h1 h2 (by omega) (by omega) he
 pos n:=by unfold elN;omega
theorem elN_lt {p sp n:Nat} (h:0<p):elN p sp n<p:=by
 unfold elN
 have:=Nat.mod_lt ((n+1)*sp) h
 omega
theorem chL_ok {p sp:Nat} {ws:List Int} {ss:List Nat} (hp:0<p) (hp2:p≤251) (hw:∀w∈ws,inI64 w):∀t∈chL (elN p sp) ws 0 ss,okT 3 t:=by
 intro t ht
 obtain⟨i,hi,rfl⟩:=List.mem_iff_getElem.1 ht
 obtain⟨b,hb,_⟩:=chL_get _ _ _ _ _ _ (List.getElem?_eq_getElem hi)
 rw[hb]
 have hel:∀n,inI64 (elN p sp n):=fun n=>by
  have h1:=elN_lt (sp:=sp) (n:=n) hp
  have h2:0≤elN p sp n:=by unfold elN;omega
  exact⟨by omega,by omega⟩
 refine okT3 (hel _) ?_ ?_
 ·cases b with
  |true=>exact show inI64 (-1) from ⟨by decide,by decide⟩
  |false=>exact hel _
 ·cases hx:ws[0+i]? with
  |none=>exact in_1
  |some w=>exact hw w (List.mem_of_getElem? hx)
theorem chL_err {p sp:Nat} {ws:List Int} {ss:List Nat} (hall:allS ss+1<p) (hp2:p≤251) (hp:∀k,2≤k→k<p→p%k≠0) (h1:1≤sp) (h2:sp<p) (hw:∀w∈ws,inI64 w):errR (chL (elN p sp) ws 0 ss)=none:=by
 have h:=chn_is ws ss hall hp h1 h2
 exact(errR_iff (by rw[chL_len];omega) (chL_ok (by omega) hp2 hw)).2 ⟨h.okl,h.ends⟩
end Go.Proofs.YtjoicjgfgkpdjaaGreat
namespace Go.Proofs.YtjoicjgfgkpdjaaGreat
open Go.ChangeShapes Go.WideShapes Go.ChangeAt Go.RowKit Go.SL
theorem own:ownKnob Tryz.prog.godebug=none:=by kernel_rfl
theorem laidOut:laidOutB Tryz.prog=true:=by kernel_rfl
theorem below_of_st {W W':World} {H:Hp} (h:St W [] W' H):Below W.heap.size W W':=
 ⟨h.os,h.tape,h.output,h.size,fun k hk=>h.frame k hk (by simp)⟩
theorem trodAll_below {H:Type} {enc:TypeId×Value→H} {P:Program} {W W':World} (hl:laidOutB P=true) (hb:Below W.heap.size W W') {sp:Nat→Bool}:
  ∀(ts:List TypeId) (vs:List Value) (ds:List (DataW H)) (ps:List MemPlace),(∀t∈ts,P.readableRec t=true∧t<P.types.size)→
   DataW.TrodAll enc P W 0 (fun _=>true) true ts vs ds ps→(∀p∈ps,p.block<W.heap.size)→(∀p∈ps,sp p.block=true)→DataW.TrodAll enc P W' 0 sp true ts vs ds ps
 |[],vs,ds,ps,_,h,_,_=>by
  cases vs<;>cases ds<;>simp[DataW.TrodAll] at h⊢
  exact h
 |t::ts,vs,ds,ps,hr,h,hlt,hsp=>by
  obtain⟨v,vs',d,ds',p,q,rfl,rfl,rfl,h0,r0⟩:=trodAll_cons h
  have h1:=WideElems.Trod_stays hl (hr t List.mem_cons_self).1 (hr t List.mem_cons_self).2 h0 (fun x hx=>hb.same (hlt x (List.mem_append_left _ hx))) (fun x hx=>hsp x (List.mem_append_left _ hx))
  exact trodAll_cons_mk h1 (trodAll_below hl hb ts vs' ds' q (fun t ht=>hr t (List.mem_cons_of_mem _ ht)) r0 (fun x hx=>hlt x (List.mem_append_right _ hx)) (fun x hx=>hsp x (List.mem_append_right _ hx)))
theorem post_same {H:Type} {enc:TypeId×Value→H} {P:Program} {f:Func} {s:ChangeSpec} {apart fresh handsOn again:Bool} {W W':World} {args:Array Value} {v:Value} {ds gs:List (DataW H)} {before pa pv:List MemPlace}
  (hW:DataW.Whole enc P f.params.toList s.vars apart W args.toList ds gs before)
  (hres:∀(b:Nat) (sp:Nat→Bool) (hd:Bool),DataW.TrodAll enc P W' b sp hd f.resultTypes.toList (v.resultList f.resultTypes.size) (s.fn H (ds++gs)).results [])
  (hargs:∀sp:Nat→Bool,(∀p∈before,sp p.block=true)→DataW.TrodAll enc P W' 0 sp true f.params.toList args.toList (s.fn H (ds++gs)).args pa)
  (hvars:∀sp:Nat→Bool,(∀p∈before,sp p.block=true)→DataW.TrodVars enc P W' sp s.vars (s.fn H (ds++gs)).vars pv)
  (hps:before=pa++pv) (hk:W.keptBut W' (·∈before)) (hfz:∀a:Addr,a.block<W.heap.size→W'.frozen? a=W.frozen? a)
  (hok:∀(j:Nat) (t:TypeId) (r:Value),f.resultTypes[j]? =some t→(v.resultList f.resultTypes.size)[j]? =some r→Value.okWide P W' .any 0 t r):
  s.post enc P f apart fresh handsOn again W args v W':=by
 have hold:∀p∈before,(fun b=>decide (b<W.heap.size)) p.block=true:=fun p hp=>by simpa using hW.lt p hp
 have hltb:∀p∈before,p.block<W.heap.size:=fun p hp=>hW.lt p hp
 refine⟨ds,gs,before,[],pa,pv,hW,hres _ _ _,hargs _ hold,hvars _ hold,World.keptBut_mono (fun p hp=>⟨hp,?_⟩) hk,fun _=> ?_⟩
 ·rw[hps,List.mem_append] at hp
  exact Or.inr hp
 ·obtain⟨_,_,_,_,_,hz,hn⟩:=hW
  refine⟨hok,_,_,([]++pa)++pv,⟨[]++pa,pv,trodAll_append (hargs _ (fun _ _=>rfl)) (hres _ _ _),hvars _ (fun _ _=>rfl),rfl,?_,?_⟩,?_⟩
  ·intro b off hp
   have hp':MemPlace.cell b off∈before:=by rw[hps];simpa using hp
   rw[hfz _ (hltb _ hp')]
   exact hz b off hp'
  ·intro ha
   have:=hn ha
   rw[hps] at this
   simpa using this
  ·intro p hp _
   rw[hps]
   simpa using hp
theorem lawPost {H:Type} {enc:TypeId×Value→H} {P:Program} {f:Func} {s:ChangeSpec} {b:TypeId} {W W':World} {args:Array Value} {ds gs:List (DataW H)} {before:List MemPlace}
  (hW:DataW.Whole enc P f.params.toList s.vars false W args.toList ds gs before) (hv:s.vars=[]) (hres:f.resultTypes= #[b]) (hb:P.underlying b=some .bool) (hl:laidOutB P=true)
  (hr:∀t∈f.params.toList,P.readableRec t=true∧t<P.types.size) (hfn:s.fn H (ds++gs)={results:=[.lit (.bool true)],args:=ds}) (hbel:Below W.heap.size W W'):
  s.post enc P f false true false false W args (.bool true) W':=by
 have hW':=hW
 have hlt:∀p∈before,p.block<W.heap.size:=fun p hp=>hW'.lt p hp
 obtain⟨p,q,hA,hV,rfl,hfz,hnd⟩:=hW
 rw[hv] at hV
 have hq:q=[]:=by cases gs<;>simp[DataW.TrodVars] at hV;exact hV
 subst hq
 have hgs:gs=[]:=by cases gs<;>simp[DataW.TrodVars] at hV⊢
 subst hgs
 simp only[List.append_nil] at hW' hlt hfn
 refine post_same (pa:=p) (pv:=[]) hW' ?_ ?_ ?_ (by simp) ?_ ?_ ?_
 ·intro base sp hd
  simp only[List.append_nil,hfn,hres]
  exact trodAll_mk1 (shut_bool hb true)
 ·intro sp hsp
  simp only[List.append_nil,hfn]
  exact trodAll_below hl hbel _ _ _ _ hr hA hlt hsp
 ·intro sp _
  simp only[List.append_nil,hfn,hv]
  rfl
 ·exact hbel.frame _
 ·exact fun a ha=>hbel.frozen ha
 ·exact ok_one hres rfl (okWide_bool_mk hb true)
theorem st_nil (W:World):St W (keys []) W []:=
 ⟨by simp[keys],by simp,by simp[keys],fun _ _ _=>rfl,Nat.le_refl _,rfl,rfl,rfl⟩
theorem law_calls {P:Program} {f:FuncId} {args:List Value} (h:CtQ P f args [] (.bool true)) (W:World):
  Calls P f args.toArray W fun e W'=>e= .returned (.bool true)∧Below W.heap.size W W':=by
 unfold CtQ Ct at h
 refine(h W (st_nil W)).mono fun e W' ⟨v,H',h1,⟨h2,h3⟩,h4⟩=> ?_
 subst h2
 exact⟨h1,below_of_st h4⟩
theorem cellInt {P:Program} {W:World} {base:Nat} {e:TypeId} {k:IntKind} {v:Value} (he:P.underlying e=some (.int k)) (h:Cell.okWide P W .any base e v):∃n,v= .int k n∧k.has n=true:=by
 simp only[Cell.okWide,he] at h
 cases v<;>simp_all [Cell.ok]
end Go.Proofs.YtjoicjgfgkpdjaaGreat
namespace Go.Proofs.YtjoicjgfgkpdjaaGreat
open Go.ChangeShapes Go.WideShapes Go.ChangeAt Go.RowKit Go.SL Go.Tup
theorem below_of_st1 {W W':World} {c:Chunk} (hc:∀q∈c,W.heap[q.1]? =some q.2) (h:St W (keys [c]) W' [c]):Below W.heap.size W W':=
 ⟨h.os,h.tape,h.output,h.size,fun k hk=>by
  by_cases hm:k∈keys [c]
  ·simp only[keys,List.flatten_cons,List.flatten_nil,List.append_nil,List.mem_map] at hm
   obtain⟨q,hq,rfl⟩:=hm
   rw[hc q hq]
   exact h.sat q (by simpa using hq)
  ·exact h.frame k hk hm⟩
theorem law_calls1 {P:Program} {f:FuncId} {args:List Value} {c:Chunk} {W:World} (hc:∀q∈c,W.heap[q.1]? =some q.2) (hnd:(c.map (·.1)).Nodup) (h:CtQ P f args [c] (.bool true)):
  Calls P f args.toArray W fun e W'=>e= .returned (.bool true)∧Below W.heap.size W W':=by
 unfold CtQ Ct at h
 have hst:St W (keys [c]) W [c]:=by
  refine⟨by simpa[keys] using hnd,by simpa using hc,fun k hk=> .inl hk,fun _ _ _=>rfl,Nat.le_refl _,rfl,rfl,rfl⟩
 refine(h W hst).mono fun e W' ⟨v,H',h1,⟨h2,h3⟩,h4⟩=> ?_
 subst h2 h3
 exact⟨h1,below_of_st1 hc h4⟩
end Go.Proofs.YtjoicjgfgkpdjaaGreat
namespace Go.Proofs.YtjoicjgfgkpdjaaGreat
open Go.ChangeShapes Go.WideShapes Go.ChangeAt Go.RowKit Go.SL Go.Tup Go.Spc
def InT (ts:List T5):Prop:=∀t∈ts,∀c∈t.toList,inI64 c
theorem lit_i64 {x:Int} (h:(Lit.int .i64 x).wf=true):inI64 x:=by
 simp[Lit.wf,IntKind.min,IntKind.max,IntKind.bits,IntKind.signed] at h
 unfold inI64;omega
theorem openNat8 {P:Program} {W:World} {base:Nat} {e:TypeId} {v:Value} (he:P.underlying e=some (.int .u8)) (h:Value.okWide P W .any base e v):∃x:Nat,x<256∧v= .int .u8 (x:Int):=by
 have h':Cell.okWide P W .any base e v:=by simpa only[Value.okWide,he] using h
 obtain⟨x,hx,hr⟩:=cellInt he h'
 simp[IntKind.has,IntKind.min,IntKind.max,IntKind.bits,IntKind.signed] at hr
 exact⟨x.toNat,by omega,by rw[hx,Int.toNat_of_nonneg (by omega)]⟩
theorem openNat16 {P:Program} {W:World} {base:Nat} {e:TypeId} {v:Value} (he:P.underlying e=some (.int .u16)) (h:Value.okWide P W .any base e v):∃x:Nat,x<65536∧v= .int .u16 (x:Int):=by
 have h':Cell.okWide P W .any base e v:=by simpa only[Value.okWide,he] using h
 obtain⟨x,hx,hr⟩:=cellInt he h'
 simp[IntKind.has,IntKind.min,IntKind.max,IntKind.bits,IntKind.signed] at hr
 exact⟨x.toNat,by omega,by rw[hx,Int.toNat_of_nonneg (by omega)]⟩
theorem flat_ofR (cs:List Value):∀(len off:Nat),(∀i,i<len→∃t:T5,(∀c∈t.toList,inI64 c)∧∀j,j<5→cs[off+i*5+j]? =(tcells t)[j]?)→∃ts:List T5,ts.length=len∧InT ts∧(cs.drop off).take (len*5)=flat ts
 |0,off,_=>⟨[],rfl,fun t ht=>by simp at ht,by simp[flat]⟩
 |len+1,off,h=>by
  obtain⟨t,htr,ht⟩:=h 0 (by omega)
  obtain⟨ts,hl,hin,he⟩:=flat_ofR cs len (off+5) (fun i hi=>by
   obtain⟨t,htr,ht⟩:=h (i+1) (by omega)
   exact⟨t,htr,fun j hj=>by rw[←ht j hj];congr 1;omega⟩)
  refine⟨t::ts,by simp[hl],fun u hu=>by
   rcases List.mem_cons.1 hu with rfl|hu
   ·exact htr
   ·exact hin u hu,?_⟩
  have hd:cs.drop off=tcells t++cs.drop (off+5):=by
   apply List.ext_getElem?
   intro j
   rw[List.getElem?_drop]
   by_cases hj:j<5
   ·rw[List.getElem?_append_left (by simpa[tcells] using hj),←ht j hj];simp
   ·rw[List.getElem?_append_right (by simp[tcells];omega),List.getElem?_drop]
    congr 1
    simp[tcells];omega
  rw[hd,flat,←he,List.take_append]
  rw[List.take_of_length_le (by simp[tcells];omega)]
  congr 2
  simp[tcells];omega
theorem open_tuplesR {H:Type} {enc:TypeId×Value→H} {P:Program} {w:World} {base:Nat} {t E e:TypeId} {v:Value} {d:DataW H} {ps:List MemPlace} (ht:P.underlying t=some (.slice E)) (hE:P.underlying E=some (.array 5 e))
  (he:P.underlying e=some (.int .i64)) (hcE:P.cellsOf E=5) (hce:P.cellsOf e=1) (h:DataW.Trod enc P w 0 (fun _=>true) true t v d ps) (hok:Value.okWide P w .any base t v):
  ∃p n cap ts c,v= .slice p n cap∧RV p n ts c∧InT ts∧n≤maxLen∧(∀q∈c,w.heap[q.1]? =some q.2)∧(c.map (·.1)).Nodup:=by
 obtain⟨a,len,cap,rfl⟩:=okWide_slice ht hok
 obtain⟨fuel,h⟩:=h
 rcases Deep.open_slice ht h with⟨h0,_⟩|⟨a',len',cap',m,n,D,Pl,h0,hb,hl,hm,hmm,_,hx⟩
 ·simp[Value.cells] at h0
  obtain⟨rfl,rfl,rfl⟩:=h0
  exact⟨none,0,0,[],[],rfl,⟨rfl,.inl ⟨rfl,rfl⟩⟩,fun t ht=>by simp at ht,by decide,by simp,by simp⟩
 ·simp[Value.cells] at h0
  obtain⟨rfl,rfl,rfl⟩:=h0
  by_cases hz:len=0
  ·subst hz
   exact⟨some a',0,cap,[],[],rfl,⟨rfl,.inl ⟨rfl,rfl⟩⟩,fun t ht=>by simp at ht,by decide,by simp,by simp⟩
  ·simp only[if_true] at hmm
   subst hmm
   have each:∀i,i<len→∃t:T5,(∀c∈t.toList,inI64 c)∧∀j,j<5→w.cell? ((a'.add (i*5)).add j)=(tcells t)[j]? :=by
    intro i hi
    obtain⟨cs',h1,h2⟩:=hx i (by omega)
    rw[hcE] at h1
    obtain⟨xs,k,_,_,hlen,hxl,hxe⟩:=DataW.trod_array hE h2
    rw[hcE] at hlen
    have hcell:∀j,j<5→w.cell? ((a'.add (i*5)).add j)=cs'[j]? :=by
     intro j hj
     simp only[World.cells?,Nat.zero_le,if_true] at h1
     exact mapM_some_get h1 j j (by simp[hj])
    have hint:∀j,j<5→∃x,inI64 x∧cs'[j]? =some (.int .i64 x):=by
     intro j hj
     have hj':=hxe j hj
     rw[hce,Nat.mul_one] at hj'
     rw[List.getElem?_eq_getElem (by omega)] at hj'
     obtain⟨x,hx1,_,hx3⟩:=DataW.trod_int he hj'
     refine⟨x,lit_i64 hx3,?_⟩
     have:=congrArg (·[0]?) hx1
     simpa[List.getElem?_take,List.getElem?_drop] using this
    obtain⟨x0,r0,h0⟩:=hint 0 (by omega)
    obtain⟨x1,r1,h1⟩:=hint 1 (by omega)
    obtain⟨x2,r2,h2⟩:=hint 2 (by omega)
    obtain⟨x3,r3,h3⟩:=hint 3 (by omega)
    obtain⟨x4,r4,h4⟩:=hint 4 (by omega)
    refine⟨⟨x0,x1,x2,x3,x4⟩,fun c hc=>by
     simp only[T5.toList,List.mem_cons,List.not_mem_nil,or_false] at hc
     rcases hc with rfl|rfl|rfl|rfl|rfl<;>assumption,fun j hj=> ?_⟩
    rw[hcell j hj]
    match j,hj with
    |0,_=>exact h0
    |1,_=>exact h1
    |2,_=>exact h2
    |3,_=>exact h3
    |4,_=>exact h4
   obtain⟨b,off,spot⟩:=a'
   obtain⟨t0,_,ht0⟩:=each 0 (by omega)
   have hc0:=ht0 0 (by omega)
   have hs:spot=none:=by
    cases spot with
    |none=>rfl
    |some s=>
     exfalso
     simp only[Addr.add,World.cell?,tcells,List.getElem?_cons_zero] at hc0
     revert hc0
     split<;>simp
   subst hs
   have hadd:∀i j,((⟨b,off,none⟩:Addr).add i).add j=⟨b,off+i+j,none⟩:=fun i j=>by rw[Addr.add_mk,Addr.add_mk]
   cases hbk:w.heap[b]? with
   |none=>rw[hadd] at hc0;simp[World.cell?,hbk,tcells] at hc0
   |some ob=>
    cases ob with
    |cells arr T fz=>
     obtain⟨ts,hts,hin,hflat⟩:=flat_ofR arr.toList len off (fun i hi=>by
      obtain⟨t,htr,ht⟩:=each i hi
      refine⟨t,htr,fun j hj=> ?_⟩
      rw[←ht j hj,hadd,cell_of_row w b _ arr T fz hbk]
      simp)
     refine⟨_,len,_,ts,[(b,rowf arr.toList T fz)],rfl,⟨hts,.inr ⟨b,off,arr.toList,T,fz,rfl,rfl,hflat⟩⟩,hin,by omega,?_,by simp⟩
     intro q hq
     simp only[List.mem_singleton] at hq
     subst hq
     simpa[rowf] using hbk
    |_=>rw[hadd] at hc0;simp[World.cell?,hbk,tcells] at hc0
theorem rows_of {α:Type} {f:α→List Value} {k:Nat} (hk:∀a,(f a).length=k) {Pr:α→Prop} (cs:List Value):∀(len off:Nat),(∀i,i<len→∃a:α,Pr a∧∀j,j<k→cs[off+i*k+j]? =(f a)[j]?)→∃xs:List α,xs.length=len∧(∀x∈xs,Pr x)∧(cs.drop off).take (len*k)=xs.flatMap f
 |0,off,_=>⟨[],rfl,fun x hx=>(by cases hx),by simp⟩
 |len+1,off,h=>by
  obtain⟨t,hp,ht⟩:=h 0 (by omega)
  obtain⟨ts,hl,hin,he⟩:=rows_of hk cs len (off+k) (fun i hi=>by
   obtain⟨t,hp,ht⟩:=h (i+1) (by omega)
   exact⟨t,hp,fun j hj=>by
    rw[←ht j hj];congr 1
    rw[Nat.succ_mul];omega⟩)
  refine⟨t::ts,by simp[hl],fun x hx=>by
   rcases List.mem_cons.1 hx with rfl|hx
   ·exact hp
   ·exact hin x hx,?_⟩
  have hkt:=hk t
  have hd:cs.drop off=f t++cs.drop (off+k):=by
   apply List.ext_getElem?
   intro j
   rw[List.getElem?_drop]
   by_cases hj:j<k
   ·rw[List.getElem?_append_left (by omega),←ht j hj];simp
   ·rw[List.getElem?_append_right (by omega),List.getElem?_drop]
    congr 1
    omega
  rw[hd,List.flatMap_cons,←he,List.take_append,hkt,Nat.succ_mul]
  rw[List.take_of_length_le (by omega)]
  congr 2
  omega
def ChIn (w:World) (c:Chunk):Prop:=∀q∈c,w.heap[q.1]? =some q.2
def Ch1 (c:Chunk):Prop:=c=[]∨∃q,c=[q]
theorem open_rowsR {α:Type} {f:α→List Value} {k:Nat} (hk:∀a,(f a).length=k) (hk0:0<k) {Pr:α→Prop} {w:World} {ad:Addr} {len:Nat} (hlen:0<len) (each:∀i,i<len→∃a:α,Pr a∧∀j,j<k→w.cell? (ad.add (i*k+j))=(f a)[j]?):
  ∃xs c,Rw f k (some ad) len xs c∧(∀x∈xs,Pr x)∧ChIn w c∧Ch1 c:=by
 obtain⟨bk,off,spot⟩:=ad
 obtain⟨t0,_,ht0⟩:=each 0 (by omega)
 have hq0:=ht0 0 (by omega)
 have hsm:∃v,(f t0)[0]? =some v:=⟨_,List.getElem?_eq_getElem (by rw[hk];omega)⟩
 obtain⟨v0,hv0⟩:=hsm
 rw[hv0] at hq0
 have hs:spot=none:=by
  cases spot with
  |none=>rfl
  |some s=>
   exfalso
   simp only[Addr.add,World.cell?] at hq0
   revert hq0
   split<;>simp
 subst hs
 have hadd:∀i,((⟨bk,off,none⟩:Addr).add i)=⟨bk,off+i,none⟩:=fun i=>Addr.add_mk ..
 cases hbk:w.heap[bk]? with
 |none=>rw[hadd] at hq0;simp[World.cell?,hbk] at hq0
 |some ob=>
  cases ob with
  |cells arr T fz=>
   obtain⟨es,hes,hin,hflat⟩:=rows_of hk (Pr:=Pr) arr.toList len off (fun i hi=>by
    obtain⟨t,hp,ht⟩:=each i hi
    refine⟨t,hp,fun j hj=> ?_⟩
    rw[←ht j hj,hadd,cell_of_row w bk _ arr T fz hbk]
    simp[Nat.add_assoc])
   refine⟨es,[(bk,rowf arr.toList T fz)],⟨hes,.inr ⟨bk,off,arr.toList,T,fz,rfl,rfl,hflat⟩⟩,hin,?_,.inr ⟨_,rfl⟩⟩
   intro q hq
   simp only[List.mem_singleton] at hq
   subst hq
   simpa[rowf] using hbk
  |_=>rw[hadd] at hq0;simp[World.cell?,hbk] at hq0
theorem open_intsR {H:Type} {enc:TypeId×Value→H} {P:Program} {w:World} {base:Nat} {t E:TypeId} {v:Value} {d:DataW H} {ps:List MemPlace} (ht:P.underlying t=some (.slice E)) (he:P.underlying E=some (.int .i64)) (hcE:P.cellsOf E=1)
  (h:DataW.Trod enc P w 0 (fun _=>true) true t v d ps) (hok:Value.okWide P w .any base t v):
  ∃p n cap xs c,v= .slice p n cap∧Rw icl 1 p n xs c∧(∀x∈xs,inI64 x)∧n≤maxLen∧ChIn w c∧Ch1 c:=by
 obtain⟨a,len,cap,rfl⟩:=okWide_slice ht hok
 obtain⟨fuel,h⟩:=h
 rcases Deep.open_slice ht h with⟨h0,_⟩|⟨a',len',cap',m,n,D,Pl,h0,hb,hl,hm,hmm,_,hx⟩
 ·simp[Value.cells] at h0
  obtain⟨rfl,rfl,rfl⟩:=h0
  exact⟨none,0,0,[],[],rfl,⟨rfl,.inl ⟨rfl,rfl⟩⟩,by simp,by decide,by simp[ChIn],.inl rfl⟩
 ·simp[Value.cells] at h0
  obtain⟨rfl,rfl,rfl⟩:=h0
  by_cases hz:len=0
  ·subst hz
   exact⟨some a',0,cap,[],[],rfl,⟨rfl,.inl ⟨rfl,rfl⟩⟩,by simp,by decide,by simp[ChIn],.inl rfl⟩
  ·simp only[if_true] at hmm
   subst hmm
   obtain⟨xs,c,h1,h2,h3,h4⟩:=open_rowsR (f:=icl) (k:=1) icl_len (by omega) (Pr:=inI64) (w:=w) (ad:=a') (len:=len) (by omega) (fun i hi=>by
    obtain⟨cs',h1,h2⟩:=hx i (by omega)
    rw[hcE] at h1
    obtain⟨x,hx1,_,hx3⟩:=DataW.trod_int he h2
    refine⟨x,lit_i64 hx3,fun j hj=> ?_⟩
    obtain rfl:j=0:=by omega
    simp only[World.cells?,Nat.zero_le,if_true] at h1
    have h5:=mapM_some_get h1 0 0 (by simp)
    have h6:(a'.add (i*1)).add 0=a'.add (i*1+0):=by
     obtain⟨b,o,s⟩:=a'
     simp[Addr.add]
    rw[←h6,h5,hx1]
    rfl)
   exact⟨_,len,_,xs,c,rfl,h1,h2,by omega,h3,h4⟩
theorem two_ch {w:World} {c0 c1:Chunk} (h0:ChIn w c0) (h1:ChIn w c1) (s0:Ch1 c0) (s1:Ch1 c1):∃A,ChIn w A∧(A.map (·.1)).Nodup∧(∃r,A.Perm (c0++r))∧∃r,A.Perm (c1++r):=by
 rcases s0 with rfl|⟨q0,rfl⟩
 ·refine⟨c1,h1,?_,⟨c1,.refl _⟩,⟨[],by simp⟩⟩
  rcases s1 with rfl|⟨q1,rfl⟩<;>simp
 ·rcases s1 with rfl|⟨q1,rfl⟩
  ·exact⟨[q0],h0,by simp,⟨[],by simp⟩,⟨[q0],by simp⟩⟩
  ·by_cases hq:q0.1=q1.1
   ·have e0:=h0 q0 (by simp)
    have e1:=h1 q1 (by simp)
    rw[hq,e1,Option.some.injEq] at e0
    have:q0=q1:=by obtain⟨a,b⟩:=q0;obtain⟨a',b'⟩:=q1;simp only at hq e0;rw[hq,e0]
    subst this
    exact⟨[q0],h0,by simp,⟨[],by simp⟩,⟨[],by simp⟩⟩
   ·refine⟨[q0,q1],?_,by simp[hq],⟨[q1],.refl _⟩,⟨[q0],.swap _ _ _⟩⟩
    intro q hm
    simp only[List.mem_cons,List.not_mem_nil,or_false] at hm
    rcases hm with rfl|rfl
    ·exact h0 _ (by simp)
    ·exact h1 _ (by simp)
end Go.Proofs.YtjoicjgfgkpdjaaGreat
namespace Go.Proofs.YtjoicjgfgkpdjaaGreat
open Go.SL Go.Spc Go.Tup Go.Srt
theorem Ons.mem {n ro:Nat} {W W':Wk} {fs:List Fl} {x:Fl} (h:Ons n ro W fs) (h':Ons n ro W' (fs++[x])):∀e∈W.live,e∈W'.live:=by
 refine mem_addF (f:=x) ?_
 have h2:=h'.live
 rw[addFs_app] at h2
 exact h2.trans (addF_perm h.live.symm)
end Go.Proofs.YtjoicjgfgkpdjaaGreat
namespace Go.SL
section
variable {P:Program} {ops:Array Oper} {Q:Exit→Act→World→Prop} {cls:Nat→Oper→Cls} {w0:World} {S:List Nat} {n:Nat} {l:List (Nat×Oper)} {L:Slots} {D:List Deferred} {H:Hp} {qs:List Rd} {k d T yT:Nat} {x y:Operand} {ty:TypeId} {pos:String} {af:Array Edge} {g:Option (Nat×Bool)}
theorem R.neq4 [ho:Eq4 P T] {a0 a1 a2 a3 b0 b1 b2 b3:Int} (hx:ev L x=some (.agg #[.int .i64 a0,.int .i64 a1,.int .i64 a2,.int .i64 a3]))
  (hy:ev L y=some (.agg #[.int .i64 b0,.int .i64 b1,.int .i64 b2,.int .i64 b3]))
  (hc:cls k ⟨some d,.binOp .neq T x y yT,ty,pos,af,g⟩= .pure) (hn:d<n)
  (h:R P ops Q cls w0 S n l ((d,.bool (dec (¬(a0=b0∧a1=b1∧a2=b2∧a3=b3))))::L) D H qs):R1 P ops Q cls w0 S n k ⟨some d,.binOp .neq T x y yT,ty,pos,af,g⟩ l L D H qs:=
 R1.pureStep hc rfl hn (fun a hf w=>by simp[execOp,hf.eval hx,hf.eval hy,ho.guard,binOp,ho.run,dec_eq]) h
end
end Go.SL
namespace Go.Proofs.YtjoicjgfgkpdjaaGreat
open Go.SL Go.Spc Go.Tup Go.Srt
theorem RankFaults_ct (s:Nat) (hs:s<256) (b:Nat) (hb:b<65536) (e:Nat) (he:e<65536):
  CtQ Tryz.prog 13 [.int .u8 (s:Int),.int .u16 (b:Int),.int .u16 (e:Int)] [] (.bool true):=by
 have hflv:∀f:Fl,flv f= .agg #[.int .i64 (f.first:Int),.int .i64 (f.blocks:Int),.int .i64 (f.width:Int),.int .i64 (f.count:Int)]:=fun _=>rfl
 have hAw:=awake14ct
 have hWk:Ct Tryz.prog 23 [.int .i64 9] [] fun v H'=>
  ∃bw bd ba bs cd ca cs,v=pv bw∧H'=[wrow bw bd ba bs,cd,ca,cs]∧Wc bd ba bs (wk0 10 6000 90) cd ca cs:=work14ct 9 (by omega)
 have e4:IntKind.wrap .i64 ((e:Int).tmod 3000)=((e%3000:Nat):Int):=by rw[Int.tmod_eq_emod_of_nonneg (by omega),wrap_i64 (by omega)];omega
 have hal:allS [s]≤59:=allS_le [s]
 refine Ct.intro Tryz.func13 rfl Tryz.ntmps13 (nle rfl) fun w0=> ?_;dsimp only[argSlots,Nat.reduceAdd]
 repeat(first|(refine st ?_;intros)|(refine cq hAw ?_)|(refine cq hWD ?_)|(refine cq hSa ?_)|(refine cq hCl ?_))
 refine R.call (hct:=hWk) (h:= ?_)
 rintro _ _ ⟨bw,bd,ba,bs,cd,ca,cs,rfl,rfl,hW⟩
 try dsimp only[List.cons_append,List.nil_append]
 have hWD:=WDevice_ct bw bd ba bs
 repeat(first|(refine st ?_;intros)|(refine cq hAw ?_)|(refine cq hWD ?_)|(refine cq hSa ?_)|(refine cq hCl ?_))
 rename_i bl
 have hCh:=chains_ct (some ⟨bl,0,none⟩) 1 1 [s] [(bl,row [.int .u8 (s:Int)] 5)] ⟨rfl,.inr ⟨bl,0,_,_,_,rfl,rfl,rfl⟩⟩ (by omega) (by simpa using hs) b hb none 0 0 [] [] ⟨rfl,.inl ⟨rfl,rfl⟩⟩ (by omega) [(bl,row [.int .u8 (s:Int)] 5)] [] [(bl,row [.int .u8 (s:Int)] 5)] (by simp) (by simp)
 refine R.callX (hct:=hCh) (h:= ?_)
 rintro _ _ ⟨q,qc,ch,p,sp,rfl,rfl,hV,hp1,hp2,hp3,hp4,hp5⟩
 dsimp only[List.cons_append,List.nil_append]
 constructor
 ·(·(first|(intro _ _ h;cases h;done)|(repeat(first|exact qok_nil|(apply qok_cons;(·first|(intro hc;exact absurd hc (nmem rfl))|(intro _;apply CellPr.mk;(·repeat(first|exact Has.here|apply Has.there));(first|exact rfl|assumption))|(intro _;apply CellsPr.mk;(·repeat(first|exact Has.here|apply Has.there));(first|exact rfl|assumption))))))))
 have her:=chL_err (ws:=[]) hp1 hp2 hp3 hp4 hp5 (by simp)
 have hok:=chL_ok (sp:=sp) (ws:=[]) (ss:=[s]) (by omega:0<p) hp2 (by simp)
 have hln:=chL_len (elN p sp) [] 0 [s]
 generalize chL (elN p sp) [] 0 [s]=ts at*
 generalize allS [s]=n at*
 clear hp1 hp3
 have hnb:nblocks 10 3 n≤30:=Nat.le_trans nb3 (by omega)
 have hLy:=Lay_k bw bd ba bs _ cd ca cs hW 3 (by omega) (by omega) q n qc _ ch (RV.vec hV) (by omega) hok (by decide) rfl (by decide) (by rw[big0];show nblocks 10 3 n≤_;omega)
 rw[show(wk0 10 6000 90).δ.size=10 from rfl] at hLy
 repeat(first|(refine st ?_;intros)|(refine cq hAw ?_)|(refine cq hWD ?_)|(refine cq hSa ?_)|(refine cq hCl ?_))
 refine R.call (hct:=hLy) (h:= ?_)
 rintro _ _ ⟨cd1,ca1,cs1,W1,f,rfl,rfl,hW1,hE1,hK1,hg1,hl1,hf1,hc1,hb1,hfo1⟩
 try dsimp only[List.cons_append,List.nil_append]
 obtain⟨hO1,hin1⟩:=(Ons.fresh 6000 90).lay hW hW1 hE1 hg1 hl1 hfo1 (by show 0+nblocks 10 3 n≤_;omega)
 have hac1:=hE1.acts.2
 rw[show(wk0 10 6000 90).δ.acts=0 from rfl] at hac1
 rw[hflv]
 have hSF:=SetFault_ct bd W1.δ cd1 hW1.dev ((e%3000:Nat):Int) (by omega)
 repeat(first|(refine st ?_;intros)|(refine cq hAw ?_)|(refine cq hWD ?_)|(refine cq hSa ?_)|(refine cq hCl ?_))
 refine R.call (hct:=hSF) (h:= ?_)
 rintro _ _ ⟨cdf,rfl,rfl,hdf⟩
 try dsimp only[List.cons_append,List.nil_append]
 have hWf:=hW1.flt hdf
 have hT:=Ranks_ons bw bd ba bs 90 (by omega) (W1.flt ((e%3000:Nat):Int)) cdf ca1 cs1 hWf f ts _ hin1 hf1 (hc1.trans hln.symm) (hO1.flt _) 60 30 200 (by omega) (by omega) (by omega) (by omega) (by decide+kernel) (by omega) (by simp[sumB,hb1];omega) (by show W1.δ.acts≤_;omega)
 rw[hflv] at hT
 repeat(first|(refine st ?_;intros)|(refine cq hAw ?_)|(refine cq hWD ?_)|(refine cq hSa ?_)|(refine cq hCl ?_))
 refine R.call (hct:=hT) (h:= ?_)
 rintro _ _ ⟨x,e1,cd3,ca3,cs3,W3,rfl,rfl,hW3,hac3,hfl3,hbg3,hK3,hc⟩
 dsimp only[List.cons_append,List.nil_append]
 unfold rankA at hac3
 have hac3:W3.δ.acts≤W1.δ.acts+3600000:=hac3
 have hSF2:=SetFault_ct bd W3.δ cd3 hW3.dev (-1) (by decide)
 have hmem:∀z∈(W1.flt ((e%3000:Nat):Int)).live,z∈W3.live:=by
  rcases hc with⟨_,_,_,_,_,hO3⟩|⟨_,_,hO3,_⟩
  ·exact(hO1.flt _).mem hO3
  ·exact fun e he=>hO3.live.mem_iff.2 ((hO1.flt _).live.mem_iff.1 he)
 have hO3:∃gs,Ons 6000 90 W3 gs:=by
  rcases hc with⟨_,_,_,_,_,hO3⟩|⟨_,_,hO3,_⟩
  ·exact⟨_,hO3⟩
  ·exact⟨_,hO3⟩
 obtain⟨gs,hO3⟩:=hO3
 have hin3:FileIn W3 (f,ts):=FileIn.stay (W:=W1.flt ((e%3000:Nat):Int)) hin1 (hO3.size.trans hO1.size.symm) hK3 hmem
 obtain⟨Lv,hfo3,hsub3⟩:=hin3
 rw[hflv x]
 repeat(first|(refine st ?_;intros)|(refine cq hAw ?_)|(refine cq hWD ?_)|(refine cq hSa ?_)|(refine cq hCl ?_))
 refine R.call (hct:=hSF2) (h:= ?_)
 rintro _ _ ⟨cdg,rfl,rfl,hdg⟩
 try dsimp only[List.cons_append,List.nil_append]
 have hWg:=hW3.flt hdg
 have hLi:=List_ct bw bd ba bs (W3.flt (-1)) cdg ca3 cs3 hWg f ts Lv hfo3 hsub3 (by show W3.δ.size≤W3.α.room-W3.α.used;rw[hO3.size,hO3.room,hO3.used];decide) rfl (by show W3.δ.acts≤_;omega) (by omega)
 rw[hflv,hc1] at hLi
 rw[hc1]
 repeat(first|(refine st ?_;intros)|(refine cq hAw ?_)|(refine cq hWD ?_)|(refine cq hSa ?_)|(refine cq hCl ?_))
 refine R.call (hct:=hLi) (h:= ?_)
 rintro _ _ ⟨cd5,ca5,W5,po,oc,cho,rfl,rfl,hW5,hE5,hd5,hl5,hg5,hVo⟩
 try dsimp only[List.cons_append,List.nil_append]
 have hSa:=Same_ct po n oc _ cho (RV.vec hVo) (by omega) q n qc _ ch (RV.vec hV)
 rw[decide_eq_true rfl] at hSa
 have hus5:W5.α.used=0:=(used_eq hWg hW5 hg5).trans hO3.used
 have hCl:∀b':Nat,total W5.σ.free+sumB [f,x]=6000→CtQ Tryz.prog 32 [pv bw,.slice (some ⟨b',0,none⟩) 2 2] [wrow bw bd ba bs,ca5,cs3,[(b',row [.int .i64 (f.first:Int),.int .i64 (f.blocks:Int),.int .i64 (f.width:Int),.int .i64 (n:Int),.int .i64 (x.first:Int),.int .i64 (x.blocks:Int),.int .i64 (x.width:Int),.int .i64 (x.count:Int)] 27)]] (.bool true):=fun b' ht=>
  clean14ct bw bd ba bs W5 ca5 cs3 hW5.ar hW5.sp (some ⟨b',0,none⟩) 2 2 [f,x] _ ⟨rfl,.inr ⟨b',0,_,_,_,rfl,rfl,by simp[fl4,hc1]⟩⟩ (by omega) hus5 ht
 rcases hc with⟨rfl,_,_,_,_,hO4⟩|⟨_,rfl,hO4,⟨rfl,_⟩|⟨k,h6,_⟩⟩
 ·have ht:=free_sumN (fs:=[f,x]) hW5 (by rw[hl5];exact hO4.live) (hE5.n.trans hO4.n)
  repeat(first|(refine st ?_;intros)|(refine cq hAw ?_)|(refine cq hWD ?_)|(refine cq hSa ?_)|(refine cq hCl ?_))
  (refine Dn.post (Hr:=[]) Tryz.results13 (hR:= ?_);exact⟨rfl,rfl⟩)
 ·have ht0:=free_sumN (fs:=[f]) hW5 (by rw[hl5];exact hO4.live) (hE5.n.trans hO4.n)
  have ht:total W5.σ.free+sumB [f,⟨0,0,0,0⟩]=6000:=by
   rw[←ht0];simp[sumB]
  have z1:((⟨0,0,0,0⟩:Fl).first:Int)=0:=rfl
  have z3:((⟨0,0,0,0⟩:Fl).width:Int)=0:=rfl
  have z4:((⟨0,0,0,0⟩:Fl).count:Int)=0:=rfl
  rw[z1]
  simp only[z1,z3,z4] at hCl
  repeat(first|(refine st ?_;intros)|(refine cq hAw ?_)|(refine cq hWD ?_)|(refine cq hSa ?_)|(refine cq hCl ?_))
  refine R.neq4 (hx:=rfl) (hy:=rfl) (hc:=rfl) (hn:=nle rfl) (h:= ?_)
  repeat(first|(refine st ?_;intros)|(refine cq hAw ?_)|(refine cq hWD ?_)|(refine cq hSa ?_)|(refine cq hCl ?_))
  (refine Dn.post (Hr:=[]) Tryz.results13 (hR:= ?_);exact⟨rfl,rfl⟩)
 ·rw[her] at h6;cases h6
end Go.Proofs.YtjoicjgfgkpdjaaGreat
namespace Go.Proofs.YtjoicjgfgkpdjaaGreat
open Go.SL Go.Spc Go.Tup Go.Srt
structure Cir (el:Nat→Int) (l:List T5) (j:Nat):Prop where
 c0:∀n t,l[n]? =some t→t.c0=el n
 c1:∀n t,l[n]? =some t→t.c1=el (if n+1=l.length then j else n+1)
 inj:∀a b,a<l.length→b<l.length→el a=el b→a=b
 pos:∀n,0≤el n
 hj:j<l.length
theorem Cir.not {el:Nat→Int} {l:List T5} {j:Nat} (h:Cir el l j):¬(OkL l∧Ends l):=by
 rintro⟨h1,h2⟩
 have hj:=h.hj
 by_cases h0:j=0
 ·subst h0
  have hpa:∀i,i<l.length→∃i',i'<l.length∧paT l (el i)=el i':=by
   intro i hi
   have hone:∀i',(hi':i'<l.length)→(if i'+1=l.length then 0 else i'+1)=i→paT l (el i)=el i':=by
    intro i' hi' he
    have h3:=h.c1 i' _ (List.getElem?_eq_getElem hi')
    rw[he] at h3
    have hp:=h.pos i
    have ha:=aheadT_some h1.toPreL (List.getElem_mem hi') (by rw[h3];omega)
    rw[h3] at ha
    unfold paT
    rw[ha]
    exact h.c0 _ _ (List.getElem?_eq_getElem hi')
   by_cases hi0:i=0
   ·exact⟨l.length-1,by omega,hone _ (by omega) (by rw[if_pos (by omega)];exact hi0.symm)⟩
   ·exact⟨i-1,by omega,hone _ (by omega) (by rw[if_neg (by omega)];omega)⟩
  have hit:∀k i,i<l.length→∃i',i'<l.length∧itA (paT l) k (el i)=el i':=by
   intro k
   induction k with
   |zero=>exact fun i hi=>⟨i,hi,rfl⟩
   |succ k ih=>
    intro i hi
    obtain⟨i',hi',he⟩:=hpa i hi
    show∃i',i'<l.length∧itA (paT l) k (paT l (el i))=el i'
    rw[he]
    exact ih i' hi'
  obtain⟨k,hk⟩:=h2 l[0] (List.getElem_mem hj)
  rw[h.c0 0 _ (List.getElem?_eq_getElem hj)] at hk
  obtain⟨i',_,he⟩:=hit k 0 hj
  have:=h.pos i'
  omega
 ·have h3:=List.pairwise_iff_getElem.1 h1.nx (j-1) (l.length-1) (by omega) (by omega) (by omega)
  rw[h.c1 (j-1) _ (List.getElem?_eq_getElem (by omega)),h.c1 (l.length-1) _ (List.getElem?_eq_getElem (by omega)),if_neg (by omega),if_pos (by omega)] at h3
  have hp:=h.pos (j-1+1)
  refine h3 (by omega) ?_
  rw[show j-1+1=j by omega]
theorem chO_getE {el:Nat→Int} {ws:List Int} {n s i:Nat} (hi:i<s):(chO el ws n s)[i]? =some (chT el ws (n+i) (decide (i+1=s))):=by
 unfold chO
 rw[List.getElem?_map,List.getElem?_range hi];rfl
theorem chL_one {el:Nat→Int} {ws:List Int} {z:Nat} (hz:z<60):chL el ws 0 [z]=chO el ws 0 z:=by
 show chO el ws 0 (z%60)++[]=_
 rw[List.append_nil,Nat.mod_eq_of_lt hz]
theorem allS_one {z:Nat} (hz:z<60):allS [z]=z:=by
 unfold allS;simp;exact hz
def hangT (p sp z j:Nat):List T5:=(chO (elN p sp) [] 0 z).take (z-1)++[⟨elN p sp (z-1),elN p sp j,1,0,0⟩]
theorem hang_cir {p sp z j:Nat} (hz:z+1<p) (hp:∀k,2≤k→k<p→p%k≠0) (h1:1≤sp) (h2:sp<p) (hj:j<z):Cir (elN p sp) (hangT p sp z j) j:=by
 have hl:(hangT p sp z j).length=z:=by
  unfold hangT
  rw[List.length_append,List.length_take,chO_len]
  simp;omega
 have hg:∀n t,(hangT p sp z j)[n]? =some t→(n+1<z∧t=⟨elN p sp n,elN p sp (n+1),1,0,0⟩)∨(n+1=z∧t=⟨elN p sp n,elN p sp j,1,0,0⟩):=by
  intro n t ht
  have hn:n<z:=by
   have:=(List.getElem?_eq_some_iff.1 ht).1
   omega
  unfold hangT at ht
  by_cases h3:n+1=z
  ·right
   rw[List.getElem?_append_right (by rw[List.length_take,chO_len];omega),List.length_take,chO_len,show n-min (z-1) z=0 by omega] at ht
   simp only[List.getElem?_cons_zero,Option.some.injEq] at ht
   exact⟨h3,by rw[←ht,show z-1=n by omega]⟩
  ·left
   rw[List.getElem?_append_left (by rw[List.length_take,chO_len];omega),List.getElem?_take,if_pos (by omega),chO_getE hn] at ht
   simp only[Option.some.injEq] at ht
   refine⟨by omega,ht.symm.trans ?_⟩
   unfold chT
   rw[decide_eq_false h3,Nat.zero_add]
   rfl
 refine⟨fun n t ht=> ?_,fun n t ht=> ?_,fun a b ha hb he=> ?_,fun n=>by unfold elN;omega,by rw[hl];exact hj⟩
 ·rcases hg n t ht with⟨_,rfl⟩|⟨_,rfl⟩<;>rfl
 ·rw[hl]
  rcases hg n t ht with⟨h3,rfl⟩|⟨h3,rfl⟩
  ·rw[if_neg (by omega)]
  ·rw[if_pos h3]
 ·rw[hl] at ha hb
  exact elN_inj hp h1 h2 (by omega) (by omega) he
theorem hang_err {p sp z j:Nat} (hz:z+1<p) (hp2:p≤251) (hp:∀k,2≤k→k<p→p%k≠0) (h1:1≤sp) (h2:sp<p) (hj:j<z) (hok:∀t∈hangT p sp z j,okT 3 t):errR (hangT p sp z j)=some 3:=by
 have h:=hang_cir hz hp h1 h2 hj
 have hl:(hangT p sp z j).length=z:=by
  unfold hangT
  rw[List.length_append,List.length_take,chO_len]
  simp;omega
 rcases errR_3 (hangT p sp z j) with h3|h3
 ·exact absurd ((errR_iff (by omega) hok).1 h3) h.not
 ·exact h3
theorem hang_ok {p sp z j:Nat} (hp:0<p) (hp2:p≤251) (hz:z<60):∀t∈hangT p sp z j,okT 3 t:=by
 have hel:∀n,inI64 (elN p sp n):=fun n=>by
  have h1:=elN_lt (sp:=sp) (n:=n) hp
  have h2:0≤elN p sp n:=by unfold elN;omega
  exact⟨by omega,by omega⟩
 intro t ht
 unfold hangT at ht
 rcases List.mem_append.1 ht with h|h
 ·exact chL_ok (ws:=[]) (ss:=[z]) hp hp2 (by simp) t (by rw[chL_one hz];exact List.mem_of_mem_take h)
 ·rw[List.mem_singleton] at h
  subst h
  exact okT3 (hel _) (hel _) in_1
end Go.Proofs.YtjoicjgfgkpdjaaGreat
