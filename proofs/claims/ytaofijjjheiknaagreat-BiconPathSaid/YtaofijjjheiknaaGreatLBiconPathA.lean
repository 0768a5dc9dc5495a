/-
  Parts of the proof, put together: BiconPath0. No condition.
-/
import Derived.Test.YtaofijjjheiknaaGreatP15
set_option linter.unusedVariables false
set_option linter.unusedSimpArgs false
set_option linter.unnecessarySimpa false
set_option maxHeartbeats 4000000
open Go.IntKind renaming wrap→AL
open Go.Proofs.Tryz renaming prog→AC
open List renaming cons_append→AA,nil_append→AB,take_of_length_le→A5,range→BA
open Nat renaming reduceAdd→AD,le_refl→AI,zero_le→AT
open Go.Proofs.Tryz
open Go.Value renaming int→Z9
open Go.IntKind renaming i64→Z8
namespace Go.Proofs.YtaofijjjheiknaaGreat
open Go.SL Go.Spc Go.Tup Go.Srt Go.Gr
structure BpX where
 i:Nat
 p:Option Addr
 cap:Nat
 ch:Aa
theorem nR {m i:Nat} (h:i<m):((Fy m).take (i+1)).flatMap ecl=((Fy m).take i).flatMap ecl++[Z9 Z8 i,Z9 Z8 ((i+1:Nat):Int)]:=by rw[List.take_add_one,Ky (by rw[Ld];exact h),Ti h];simp[ecl]
theorem nS {f:Nat→T5} {n i:Nat} (h:i<n):((BA n).map f)[i]? =some (f i):=by rw[List.getElem?_map,List.getElem?_range h];rfl
theorem F9 {i:Nat} {q:Option Addr} {n qc:Nat} {ch:Aa} (h:Vec 53 2 q n qc ((Fy i).flatMap ecl++[Z9 Z8 0,Z9 Z8 i]) ch):Vec 53 2 q n qc ((Cz i).flatMap ecl) ch:=by
 have h1:(Cz i).flatMap ecl=(Fy i).flatMap ecl++[Z9 Z8 0,Z9 Z8 i]:=by unfold Cz;rw[List.flatMap_append];simp[ecl]
 rw[h1];exact h
theorem GA (a k:Nat) (hk:k<38) (e5:AL .i64 ((a:Int).tmod 38)=(k:Int)):CtQ AC 7 [.int .u8 (a:Int),.bool false] [] (.bool true):=by
 have aa:=Vb;have e6:AL .i64 (3+(k:Int))=((2+k+1:Nat):Int):=by rw[Ah oM];omega
 have ai:Ct AC 28 [Z9 Z8 9] [] fun v H'=>
  ∃bw bd ba bs cd ca cs,v=pv bw∧H'=[Ab bw bd ba bs,cd,ca,cs]∧Wc bd ba bs (wk0 10 9000 90) cd ca cs:=Th 9 oM
 generalize hm:2+k=m at*;have f3:AL .i64 (((m+1:Nat):Int)-1)=(m:Int):=by rw[Ah oM];omega
 refine cG func7 fun _=>?_;repeat(refine sA ?_;intros)
 rename_i b5;refine G.loop (X:=BpX) (fun s=>s.i≤m∧Vec 53 2 s.p s.i s.cap (((Fy m).take s.i).flatMap ecl) s.ch)
  (fun s=>[(6,Z9 Z8 ((s.i+1:Nat):Int)),(5,pv b5),(1,.bool false)])
  (fun s=>[s.ch,[(b5,row [Z9 Z8 ((m+1:Nat):Int),.slice s.p s.i s.cap] 24)]]) (fun s=>m-s.i) ⟨0,none,0,[]⟩ ⟨AT _,Vec.nil _ _⟩ oA7 oA3 ?_
 rintro⟨i,q,qc,ch⟩ ⟨hi,hV⟩;dsimp only at hi hV⊢;by_cases ad:i<m
 ·have g1:AL .i64 (((i+1:Nat):Int)-1)=(i:Int):=by rw[Ah oM];omega
  have aj:=nR ad;have ak:i+1≤maxLen:=by simp only[maxLen];omega
  repeat(refine sA ?_;intros)
  rename_i p' ab c' al;have am:Vec 53 2 p' (i+1) ab (((Fy m).take (i+1)).flatMap ecl) c':=by rw[aj];exact al
  refine Dn.round ⟨i+1,p',ab,c'⟩ ⟨ad,am⟩ oD
 have an:i=m:=oM;subst an;have ak:i+1≤maxLen:=by simp only[maxLen];omega
 rw[A5 (by rw[Ld];exact AI _)] at hV;repeat(refine sA ?_;intros)
 refine cX ai ?_;rintro _ _ ⟨bw,bd,ba,bs,cd,ca,cs,rfl,rfl,hW⟩;dsimp only[AA,AB];refine nx ?_;have hC:=Tl bw bd ba bs 90 oM cd ca cs hW (i+1) oM _ i qc (Fy i) _ (Rw.ofVec Iw hV oM) oM (Tj i) (FZ oM);unfold gv at hC;repeat(refine sA ?_;intros)
 refine cX hC ?_;rintro _ _ ⟨ao,aq,au,pl,oc,co,bq,qf,bo,rfl,rfl,hB,av,ae⟩;dsimp only[AA,AB];refine nx ?_;obtain rfl:=hB.uniq (FU i);have hl:((BA i).map fun (j:Nat)=>(⟨(j:Int),(j:Int),0,0,0⟩:T5)).length=i:=by simp
 rw[hl] at ae⊢;repeat(refine sA ?_;intros)
 refine G.loop (X:=Nat) (fun j=>j≤i) (fun j=>[(10,Z9 Z8 j),(7,.slice pl i oc),(1,.bool false),(9,Z9 Z8 0),(5,pv b5)])
  (fun _=>[co,[(b5,row [Z9 Z8 ((i+1:Nat):Int),.slice q i qc] 24)]]) (fun j=>i-j) 0 (AT _) (body:=?_)
 intro j hj;by_cases ag:j<i
 ·have ah:=nS (f:=fun (j:Nat)=>(⟨(j:Int),(j:Int),0,0,0⟩:T5)) ag;obtain⟨b0,off,cc,T0,fz,rfl,rfl,_,ac⟩:=(RV.rw (RV.vec ae)).pos Ds oM;have q0:cc[off+j*5]? =some (Z9 Z8 j):=ac j 0 _ _ ah rfl;have q1:cc[off+j*5+1]? =some (Z9 Z8 j):=ac j 1 _ _ ah rfl;repeat(refine sA ?_;intros)
  refine Dn.round (j+1) ag oM
 ·obtain rfl:j=i:=by omega
  repeat(refine sA ?_;intros)
  (refine dP [] ?_;exact⟨congrArg Value.bool (Fj rfl),rfl⟩)
theorem GB (a k:Nat) (hk:k<38) (e5:AL .i64 ((a:Int).tmod 38)=(k:Int)):CtQ AC 7 [.int .u8 (a:Int),.bool true] [] (.bool true):=by
 have aa:=Vb;have e6:AL .i64 (3+(k:Int))=((2+k+1:Nat):Int):=by rw[Ah oM];omega
 have ak:Ct AC 28 [Z9 Z8 9] [] fun v H'=>
  ∃bw bd ba bs cd ca cs,v=pv bw∧H'=[Ab bw bd ba bs,cd,ca,cs]∧Wc bd ba bs (wk0 10 9000 90) cd ca cs:=Th 9 oM
 generalize hm:2+k=m at*;have f3:AL .i64 (((m+1:Nat):Int)-1)=(m:Int):=by rw[Ah oM];omega
 refine cG func7 fun _=>?_;repeat(refine sA ?_;intros)
 rename_i b5;refine G.loop (X:=BpX) (fun s=>s.i≤m∧Vec 53 2 s.p s.i s.cap (((Fy m).take s.i).flatMap ecl) s.ch)
  (fun s=>[(6,Z9 Z8 ((s.i+1:Nat):Int)),(5,pv b5),(1,.bool true)])
  (fun s=>[s.ch,[(b5,row [Z9 Z8 ((m+1:Nat):Int),.slice s.p s.i s.cap] 24)]]) (fun s=>m-s.i) ⟨0,none,0,[]⟩ ⟨AT _,Vec.nil _ _⟩ oA7 oA3 ?_
 rintro⟨i,q,qc,ch⟩ ⟨hi,hV⟩;dsimp only at hi hV⊢;by_cases ae:i<m
 ·have g1:AL .i64 (((i+1:Nat):Int)-1)=(i:Int):=by rw[Ah oM];omega
  have al:=nR ae;have am:i+1≤maxLen:=by simp only[maxLen];omega
  repeat(refine sA ?_;intros)
  rename_i p' ab c' an;have ad:Vec 53 2 p' (i+1) ab (((Fy m).take (i+1)).flatMap ecl) c':=by rw[al];exact an
  refine Dn.round ⟨i+1,p',ab,c'⟩ ⟨ae,ad⟩ oD
 have ao:i=m:=oM;subst ao;have am:i+1≤maxLen:=by simp only[maxLen];omega
 rw[A5 (by rw[Ld];exact AI _)] at hV;repeat(refine sA ?_;intros)
 rename_i q3 ag aq ad;refine cX ak ?_;rintro _ _ ⟨bw,bd,ba,bs,cd,ca,cs,rfl,rfl,hW⟩;dsimp only[AA,AB];refine nx ?_;have hC:=Tl bw bd ba bs 90 oM cd ca cs hW (i+1) oM _ (i+1) ag (Cz i) _ (Rw.ofVec Iw (F9 ad) oM) oM (Vc i) (F0 oM);unfold gv at hC;repeat(refine sA ?_;intros)
 refine cX hC ?_;rintro _ _ ⟨au,av,aw,pl,oc,co,bq,qf,bo,rfl,rfl,hB,ax,ah⟩;dsimp only[AA,AB];refine nx ?_;obtain rfl:=hB.uniq (FV i oM);have hl:((BA (i+1)).map fun (j:Nat)=>(⟨(j:Int),0,0,0,0⟩:T5)).length=(i+1):=by simp
 rw[hl] at ah⊢;repeat(refine sA ?_;intros)
 refine G.loop (X:=Nat) (fun j=>j≤(i+1)) (fun j=>[(10,Z9 Z8 j),(7,.slice pl (i+1) oc),(1,.bool true),(9,Z9 Z8 0),(5,pv b5)])
  (fun _=>[co,[(b5,row [Z9 Z8 ((i+1:Nat):Int),.slice q3 (i+1) ag] 24)]]) (fun j=>(i+1)-j) 0 (AT _) (body:=?_)
 intro j hj;by_cases ai:j<(i+1)
 ·have aj:=nS (f:=fun (j:Nat)=>(⟨(j:Int),0,0,0,0⟩:T5)) ai;obtain⟨b0,off,cc,T0,fz,rfl,rfl,_,ac⟩:=(RV.rw (RV.vec ah)).pos Ds oM;have q0:cc[off+j*5]? =some (Z9 Z8 j):=ac j 0 _ _ aj rfl;have q1:cc[off+j*5+1]? =some (Z9 Z8 0):=ac j 1 _ _ aj rfl;repeat(refine sA ?_;intros)
  refine Dn.round (j+1) ai oM
 ·obtain rfl:j=(i+1):=by omega
  repeat(refine sA ?_;intros)
  (refine dP [] ?_;exact⟨congrArg Value.bool (Fj rfl),rfl⟩)
theorem GC (a:Nat) (ha:a<256) (c:Bool):CtQ AC 7 [.int .u8 (a:Int),.bool c] [] (.bool true):=by
 have e4:AL .i64 ((a:Int).tmod 38)=((a%38:Nat):Int):=by rw[Int.tmod_eq_emod_of_nonneg oM];rw[Ah oM];omega
 cases c with
 |false=>exact GA a (a%38) oM e4
 |true=>exact GB a (a%38) oM e4
end Go.Proofs.YtaofijjjheiknaaGreat
