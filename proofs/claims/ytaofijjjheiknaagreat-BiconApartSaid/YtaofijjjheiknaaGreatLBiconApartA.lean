/-
  Parts of the proof, put together: BiconApart0. No condition.
-/
import Derived.Test.YtaofijjjheiknaaGreatP15
set_option linter.unusedVariables false
set_option linter.unusedSimpArgs false
set_option linter.unnecessarySimpa false
set_option maxHeartbeats 4000000
open Go.IntKind renaming wrap→AL
open Go.Proofs.Tryz renaming prog→AC
open List renaming cons_append→AA,nil_append→AB,getElem?_eq_getElem→AG,append_assoc→AV,map_append→AY,take_of_length_le→A5,take_add_one→BP
open Nat renaming reduceAdd→AD,zero_le→AT,zero_add→BR
open Go.Proofs.Tryz
open Go.Value renaming int→Z9
open Go.IntKind renaming i64→Z8
namespace Go.Proofs.YtaofijjjheiknaaGreat
open Go.SL Go.Spc Go.Tup Go.Srt Go.Gr
structure BaX where
 i:Nat
 p:Option Addr
 cap:Nat
 ch:Aa
def Pt (s:Nat) (e:IE):IE:=(e.1+(s:Int),e.2+(s:Int))
def shB (n:Nat) (t:T5):T5:=⟨t.c0+(n:Int),t.c1+(n:Int),0,0,0⟩
theorem GO (n1:Int) (p1:Option Addr) (m1 ai:Nat) (ah:List IE) (c1:Aa) (a2:Rw ecl 2 p1 m1 ah c1) (bu:m1≤maxLen) (n2:Int) (p2:Option Addr) (m2 aj:Nat) (ag:List IE) (c2:Aa) (a1:Rw ecl 2 p2 m2 ag c2) (bq:m2≤maxLen) (A bk bp:Aa) (a0:A.Perm (c1++bk)) (az:A.Perm (c2++bp)):CtQ AC 8 [gv n1 p1 m1 ai,gv n2 p2 m2 aj] [A] (.bool true):=by
 have ae:=Vb;have aa:=CtQ.inA (bA n1 p1 m1 ai ah c1 a2 bu) a0;have ab:=CtQ.inA (bA n2 p2 m2 aj ag c2 a1 bq) az;have ac:=bB n1 p1 m1 ai 12 20 bu;have ad:=bB n2 p2 m2 aj 12 20 bq;have an:=a2.1;have d0:=a1.1;unfold gv at aa ab ac ad⊢;cases hfm1:Gc n1 ah with
 |false=>
  rw[hfm1] at aa;refine cG func8 fun _=>?_;repeat(refine sA ?_;intros)
  (refine dP [A] ?_;exact⟨rfl,rfl⟩)
 |true=>
 rw[hfm1] at aa;by_cases ao:n1≤12∧(m1:Int)≤20;rotate_left
 ·rw[Jf ao] at ac;refine cG func8 fun _=>?_;repeat(refine sA ?_;intros)
  (refine dP [A] ?_;exact⟨rfl,rfl⟩)
 rw[Fj ao] at ac;cases hfm2:Gc n2 ag with
 |false=>
  rw[hfm2] at ab;refine cG func8 fun _=>?_;repeat(refine sA ?_;intros)
  (refine dP [A] ?_;exact⟨rfl,rfl⟩)
 |true=>
 rw[hfm2] at ab;by_cases aq:n2≤12∧(m2:Int)≤20;rotate_left
 ·rw[Jf aq] at ad;refine cG func8 fun _=>?_;repeat(refine sA ?_;intros)
  (refine dP [A] ?_;exact⟨rfl,rfl⟩)
 rw[Fj aq] at ad;obtain⟨d4,au⟩:=Yg hfm1;obtain⟨d5,am⟩:=Yg hfm2;by_cases ci:n1=0
 ·subst ci;refine cG func8 fun _=>?_;repeat(refine sA ?_;intros)
  (refine dP [A] ?_;exact⟨rfl,rfl⟩)
 by_cases cj:n2=0
 ·subst cj;refine cG func8 fun _=>?_;repeat(refine sA ?_;intros)
  (refine dP [A] ?_;exact⟨rfl,rfl⟩)
 obtain⟨N1,rfl⟩:∃N:Nat,n1=(N:Int):=⟨n1.toNat,oM⟩
 obtain⟨N2,rfl⟩:∃N:Nat,n2=(N:Int):=⟨n2.toNat,oM⟩
 obtain⟨s,hs⟩:∃s:Nat,N1=s+1:=⟨N1-1,oM⟩
 obtain⟨M,hM⟩:∃s:Nat,N2=s+1:=⟨N2-1,oM⟩
 obtain⟨K0,d6⟩:∃K:Nat,K=N1+N2:=⟨_,rfl⟩
 obtain⟨K,hK⟩:∃K:Nat,K=s+M+1:=⟨_,rfl⟩
 have d7:AL .i64 ((N1:Int)+(N2:Int))=(K0:Int):=by rw[Ah oM];omega
 have d1:AL .i64 ((K0:Int)-1)=(K:Int):=by rw[Ah oM];omega
 have a6:=fun {x y} hx hy=>FX (s:=s) (M:=M) (x:=x) (y:=y) (by rw[←hs];exact au) (by rw[←hM];exact am) hx hy;have cm:shL s ag=ag.map (Pt s):=rfl;rw[cm] at a6;refine cG func8 fun _=>?_;repeat(first|(refine stn ?_;intros)|refine G.draw [] (h:=?_)|refine G.drawOrd (id:=9) [1,0,2,3,4,5,6,7,8,9] [(0,.eff [1])] (h:=?_)|refine G.drawOrd (id:=10) [1,0,2,3,4,5,6,7,8,9] [(0,.eff [1])] (h:=?_)|refine G.drawOrd (id:=11) [1,0,2,3,4,5,6,7,8,9] [(0,.eff [1])] (h:=?_)|refine cq ae ?_|refine cq aa ?_|refine cq ac ?_|refine cq ab ?_|refine cq ad ?_|refine cq hSa ?_)
 apply G.seq;repeat(first|(refine stn ?_;intros)|refine G.draw [] (h:=?_)|refine G.drawOrd (id:=9) [1,0,2,3,4,5,6,7,8,9] [(0,.eff [1])] (h:=?_)|refine G.drawOrd (id:=10) [1,0,2,3,4,5,6,7,8,9] [(0,.eff [1])] (h:=?_)|refine G.drawOrd (id:=11) [1,0,2,3,4,5,6,7,8,9] [(0,.eff [1])] (h:=?_)|refine cq ae ?_|refine cq aa ?_|refine cq ac ?_|refine cq ab ?_|refine cq ad ?_|refine cq hSa ?_)
 apply G.seq;repeat(first|(refine stn ?_;intros)|refine G.draw [] (h:=?_)|refine G.drawOrd (id:=9) [1,0,2,3,4,5,6,7,8,9] [(0,.eff [1])] (h:=?_)|refine G.drawOrd (id:=10) [1,0,2,3,4,5,6,7,8,9] [(0,.eff [1])] (h:=?_)|refine G.drawOrd (id:=11) [1,0,2,3,4,5,6,7,8,9] [(0,.eff [1])] (h:=?_)|refine cq ae ?_|refine cq aa ?_|refine cq ac ?_|refine cq ab ?_|refine cq ad ?_|refine cq hSa ?_)
 rename_i b2 b3;apply G.seq;repeat(first|(refine stn ?_;intros)|refine G.draw [] (h:=?_)|refine G.drawOrd (id:=9) [1,0,2,3,4,5,6,7,8,9] [(0,.eff [1])] (h:=?_)|refine G.drawOrd (id:=10) [1,0,2,3,4,5,6,7,8,9] [(0,.eff [1])] (h:=?_)|refine G.drawOrd (id:=11) [1,0,2,3,4,5,6,7,8,9] [(0,.eff [1])] (h:=?_)|refine cq ae ?_|refine cq aa ?_|refine cq ac ?_|refine cq ab ?_|refine cq ad ?_|refine cq hSa ?_)
 apply G.seq;repeat(first|(refine stn ?_;intros)|refine G.draw [] (h:=?_)|refine G.drawOrd (id:=9) [1,0,2,3,4,5,6,7,8,9] [(0,.eff [1])] (h:=?_)|refine G.drawOrd (id:=10) [1,0,2,3,4,5,6,7,8,9] [(0,.eff [1])] (h:=?_)|refine G.drawOrd (id:=11) [1,0,2,3,4,5,6,7,8,9] [(0,.eff [1])] (h:=?_)|refine cq ae ?_|refine cq aa ?_|refine cq ac ?_|refine cq ab ?_|refine cq ad ?_|refine cq hSa ?_)
 rename_i b5;refine G.cut (D':=[]) (X:=BaX) (fun x=>Vec 53 2 x.p m1 x.cap (ah.flatMap ecl) x.ch) (fun _=>[(5,pv b5),(3,pv b3),(2,pv b2)])
  (fun x=>[x.ch,[(b5,row [Z9 Z8 K,.slice x.p m1 x.cap] 24)],[(b3,row [Z9 Z8 N2,.slice p2 m2 aj] 24)],[(b2,row [Z9 Z8 N1,.slice p1 m1 ai] 24)],A]) ?_ ?_
 ·by_cases bv:m1=0
  ·subst bv;obtain rfl:ah=[]:=List.eq_nil_of_length_eq_zero an;repeat(refine sA ?_;intros)
   exact Dn.meet ⟨0,none,0,[]⟩ (Vec.nil _ _)
  ·obtain⟨b,off,cs,T,fz,rfl,rfl,a7⟩:=a2.2.resolve_left (fun h=>bv h.1);have cu:(cs.drop off).take (m1*2)=ah.flatMap ecl:=a7;have d2:(ah.flatMap ecl).length=m1*2:=by rw[nQ,an]
   have d3:=nP ah;refine G.open a0 (by(repeat(first|exact Ae.here|apply Ae.there))) ?_;have d8:Vec 53 2 none 0 0 [] []:=Vec.nil _ _;repeat(refine sA ?_;intros)
   rename_i q qc a8 hq;rw[BR,AB] at hq;rw[BR];refine Dn.close a0 (by(repeat(first|exact Ae.here|apply Ae.there))) (by(repeat(first|exact Ae.here|apply Ae.there))) ?_;exact Dn.meet ⟨0,q,qc,a8⟩ hq
 rintro⟨_,q,qc,a8⟩ hq;dsimp only at hq⊢;repeat(refine sA ?_;intros)
 refine G.loop (X:=BaX) (fun x=>x.i≤m2∧Vec 53 2 x.p (m1+x.i) x.cap ((ah++(ag.take x.i).map (Pt s)).flatMap ecl) x.ch) (fun x=>[(6,Z9 Z8 x.i),(5,pv b5),(3,pv b3),(2,pv b2)])
  (fun x=>[x.ch,[(b5,row [Z9 Z8 K,.slice x.p (m1+x.i) x.cap] 24)],[(b3,row [Z9 Z8 N2,.slice p2 m2 aj] 24)],[(b2,row [Z9 Z8 N1,.slice p1 m1 ai] 24)],A]) (fun x=>m2-x.i) ⟨0,q,qc,a8⟩ ⟨AT _,by simpa using hq⟩ oA7 oA3 ?_
 rintro⟨i,w,wc,wh⟩ ⟨hi,hw⟩;dsimp only at hi hw⊢;by_cases cw:i<m2
 ·obtain⟨b,off,cs,T,fz,rfl,rfl,_,ak⟩:=a1.pos Iw oM;have a9:ag[i]? =some ag[i]:=AG oM;have bz:=am _ (List.getElem_mem (l:=ag) (n:=i) oM);have q0:=ak i 0 _ _ a9 rfl;have q1:=ak i 1 _ _ a9 rfl;rw[Nat.add_zero] at q0;have bc:ag.take (i+1)=ag.take i++[ag[i]]:=by rw[BP,a9];rfl
  generalize ag[i]=e at*;unfold inE at bz;have cz:m1+i+1≤maxLen:=by simp only[maxLen];omega
  have w1:AL .i64 (e.1+(N1:Int))=e.1+(N1:Int):=Ah ⟨oM,oM⟩;have w2:AL .i64 (e.2+(N1:Int))=e.2+(N1:Int):=Ah ⟨oM,oM⟩;have w3:AL .i64 (e.1+(N1:Int)-1)=e.1+(s:Int):=by rw[Ah ⟨oM,oM⟩];omega
  have w4:AL .i64 (e.2+(N1:Int)-1)=e.2+(s:Int):=by rw[Ah ⟨oM,oM⟩];omega
  have be:(ah++(ag.take (i+1)).map (Pt s)).flatMap ecl=(ah++(ag.take i).map (Pt s)).flatMap ecl++[Z9 Z8 (e.1+(s:Int)),Z9 Z8 (e.2+(s:Int))]:=by rw[bc,AY,←AV,List.flatMap_append];rfl
  repeat(first|(refine stn ?_;intros)|refine G.draw [] (h:=?_)|refine G.drawOrd (id:=9) [1,0,2,3,4,5,6,7,8,9] [(0,.eff [1])] (h:=?_)|refine G.drawOrd (id:=10) [1,0,2,3,4,5,6,7,8,9] [(0,.eff [1])] (h:=?_)|refine G.drawOrd (id:=11) [1,0,2,3,4,5,6,7,8,9] [(0,.eff [1])] (h:=?_)|refine cq ae ?_|refine cq aa ?_|refine cq ac ?_|refine cq ab ?_|refine cq ad ?_|refine cq hSa ?_)
  refine G.open az (by(repeat(first|exact Ae.here|apply Ae.there))) ?_;repeat(refine sA ?_;intros)
  rename_i p' al c' bf;have av:Vec 53 2 p' (m1+(i+1)) al ((ah++(ag.take (i+1)).map (Pt s)).flatMap ecl) c':=by rw[be];exact bf
  refine Dn.close az (by(repeat(first|exact Ae.here|apply Ae.there))) (by(repeat(first|exact Ae.here|apply Ae.there))) ?_;refine Dn.round ⟨i+1,p',al,c'⟩ ⟨cw,av⟩ oD
 obtain rfl:i=m2:=by omega
 rw[A5 oM] at hw;have bg:Ct AC 28 [Z9 Z8 9] [] fun v H'=>
  ∃bw bd ba bs cd ca cs,v=pv bw∧H'=[Ab bw bd ba bs,cd,ca,cs]∧Wc bd ba bs (wk0 10 9000 90) cd ca cs:=Th 9 oM
 have b4:∀e∈ah++ag.map (Pt s),inE (K:Int) e:=by
  intro e h;rcases List.mem_append.1 h with h|h
  ·have:=au e h;unfold inE at this⊢;omega
  ·obtain⟨d,hd,rfl⟩:=List.mem_map.1 h;have:=am d hd;unfold inE at this⊢;unfold Pt;dsimp only;omega
 have aw:=fun bw bd ba bs cd ca cs hW=>nN bw bd ba bs 90 oM cd ca cs hW N1 oM p1 m1 ai ah c1 a2 oM au (Rj oM) A bk a0;have ax:=fun bw bd ba bs cd ca cs hW=>nN bw bd ba bs 90 oM cd ca cs hW N2 oM p2 i aj ag c2 a1 oM am (Rj oM) A bp az;have ay:=fun bw bd ba bs cd ca cs hW=>Tl bw bd ba bs 90 oM cd ca cs hW K oM w (m1+i) wc (ah++ag.map (Pt s)) wh (Rw.ofVec Iw hw oM) oM b4 (Rj (by rw[List.length_append,List.length_map];omega));unfold gv at aw ax ay;repeat(refine sA ?_;intros)
 refine cX bg ?_;rintro _ _ ⟨bw,bd,ba,bs,cd,ca,cs,rfl,rfl,hW⟩;try dsimp only[AA,AB]
 refine nx ?_;have aw:=aw bw bd ba bs cd ca cs hW;repeat(refine sA ?_;intros)
 refine cX aw ?_;rintro _ _ ⟨d9,ea,eb,c5,c6,c7,ec,ee,x1,rfl,rfl,b6,ef,c8⟩;try dsimp only[AA,AB]
 refine nx ?_;repeat(refine sA ?_;intros)
 refine cX bg ?_;rintro _ _ ⟨c9,da,db,dc,dd,de,df,rfl,rfl,dg⟩;try dsimp only[AA,AB]
 refine nx ?_;have ax:=ax c9 da db dc dd de df dg;repeat(refine sA ?_;intros)
 refine cX ax ?_;rintro _ _ ⟨eg,eh,ei,dh,di,dj,ej,ek,x2,rfl,rfl,bh,el,dk⟩;try dsimp only[AA,AB]
 refine nx ?_;repeat(refine sA ?_;intros)
 refine cX bg ?_;rintro _ _ ⟨dl,dm,dp,dq,dr,ds,dt,rfl,rfl,du⟩;try dsimp only[AA,AB]
 refine nx ?_;have ay:=ay dl dm dp dq dr ds dt du;repeat(refine sA ?_;intros)
 refine cX ay ?_;rintro _ _ ⟨em,en,eo,b7,b8,b9,ep,et,x3,rfl,rfl,cg,eu,av⟩;try dsimp only[AA,AB]
 refine nx ?_;have a3:=cg.uniq (a6 b6 bh).2;have dw:∀t∈x2,0≤t.c0∧t.c0<20∧0≤t.c1∧t.c1<20:=fun t ht=>by obtain⟨i',k',h1,h2,rfl,_⟩:=(bh.mem t).1 ht;dsimp only;omega
 rw[an] at a3;clear b6 bh cg a6 aw ax ay;repeat(refine sA ?_;intros)
 refine G.loop (X:=BaX) (fun x=>x.i≤x2.length∧Vec 33 5 x.p (x1.length+x.i) x.cap (flat (x1++(x2.take x.i).map (shB m1))) x.ch)
  (fun x=>[(16,Z9 Z8 x.i),(7,.slice x.p (x1.length+x.i) x.cap),(10,.slice dh x2.length di),(13,.slice b7 x3.length b8),(9,Z9 Z8 0),(12,Z9 Z8 0),(15,Z9 Z8 0),(2,pv b2)])
  (fun x=>[x.ch,dj,b9,[(b2,row [Z9 Z8 N1,.slice p1 m1 ai] 24)],A]) (fun x=>x2.length-x.i) ⟨0,c5,c6,c7⟩ ⟨AT _,by simpa using c8⟩ (body:=?_)
 rintro⟨j,w2,dx,dy⟩ ⟨hj,bi⟩;dsimp only at hj bi⊢;by_cases dz:j<x2.length
 ·obtain⟨bb,a5,csb,Tb,ew,rfl,rfl,_,ak⟩:=(RV.rw (RV.vec dk)).pos Ds oM;have a4:x2[j]? =some x2[j]:=AG oM;have g0:csb[a5+j*5]? =some (Z9 Z8 x2[j].c0):=ak j 0 _ _ a4 rfl;have g1:csb[a5+j*5+1]? =some (Z9 Z8 x2[j].c1):=ak j 1 _ _ a4 rfl;have ey:=dw _ (List.mem_of_getElem? a4);have bc:x2.take (j+1)=x2.take j++[x2[j]]:=by rw[BP,a4];rfl
  generalize x2[j]=t at*;have cz:x1.length+j+1≤maxLen:=by simp only[maxLen];omega
  have u0:AL .i64 (t.c0+(m1:Int))=t.c0+(m1:Int):=Ah oM;have u1:AL .i64 (t.c1+(m1:Int))=t.c1+(m1:Int):=Ah oM;have be:flat (x1++(x2.take (j+1)).map (shB m1))=flat (x1++(x2.take j).map (shB m1))++[Z9 Z8 (t.c0+(m1:Int)),Z9 Z8 (t.c1+(m1:Int)),Z9 Z8 0,Z9 Z8 0,Z9 Z8 0]:=by rw[bc,AY,←AV,flat_append];rfl
  repeat(refine sA ?_;intros)
  rename_i p' al c' bf;have av:Vec 33 5 p' (x1.length+(j+1)) al (flat (x1++(x2.take (j+1)).map (shB m1))) c':=by rw[be];exact bf
  refine Dn.round ⟨j+1,p',al,c'⟩ ⟨dz,av⟩ oD
 obtain rfl:j=x2.length:=by omega
 rw[A5 (Nat.le_refl _)] at bi;have a3:x3=x1++x2.map (shB m1):=a3;have hSa:=iG w2 (x1.length+x2.length) dx _ dy (RV.vec bi) oM b7 x3.length b8 x3 b9 (RV.vec av);rw[decide_eq_true a3.symm] at hSa;repeat(refine sA ?_;intros)
 (refine dP [A] ?_;exact⟨rfl,rfl⟩)
end Go.Proofs.YtaofijjjheiknaaGreat
