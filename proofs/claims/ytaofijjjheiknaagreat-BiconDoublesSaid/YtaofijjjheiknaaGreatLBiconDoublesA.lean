/-
  Parts of the proof, put together: BiconDoubles0. No condition.
-/
import Derived.Test.YtaofijjjheiknaaGreatP15
set_option linter.unusedVariables false
set_option linter.unusedSimpArgs false
set_option linter.unnecessarySimpa false
set_option maxHeartbeats 4000000
open Bool renaming true_and→EM
open Go.Proofs.Tryz renaming prog→AC
open List renaming cons_append→AA,nil_append→AB,getElem?_append_right→BE
open Nat renaming reduceAdd→AD,le_refl→AI,zero_add→BR,sub_self→DS
open Go.Proofs.Tryz
open Go.Value renaming int→Z9
open Go.IntKind renaming i64→Z8
namespace Go.Proofs.YtaofijjjheiknaaGreat
open Go.SL Go.Spc Go.Tup Go.Srt Go.Gr
structure DbX where
 p:Option Addr
 cap:Nat
 ch:Aa
theorem Rw.pos2 {α:Type} {f:α→List Value} {k:Nat} (hf:∀a,(f a).length=k) {p:Option Addr} {m:Nat} {xs:List α} {c:Aa} (h:Rw f k p m xs c) (hm:0<m):∃b off cs T fz,p=some ⟨b,off,none⟩∧c=[(b,Al cs T fz)]∧(cs.drop off).take (m*k)=xs.flatMap f∧∀i j a v,xs[i]? =some a→(f a)[j]? =some v→cs[off+i*k+j]? =some v:=by
 obtain⟨hl,⟨h0,_⟩|⟨b,off,cs,T,fz,rfl,rfl,h⟩⟩:=h
 ·omega
 ·refine⟨b,off,cs,T,fz,rfl,rfl,h,fun i j a v hi hj=>?_⟩;have:=aY hf hi hj [];rw[List.append_nil] at this;rw[Nat.add_assoc];exact jR h this
theorem GI (n:Int) (p:Option Addr) (m cap:Nat) (es:List IE) (c:Aa) (hv:Rw ecl 2 p m es c) (hm:m≤maxLen) (a:Nat) (ha:a<256):CtQ AC 6 [gv n p m cap,.int .u8 (a:Int)] [c] (.bool true):=by
 have ab:=Vb;have an:=hv.1;have aa:=nI n p m cap es c hv hm;have ay:Ct AC 28 [Z9 Z8 9] [] fun v H'=>
  ∃bw bd ba bs cd ca cs,v=pv bw∧H'=[Ab bw bd ba bs,cd,ca,cs]∧Wc bd ba bs (wk0 10 9000 90) cd ca cs:=Th 9 oM
 by_cases hs:Gc n es=true∧n≤24∧(m:Int)≤45;rotate_left
 ·have aa:=aa false (by
   cases hfm:Gc n es with
   |false=>rfl
   |true=>rw[EM,decide_eq_false fun h=>hs ⟨hfm,h⟩])
  unfold gv at aa⊢;refine cG func6 fun _=>?_;repeat(refine sA ?_;intros)
  (refine dP [c] ?_;exact⟨rfl,rfl⟩)
 obtain⟨hfm,az⟩:=hs;have aa:=aa true (by rw[hfm,EM,decide_eq_true az]);obtain⟨h0,ag⟩:=Yg hfm;obtain⟨N,rfl⟩:∃N:Nat,n=(N:Int):=⟨n.toNat,oM⟩
 by_cases cz:(m:Int)=0
 ·unfold gv at aa⊢;refine cG func6 fun _=>?_;repeat(refine sA ?_;intros)
  (refine dP [c] ?_;exact⟨rfl,rfl⟩)
 by_cases cm:(44:Int)<(m:Int)
 ·unfold gv at aa⊢;refine cG func6 fun _=>?_;repeat(refine sA ?_;intros)
  (refine dP [c] ?_;exact⟨rfl,rfl⟩)
 have ah:=fun bw bd ba bs cd ca cs hW=>Tl bw bd ba bs 90 oM cd ca cs hW N oM p m cap es c hv oM ag (Rj oM);have ra:(a:Int).tmod (m:Int)=((a%m:Nat):Int):=by rw[Int.tmod_eq_emod_of_nonneg oM];rfl
 have rt:((a:Int).tmod (m:Int)).toNat=a%m:=by rw[ra];exact Int.toNat_natCast _
 have la:a%m<m:=Nat.mod_lt _ oM;generalize a%m=k at*;obtain⟨b,off,ad,T,fz,rfl,rfl,ao,al⟩:=hv.pos2 Iw oM;have aq:es[k]? =some (Ai es k):=Ky oM;have q0:ad[off+k*2]? =some (Z9 Z8 (Ai es k).1):=al k 0 _ _ aq rfl;have q1:ad[off+k*2+1]? =some (Z9 Z8 (Ai es k).2):=al k 1 _ _ aq rfl;have ac:=ag _ (List.mem_of_getElem? aq);have a0:Aq es k↔(Ai es k).1≠(Ai es k).2:=Iff.rfl;have hD:=fun (x y:List T5) hx hy hn=>FW (a:=x) (b:=y) ag (k:=k) oM hn hx hy;have am:∀e∈es++[((Ai es k).2,(Ai es k).1)],inE N e:=by
  intro e he;rcases List.mem_append.1 he with he|he
  ·exact ag e he
  ·rw[List.mem_singleton.1 he];exact⟨ac.2.2.1,ac.2.2.2,ac.1,ac.2.1⟩
 generalize Ai es k=ek at*;obtain⟨eu,ev⟩:=ek;dsimp only at q0 q1 a0 hD am;unfold gv at aa ah⊢;by_cases a1:eu=ev
 ·subst a1;refine cG func6 fun _=>?_;repeat(refine sA ?_;intros)
  (refine dP [[(b,Al ad T fz)]] ?_;exact⟨rfl,rfl⟩)
 have a9:(ad.drop off).take (m*2)=es.flatMap ecl:=ao;have cu:(es.flatMap ecl).length=m*2:=by rw[nQ,an]
 have cw:=nP es;have c5:Vec 53 2 none 0 0 [] []:=Vec.nil _ _;have c6:m+1≤maxLen:=by simp only[maxLen];omega
 have bc:(es++[(ev,eu)]).flatMap ecl=es.flatMap ecl++[Z9 Z8 ev,Z9 Z8 eu]:=by rw[List.flatMap_append];rfl
 refine cG func6 fun _=>?_;repeat(refine sA ?_;intros)
 rename_i b2 b6 q qc c7 hq bt q2 be a2 a3;rw[BR,AB,←bc] at a3;rw[BR];have ai:=fun bw bd ba bs cd ca cs hW=>Tl bw bd ba bs 90 oM cd ca cs hW N oM q2 (m+1) be _ a2 (Rw.ofVec Iw a3 oM) oM am (Rj (by rw[List.length_append,an,List.length_singleton];omega));unfold gv at ai;refine cX ay ?_;rintro _ _ ⟨bw,bd,ba,bs,cd,ca,cs,rfl,rfl,hW⟩;try dsimp only[AA,AB]
 refine nx ?_;have ah:=ah bw bd ba bs cd ca cs hW;repeat(refine sA ?_;intros)
 refine cX ah ?_;rintro _ _ ⟨c8,c9,da,po,oc,co,bq,qf,b1,rfl,rfl,a4,db,au⟩;try dsimp only[AA,AB]
 refine nx ?_;repeat(refine sA ?_;intros)
 refine cX ay ?_;rintro _ _ ⟨bf,bg,bh,bi,bk,bp,bu,rfl,rfl,bv⟩;try dsimp only[AA,AB]
 refine nx ?_;have ai:=ai bf bg bh bi bk bp bu bv;repeat(refine sA ?_;intros)
 refine cX ai ?_;rintro _ _ ⟨dc,dd,de,df,b3,dg,dh,di,b4,rfl,rfl,b5,dj,ae⟩;try dsimp only[AA,AB]
 refine nx ?_;obtain⟨x,hx,rfl⟩:=hD b1 b4 a4 b5 (a0.2 a1);rw[an] at ae⊢;have b7:(b1++[(⟨(m:Int),x,0,0,0⟩:T5)]).length=b1.length+1:=by simp
 rw[b7] at ae⊢;have dk:IntKind.wrap .i64 ((b1.length:Int)+1)=((b1.length+1:Nat):Int):=by rw[Ah oM];omega
 have au:=RV.vec au;have ae:=RV.vec ae;obtain⟨bo,av,aw,To,b8,rfl,rfl,b9,a5⟩:=(RV.rw ae).pos Ds oM;have z0:aw[av+b1.length*5]? =some (Z9 Z8 m):=a5 b1.length 0 _ _ (by rw[BE (AI _),DS];rfl) rfl;have z1:aw[av+b1.length*5+1]? =some (Z9 Z8 x):=a5 b1.length 1 _ _ (by rw[BE (AI _),DS];rfl) rfl;repeat(refine sA ?_;intros)
 refine G.loop (X:=Nat) (fun i=>i≤b1.length) (fun i=>[(13,Z9 Z8 i),(10,.slice (some ⟨bo,av,none⟩) (b1.length+1) b3),(7,.slice po b1.length oc),(5,Z9 Z8 ((a:Int).tmod (m:Int))),(2,pv b2)])
  (fun _=>[[(bo,Al aw To b8)],co,[(b2,row [Z9 Z8 N,.slice (some ⟨b,off,none⟩) m cap] 24)],[(b,Al ad T fz)]]) (fun i=>b1.length-i) 0 (Nat.zero_le _) (body:=?_)
 intro i hi;by_cases aj:i<b1.length;rotate_left
 ·obtain rfl:i=b1.length:=by omega
  repeat(refine sA ?_;intros)
  (refine dP [[(b,Al ad T fz)]] ?_;exact⟨congrArg Value.bool (Fj rfl),rfl⟩)
 obtain⟨bz,a6,a7,Tz,dl,rfl,rfl,cg,a8⟩:=(RV.rw au).pos Ds oM;have ak:b1[i]? =some b1[i]:=List.getElem?_eq_getElem aj;have g1:=cg i _ ak;have g2:=b9 i _ (by rw[List.getElem?_append_left aj];exact ak);have g3:a7[a6+i*5]? =some (Z9 Z8 b1[i].c0):=a8 i 0 _ _ ak rfl;have g4:a7[a6+i*5+1]? =some (Z9 Z8 b1[i].c1):=a8 i 1 _ _ ak rfl;have ci:b1[i].c0=(k:Int)→b1[i].c1=x:=fun h=>by
  have h1:=List.pairwise_iff_getElem.1 a4.rise;obtain⟨j,hj,ax⟩:=List.mem_iff_getElem.1 hx;rcases Nat.lt_trichotomy i j with h2|h2|h2
  ·have:=h1 i j aj hj h2;rw[ax] at this;dsimp only at this;omega
  ·subst h2;rw[ax]
  ·have:=h1 j i hj aj h2;rw[ax] at this;dsimp only at this;omega
 generalize b1[i]=t at*;by_cases cj:t.c0=(a:Int).tmod (m:Int)
 ·have:=ci (cj.trans ra);subst this;repeat(refine sA ?_;intros)
  refine Dn.round (i+1) oM oM
 ·repeat(refine sA ?_;intros)
  refine Dn.round (i+1) oM oM
end Go.Proofs.YtaofijjjheiknaaGreat
