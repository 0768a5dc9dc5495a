/-
  Parts of the proof, put together: BiconTells0. No condition.
-/
import Derived.Test.YtaofijjjheiknaaGreatP15
set_option linter.unusedVariables false
set_option linter.unusedSimpArgs false
set_option linter.unnecessarySimpa false
set_option maxHeartbeats 4000000
open Bool renaming true_and→EM
open Go.IntKind renaming wrap→AL
open Go.Proofs.Tryz renaming prog→AC
open List renaming cons_append→AA,nil_append→AB,mem_range→A9,mem_filter→BV
open Nat renaming reduceAdd→AD
open Go.Proofs.Tryz
open Go.Value renaming int→Z9
open Go.IntKind renaming i64→Z8
namespace Go.Proofs.YtaofijjjheiknaaGreat
open Go.SL Go.Spc Go.Tup Go.Srt Go.Gr
theorem F2 {N m:Nat} {es:List IE} {ls:List (List Int)} {lab:List Int} {fl:List Bool} {r b:List T5} {tl:List (Nat×Fo)} {l o:List T5} {nm:List Int} (X:BcX N es ls lab fl r b tl l) (hL:Ix N es fl l o) (hm:es.length=m) (ag:m≤1000000) {lab2:List Int} (h2:Ee (gE (peB es fl l o)) (fun i=>i<(peB es fl l o).length) N (-1) lab2) (hN:Qv N m es ls nm):Gy l (edT es) (Bb lab2)=Kg nm m:=by
 have ac:∀z,z∈Kg nm m↔∃i:Nat,i<m∧0≤Fv nm i∧z=⟨(i:Int),Fv nm i,0,0,0⟩:=fun z=>by
  unfold Kg;rw[List.mem_map];constructor
  ·rintro⟨i,hi,rfl⟩;rw[BV,A9] at hi;exact⟨i,hi.1,of_decide_eq_true hi.2,rfl⟩
  ·rintro⟨i,hi,h,rfl⟩;exact⟨i,BV.2 ⟨A9.2 hi,decide_eq_true h⟩,rfl⟩
 refine cZ (nF es _) ?_ fun z=>?_
 ·unfold Kg;rw[List.pairwise_map];exact(List.pairwise_lt_range.filter _).imp fun h=>by dsimp only;omega
 ·rw[nE X hL oM h2,ac];constructor
  ·rintro⟨i,k,hi,hk,rfl,ab,ad,hs,aa⟩;obtain⟨_,k',h3,h4,h5,h6,h7⟩:=hN.of (i:=i) oM (hN.some_ oM ab);have ae:k=k':=by
    rcases Nat.lt_trichotomy k k' with h|h|h
    ·exact absurd hs (h7 k h ad)
    ·exact h
    ·exact absurd h6 (aa k' h h5)
   subst ae;exact⟨i,oM,oM,by rw[h3]⟩
  ·rintro⟨i,hi,h0,rfl⟩;obtain⟨ab,k,h3,h4,h5,h6,h7⟩:=hN.of hi oM;exact⟨i,k,oM,oM,by rw[h3],ab,h5,h6,h7⟩
theorem F3 (n:Int) (p:Option Addr) (m cap:Nat) (es:List IE) (c:Aa) (hv:Rw ecl 2 p m es c) (hm:m≤maxLen) (e:Nat) (he:e<256):CtQ AC 11 [gv n p m cap,.int .u8 (e:Int)] [c] (.bool true):=by
 have ab:=Vb;have am:=hv.1;have aa:=nI n p m cap es c hv hm;obtain⟨k,hk⟩:∃k:Nat,k=e%33:=⟨_,rfl⟩
 have e5:(e:Int).tmod 33=(k:Int):=by rw[Int.tmod_eq_emod_of_nonneg oM];omega
 have e4:AL .i64 ((e:Int).tmod 33)=(k:Int):=by rw[e5];exact Ah oM
 have e6:AL .i64 (8+(k:Int))=((8+k:Nat):Int):=by rw[Ah oM];omega
 have ay:k<33:=oM;clear hk;have an:Ct AC 28 [Z9 Z8 ((8+k:Nat):Int)] [] fun v H'=>
  ∃bw bd ba bs cd ca cs,v=pv bw∧H'=[Ab bw bd ba bs,cd,ca,cs]∧Wc bd ba bs (wk0 10 9000 (10*(8+k))) cd ca cs:=Th (8+k) oM
 by_cases hs:Gc n es=true∧n≤24∧(m:Int)≤45;rotate_left
 ·have aa:=aa false (by
   cases hfm:Gc n es with
   |false=>rfl
   |true=>rw[EM,decide_eq_false fun h=>hs ⟨hfm,h⟩])
  unfold gv at aa⊢;refine cG func11 fun _=>?_;repeat(refine sA ?_;intros)
  (refine dP [c] ?_;exact⟨rfl,rfl⟩)
 obtain⟨hfm,ai⟩:=hs;have aa:=aa true (by rw[hfm,EM,decide_eq_true ai]);obtain⟨h0,ad⟩:=Yg hfm;obtain⟨N,rfl⟩:∃N:Nat,n=(N:Int):=⟨n.toNat,oM⟩
 have hB:=fun bw bd ba bs cd ca cs hW=>dG bw bd ba bs (10*(8+k)) oM cd ca cs hW N oM p m cap es c hv oM ad (Rj oM);have aj:=yI N oM p m cap es c hv oM ad;unfold gv at aa hB aj⊢;refine cG func11 fun _=>?_;repeat(refine sA ?_;intros)
 refine cL an ?_;rintro _ _ ⟨bw,bd,ba,bs,cd,ca,cs,rfl,rfl,hW⟩;try dsimp only[AA,AB]
 have hB:=hB bw bd ba bs cd ca cs hW;repeat(refine sA ?_;intros)
 refine cL hB ?_;rintro _ _ ⟨az,ao,aq,W1,po,nl,oc,co,bz,qf,fs,lab,fl,r,bt,tl,l,o,lab2,rfl,rfl,ae,hT,au,ak,al⟩;try dsimp only[AA,AB]
 obtain⟨bo,ag⟩:∃bo,Gy l (edT es) (Bb lab2)=bo:=⟨_,rfl⟩
 have ac:Unit→Gy l (edT es) (Bb lab2)=bo:=fun _=>ag;rw[ag] at ak al;clear ag;repeat(refine sA ?_;intros)
 refine cL aj ?_;rintro _ _ ⟨pb,nb,kb,cb,nm,ls,rfl,rfl,ah,hA,av⟩;try dsimp only[AA,AB]
 have hX:=F2 (o:=o) ⟨hA,ad,hT.parts,hT.tab,oM⟩ hT.lows am oM hT.lb av;rw[ac ()] at hX;have aw:=ah.1;have ax:=yH nm m;rw[←hX] at ah aw ax;clear hX ac;subst ak;have hSa:=iG po bo.length oc bo co (RV.vec al) oM pb nb kb bo cb ah;rw[decide_eq_true rfl] at hSa;have hCl:=FH bw bd ba bs W1 ao aq ae.ar ae.sp (some ⟨bz,0,none⟩) 5 5 fs qf au oM hT.used (FG ae hT.live hT.n);repeat(refine sA ?_;intros)
 (refine dP [c] ?_;exact⟨rfl,rfl⟩)
end Go.Proofs.YtaofijjjheiknaaGreat
