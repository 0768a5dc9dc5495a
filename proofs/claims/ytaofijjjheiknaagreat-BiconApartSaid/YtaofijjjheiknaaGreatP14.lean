/-
  Parts of the proof, put together (14). No condition.
-/
import Derived.Test.YtaofijjjheiknaaGreatP13
set_option linter.unusedVariables false
set_option linter.unusedSimpArgs false
set_option linter.unnecessarySimpa false
set_option maxHeartbeats 4000000
open Go.IntKind renaming wrap→AL
open Go.Proofs.Tryz renaming prog→AC
open List renaming cons_append→AA,nil_append→AB,mem_cons_self→AE,mem_cons_of_mem→AF,length_append→AH,length_cons→AJ,mem_cons→AN,mem_map→AO,length_map→AQ,length_nil→AS,map_cons→AZ,mem_of_getElem?→A0,pairwise_map→A6,map_nil→CL,not_mem_nil→DP
open List.Perm renaming swap→CT
open Nat renaming reduceAdd→AD,le_refl→AI,zero_le→AT,le_trans→A7,mul_le_mul_right→BD
open Go.Proofs.Tryz
open Go.Value renaming int→Z9
open Go.IntKind renaming i64→Z8
namespace Go.Proofs.YtaofijjjheiknaaGreat
open Go.SL Go.Spc Go.Tup Go.Srt
def Tg (bj b8 b4 bc b5 bf:Nat) (fa fb f:Fl) (key:Nat):Hp:=[[(b8,row [pv bj] 84)],[(b4,row (fl4 fa) 42)],[(bc,row [Z9 Z8 key] 3)],[(b5,row (fl4 fb) 42)],[(bf,row (fl4 f) 42)]]
theorem lkLook (p:Jp) (fa fb f:Fl) (b8 b4 bc b5 bf:Nat) (J:Jb) (A T:Nat) (ts:List T5) (Rl:Fl→Int→Prop) (key to:Nat) (ah:f.width=to) (hL:Jl p J fa fb key 1 to A T ts Rl):Fg p J 196 [pv b8,pv b4,pv bc,pv b5,pv bf] (Tg p.bj b8 b4 bc b5 bf fa fb f key) A T none ts fun f' e Hx'=>Hx'=Tg p.bj b8 b4 bc b5 bf fa fb f key∧Rl f' e:=by
 subst ah;intro W cd ca cs held ph ac hW ai;have hL:=hL W cd ca cs held hW ai;have aa:=eQ0;have ab:=eQ2;rw[aa fa,aa fb] at hL;unfold Bq Tg;rw[ab fa,ab fb,ab f];refine cG func196 fun _=>?_;repeat(refine sv ?_;intros)
 refine cX hL ?_;rintro _ _ ⟨f',e,ad,ae,ag,W',rfl,rfl,aj,hS,hR⟩;dsimp only[AA,AB];refine nx ?_;rw[aa];repeat(refine sv ?_;intros)
 (refine dP [[(p.bj,row [pv p.bw,Z9 Z8 0,.slice ph held.length ac] 98)],Ab p.bw p.bd p.ba p.bs,ad,ae,ag,[(b8,row [pv p.bj] 84)],[(b4,row [Z9 Z8 fa.first,Z9 Z8 fa.blocks,Z9 Z8 fa.width,Z9 Z8 fa.count] 42)],[(bc,row [Z9 Z8 key] 3)],[(b5,row [Z9 Z8 fb.first,Z9 Z8 fb.blocks,Z9 Z8 fb.width,Z9 Z8 fb.count] 42)],[(bf,row [Z9 Z8 f.first,Z9 Z8 f.blocks,Z9 Z8 f.width,Z9 Z8 f.count] 42)]] ?_;exact⟨f',e,ad,ae,ag,W',_,rfl,rfl,aj,hS,rfl,hR⟩)
section
variable {p:Jp} {B m k a s0:Nat} {e:Int} {er:Option Nat} {Gf:List (Fl×List T5)} {C:Aa}
def Rb (p:Jp) (B k a s0:Nat) (e:Int) (er:Option Nat) (G':List (Fl×List T5)) (w col b c n:Nat) (hts ts:List T5) (v:Value) (H':Hp):Prop:=
 ∃g C' e',v=flv g∧H'=[C']∧Ap p B k a (s0+3) e' er ((g,Dt w col hts ts)::G') C'∧FB b c w n e' g∧(e'=0→e=0)
theorem cS (hR:Rm p B m k a) (hJ:Ap p B k a s0 0 er Gf C) (f0 f1 w f3:Nat) (fin:Fl) (ts hts:List T5) (G':List (Fl×List T5)) (col:Nat) (oc:Int) (F:T5→List T5) (hM:∀bf bc,Bx (Cs [[(bf,row [Z9 Z8 f0,Z9 Z8 f1,Z9 Z8 w,Z9 Z8 f3] 42)],[(bc,row [Z9 Z8 col] 3)]] F) w (fun _ t=>okT (w+1) t) 197 [] [pv bf,pv bc]) (ad:∀t,F t=[Kj w col t]) (ai:ordC col=⟨oc,0,0,0,0⟩) (ag:Gj ⟨oc,0,0,0,0⟩=true) (bu:AL .i64 ((col:Int)+1)=oc) (ak:∀l:List T5,(srt (ltO ⟨oc,0,0,0,0⟩) false l).Pairwise fun a c=>a.col col≤c.col col) (a0:col<w) (hw:1≤w∧w≤3) {b c n bi ci ni:Nat} (hF:FB b c w n 0 ⟨f0,f1,w,f3⟩) (a1:FB bi ci 2 ni 0 fin) (hP:Pk (⟨f0,f1,w,f3⟩,ts) Gf G') (ay:(fin,hts)∈G') (az:∀t∈ts,okT w t) (a3:ts.length=n) (al:∀t∈hts,okT 2 t) (ae:hts.Pairwise fun a c=>a.c0<c.c0) (hb:b≤1000) (bk:bi≤1000∧ci≤1000) (bq:b≤c∨(w≤3∧b≤2*c)) (aj:c≤B) (a2:b≤B) (hT:Ck c≤m) (hk:Gf.length+2≤k) (bp:s0≤9900):Ct AC 150 [pv p.bj,flv ⟨f0,f1,w,f3⟩,Z9 Z8 col,flv fin] [C] (Rb p B k a s0 0 er G' w col b c n hts ts):=by
 have aa:=eQ0;have ab:=eQ2;have a4:tv ⟨oc,0,0,0,0⟩= .agg #[Z9 Z8 oc,Z9 Z8 0,Z9 Z8 0,Z9 Z8 0,Z9 Z8 0]:=rfl;have hB:=hR.bs;have bv:f3=n:=(hF.ok rfl).2;have a5:=hF.cnt;dsimp only at a5;have a6:=hP.perm.length_eq;rw[AJ] at a6;have ah:=Gb hR hJ ⟨f0,f1,w,f3⟩ ts G' ⟨oc,0,0,0,0⟩ ag false hF hP hb aj hT oM;rw[aa,a4] at ah;dsimp only at ah;rw[aa,aa fin];dsimp only;refine cG func150 fun _=>?_;repeat(refine sA ?_;intros)
 repeat(refine sA ?_;intros)
 refine cX ah ?_;rintro _ _ ⟨g1,C1,e1,rfl,rfl,a7,am,bz⟩;dsimp only[AA,AB];refine nx ?_;try rw[aa]
 have an:=fun b8 b4 bc b5 bf=>Ks hR a7 196 inferInstance g1 fin (srt (ltO ⟨oc,0,0,0,0⟩) false ts) hts col 1 w (w+1) B oA5 (.inl (AF _ ay)) (fun J A T a8 R h=>lkLook p g1 fin ⟨f0,f1,w,f3⟩ b8 b4 bc b5 bf J A T a8 R col w rfl h) am (a1.mono fun _=>rfl) (by have:=am.blk;omega) a0 oM oM oM oM
  (fun _=>ak _) (fun _=>ae) (.inl a2) (AI _) (by simp only[AJ];omega) oM
 simp only[Tg,ab] at an;repeat(refine sA ?_;intros)
 refine cX (an _ _ _ _ _) ?_;rintro _ _ ⟨g2,C2,e2,rfl,rfl,a9,ao,b2⟩;dsimp only[AA,AB];refine nx ?_;try rw[aa]
 have bg:=ao.cnt;have bh:=ao.blk;have aq:=fun bf bc b=>Gn hR a9 _ F w f3 c 1 oM 197 inferInstance _ (okT (w+1)) (hM bf bc) (fun t _=>by rw[ad];exact AI _) oM g2 ((srt (ltO ⟨oc,0,0,0,0⟩) false ts).map (Bf hts col 1 w)) oA5 oM
  (fun _ t ht=>by
   obtain⟨u,hu,rfl⟩:=AO.1 ht;have:=Mj al col 1 w oM (az u (Ji hu));rwa[show max w (w+1)=w+1 by omega] at this) (fun _=>by rw[Ex ad,AQ,AQ,(Bt _).length_eq];omega) oM aj (by simp only[AJ];omega) oM b
 simp only[ab] at aq;repeat(refine sA ?_;intros)
 refine cX (aq _ _ _) ?_;rintro _ _ ⟨g3,C3,e3,rfl,rfl,be,ac,b3⟩;dsimp only[AA,AB];refine nx ?_;try rw[aa]
 have au:=fun b=>Ih hR be [(g1,srt (ltO ⟨oc,0,0,0,0⟩) false ts),(g2,(srt (ltO ⟨oc,0,0,0,0⟩) false ts).map (Bf hts col 1 w))] ((g3,_)::G') (.cons (.there (.there .here)) (.cons (.there .here) .nil)) oA19 _ 2 _ (Nw b g1 g2);simp only[ab,AZ,CL,AA,AB] at au;repeat(refine sA ?_;intros)
 refine cX (au _) ?_;rintro _ _ ⟨C4,rfl,rfl,av⟩;dsimp only[AA,AB];refine nx ?_;repeat(refine sA ?_;intros)
 have aw:((srt (ltO ⟨oc,0,0,0,0⟩) false ts).map (Bf hts col 1 w)).flatMap F=Dt w col hts ts:=by rw[Ex ad];unfold Dt;rw[ai]
 have ax:(Dt w col hts ts).length=n:=by unfold Dt;rw[AQ,AQ,(Bt _).length_eq];exact a3
 rw[aw] at av ac;rw[ax] at ac;(refine dP [C4] ?_;exact⟨g3,C4,e3,rfl,rfl,av,⟨by have:=ac.cnt;omega,ac.blk,ac.ok⟩,fun _=>rfl⟩)
theorem cT (hR:Rm p B m k a) (hJ:Ap p B k a s0 e er Gf C) (he:e≠0) (f fin:Fl) (ts hts:List T5) (G':List (Fl×List T5)) (col w:Nat) (oc:Int) (ac:Gj ⟨oc,0,0,0,0⟩=true) (ay:AL .i64 ((col:Int)+1)=oc) {b c n:Nat} (hF:FB b c w n e f) (hP:Pk (f,ts) Gf G') (hb:b≤1000) (ak:c≤B) (hT:Ck c≤m) (hk:Gf.length+2≤k) (ax:s0≤9900):Ct AC 150 [pv p.bj,flv f,Z9 Z8 col,flv fin] [C] (Rb p B k a s0 e er G' w col b c n hts ts):=by
 have aa:=eQ0;have ab:=eQ2;have al:tv ⟨oc,0,0,0,0⟩= .agg #[Z9 Z8 oc,Z9 Z8 0,Z9 Z8 0,Z9 Z8 0,Z9 Z8 0]:=rfl;have hz:=eQ1;have am:=hP.perm.length_eq;rw[AJ] at am;have ae:=Gb hR hJ f ts G' ⟨oc,0,0,0,0⟩ ac false hF hP hb ak hT oM;rw[aa,al] at ae;rw[aa,aa fin];refine cG func150 fun _=>?_;repeat(refine sA ?_;intros)
 repeat(refine sA ?_;intros)
 refine cX ae ?_;rintro _ _ ⟨g1,C1,e1,rfl,rfl,an,az,ao⟩;dsimp only[AA,AB];refine nx ?_;try rw[aa]
 have ag:e1≠0:=fun h=>he (ao h);have ah:=fun b8 b4 bc b5 bf=>SRun hR an 196 inferInstance [pv b8,pv b4,pv bc,pv b5,pv bf] (Tg p.bj b8 b4 bc b5 bf g1 fin f col) 0 0 1 none ((srt (ltO ⟨oc,0,0,0,0⟩) false ts).map (Bf hts col 1 w)) oM oM (b:=0) (c:=0) (w:=0) (n:=0) (fun h=>absurd h ag) oM (by simp only[AJ];omega);simp only[Tg,ab] at ah;repeat(refine sA ?_;intros)
 refine cX (ah _ _ _ _ _) ?_;rintro _ _ ⟨g2,C2,e2,rfl,rfl,ai,a0,aq⟩;dsimp only[AA,AB];refine nx ?_;try rw[aa]
 rw[Nx] at ai;have ad:e2≠0:=fun h=>ag (aq h);have au:=fun x1 x2 x3 x4=>lT ai ad (Dt w col hts ts) (by simp only[AJ];omega) x1 x2 x3 x4;repeat(refine sA ?_;intros)
 refine cX (au _ _ _ _) ?_;rintro _ _ ⟨C3,rfl,rfl,av⟩;dsimp only[AA,AB];rw[hz];refine nx ?_;have aj:=fun b=>Ih hR av [(g1,srt (ltO ⟨oc,0,0,0,0⟩) false ts),(g2,(srt (ltO ⟨oc,0,0,0,0⟩) false ts).map (Bf hts col 1 w))] ((⟨0,0,0,0⟩,_)::G') (.cons (.there (.there .here)) (.cons (.there .here) .nil)) oA19 _ 2 _ (Nw b g1 g2);simp only[ab,AZ,CL,AA,AB] at aj;repeat(refine sA ?_;intros)
 refine cX (aj _) ?_;rintro _ _ ⟨C4,rfl,rfl,aw⟩;dsimp only[AA,AB];refine nx ?_;repeat(refine sA ?_;intros)
 (refine dP [C4] ?_;exact⟨⟨0,0,0,0⟩,C4,e2,rfl,rfl,aw,⟨AT _,AT _,fun h=>absurd h ad⟩,fun h=>absurd h ad⟩)
theorem zN (l:List T5):(srt (ltO ⟨1,0,0,0,0⟩) false l).Pairwise fun a c=>a.col 0≤c.col 0:=Ul l
theorem mL (l:List T5):(srt (ltO ⟨2,0,0,0,0⟩) false l).Pairwise fun a c=>a.col 1≤c.col 1:=cE l
theorem Yb (hR:Rm p B m k a) (hJ:Ap p B k a s0 e er Gf C) (f fin:Fl) (ts hts:List T5) (G':List (Fl×List T5)) (col w:Nat) (al:(col=0∧w=3)∨(col=1∧w=3)∨(col=1∧w=2)) {b c n bi ci ni:Nat} (hF:FB b c w n e f) (ai:FB bi ci 2 ni e fin) (hP:Pk (f,ts) Gf G') (ae:(fin,hts)∈G') (ag:e=0→∀t∈ts,okT w t) (ak:e=0→ts.length=n) (ad:e=0→∀t∈hts,okT 2 t) (aa:e=0→hts.Pairwise fun a c=>a.c0<c.c0) (hb:b≤1000) (ah:bi≤1000∧ci≤1000) (am:b≤c∨b≤2*c) (ac:c≤B) (aj:b≤B) (hT:Ck c≤m) (hk:Gf.length+2≤k) (ab:s0≤9900):Ct AC 150 [pv p.bj,flv f,Z9 Z8 col,flv fin] [C] (Rb p B k a s0 e er G' w col b c n hts ts):=by
 have f1:Gj (⟨1,0,0,0,0⟩:T5)=true:=by decide
 have f2:Gj (⟨2,0,0,0,0⟩:T5)=true:=by decide
 by_cases he:e=0
 ·subst he;obtain⟨q0,q1,q2,q3⟩:=f;obtain rfl:q2=w:=(hF.ok rfl).1;rcases al with⟨rfl,rfl⟩|⟨rfl,rfl⟩|⟨rfl,rfl⟩
  ·exact cS hR hJ q0 q1 3 q3 fin ts hts G' 0 1 _ (fun bf bc=>lk30 bf bc q0 q1 q3) (lk30is q0 q1 q3) rfl f1 oA18 zN oM oM hF ai hP ae (ag rfl) (ak rfl) (ad rfl) (aa rfl) hb ah oM ac aj hT hk ab
  ·exact cS hR hJ q0 q1 3 q3 fin ts hts G' 1 2 _ (fun bf bc=>lk31 bf bc q0 q1 q3) (lk31is q0 q1 q3) rfl f2 oA18 mL oM oM hF ai hP ae (ag rfl) (ak rfl) (ad rfl) (aa rfl) hb ah oM ac aj hT hk ab
  ·exact cS hR hJ q0 q1 2 q3 fin ts hts G' 1 2 _ (fun bf bc=>lk21 bf bc q0 q1 q3) (lk21is q0 q1 q3) rfl f2 oA18 mL oM oM hF ai hP ae (ag rfl) (ak rfl) (ad rfl) (aa rfl) hb ah oM ac aj hT hk ab
 ·rcases al with⟨rfl,rfl⟩|⟨rfl,rfl⟩|⟨rfl,rfl⟩
  ·exact cT hR hJ he f fin ts hts G' 0 3 1 f1 oA18 hF hP hb ac hT hk ab
  ·exact cT hR hJ he f fin ts hts G' 1 3 2 f2 oA18 hF hP hb ac hT hk ab
  ·exact cT hR hJ he f fin ts hts G' 1 2 2 f2 oA18 hF hP hb ac hT hk ab
end
def nmT (i:Nat):T5:=⟨(i:Int),(i:Int),0,0,0⟩
def nmL (n:Nat):List T5:=(List.range n).map nmT
theorem mM (n:Nat):(nmL n).length=n:=by simp[nmL]
theorem zP (n:Nat):nmL (n+1)=nmL n++[nmT n]:=by unfold nmL;rw[List.range_succ,List.map_append];rfl
def Rc (bj b2 b3 n:Nat):Hp:=[[(b2,row [pv bj] 84)],[(b3,row [Z9 Z8 n] 3)]]
structure NucX where
 i:Nat
 W:Wk
 cd:Aa
 ca:Aa
 cs:Aa
 cx:Aa
 cb:Aa
theorem zQ (p:Jp) (hp:p.Ok) (J:Jb) (he:J.e=0) (n:Nat) (hn:n≤100000) (b2 b3:Nat) (A T:Nat) (hT:Ac p.size 2 n≤T) (au:Ql p J T) (hA:n+2≤A) (du:J.acts+A≤1000000000):Fg p J 185 [pv b2,pv b3] (Rc p.bj b2 b3 n) A T none (nmL n) fun f e Hx'=>Hx'=Rc p.bj b2 b3 n∧FB n (Ac p.size 2 n) 2 n e f:=by
 intro W cd ca cs held ph aa hW ac;obtain⟨⟨b5,dw⟩,_⟩:=hW.dev.num;have dx:=ac.used hp hW;have a4:=ac.big hW he au;have dr:=ac.acts;have b6:=Qh p.bw p.bd p.ba p.bs W cd ca cs hW 2 n oM oM oM oM;have dy:Ac W.δ.size 2 n≤T:=by rw[ac.size];exact hT
 have hz:=eQ1;have hh:1≤Ad W.δ.size 2:=Bp b5 oM oM;have ad:∀(W':Wk) (ai aj ak:Aa) (f:Fl) (e:Int),Wc p.bd p.ba p.bs W' ai aj ak→W'.α.gs.Perm W.α.gs→Ev W W' (n+2) (Ac W.δ.size 2 n)→Ax W.live W W'→
   ((e=0∧W'.live.Perm (Bc f W.live)∧f.width=2∧f.count=n∧Bg W'.δ.disk W.δ.size [f.ext] f (nmL n))∨(e=6∧f=⟨0,0,0,0⟩∧W.δ.fault≠-1∧W'.live.Perm W.live))→
   aO p W A T none (nmL n) (fun f e Hx'=>Hx'=Rc p.bj b2 b3 n∧FB n (Ac p.size 2 n) 2 n e f)
    (Bq p.bj p.bw 0 ph held.length aa) (.tuple #[flv f,Z9 Z8 e]) (Bq p.bj p.bw 0 ph held.length aa::Ab p.bw p.bd p.ba p.bs::ai::aj::ak::Rc p.bj b2 b3 n):=by
  intro W' ai aj ak f e h0 h1 h2 h3 h4;refine⟨f,e,ai,aj,ak,W',_,rfl,rfl,h0,⟨h1,h2.room,h2.size,h2.n,by have:=h2.acts.2;omega,by have:=h2.big;omega,h2.fault,h3,?_⟩,rfl,?_⟩
  ·rcases h4 with⟨a,b,_,_,c⟩|⟨a,b,c,d⟩
   ·exact .inl ⟨a,rfl,b,c⟩
   ·exact .inr ⟨oM,b,d,.inl ⟨a,c⟩⟩
  ·rcases h4 with⟨a,b,c1,c2,c⟩|⟨a,rfl,c,d⟩
   ·exact⟨oM,by rw[c.blk,c1,c2,ac.size];exact AI _,fun _=>⟨c1,c2⟩⟩
   ·exact⟨AT _,AT _,fun h=>by omega⟩
 unfold Bq Rc at ad⊢;refine Ct.introD func185 rfl ntmps185 (nle rfl) fun _=>?_;dsimp only[Dg,AD];repeat(refine sv ?_;intros)
 refine cX b6 ?_;rintro _ _ (⟨ds,bx,first,g,b7,b8,b9,W1,cx,cb,rfl,rfl,cg,ci,e1,e2,e3,e4,e5⟩|⟨cj,_⟩);rotate_left
 ·exact absurd a4 oM
 dsimp only[AA,AB];refine nx ?_;have dt:W1.δ.size=W.δ.size:=by rw[e1]
 repeat(refine sv ?_;intros)
 rename_i bz;refine G.loop (X:=NucX) (fun x=>x.i≤n∧Wc p.bd p.ba p.bs x.W x.cd x.ca x.cs∧Ev W x.W x.i (Ac W.δ.size 2 n)∧Ax W.live W x.W∧x.W.α.gs.Perm (g::W.α.gs)∧Bn first (Ac W.δ.size 2 n) W.live x.W.live∧Dr p.bw bx x.W first (Ac W.δ.size 2 n) 2 n g (nmL x.i) x.cx x.cb)
  (fun x=>[(23,Z9 Z8 x.i),(22,Z9 Z8 n),(4,pv bx),(2,pv bz),(1,pv b3),(0,pv b2)])
  (fun x=>[[(p.bj,row [pv p.bw,Z9 Z8 0,.slice ph held.length aa] 98)],Ab p.bw p.bd p.ba p.bs,x.cd,x.ca,x.cs,[(b2,row [pv p.bj] 84)],[(b3,row [Z9 Z8 n] 3)],x.cx,x.cb,[(bz,row [Z9 Z8 0,Z9 Z8 0,Z9 Z8 0,Z9 Z8 0] 42)]])
  (fun x=>n-x.i) ⟨0,W1,b7,b8,b9,cx,cb⟩ ⟨AT _,cg,ci,fun x _=>by rw[e1],e2,e4,e5⟩ (body:=?_)
 rintro⟨i,W2,a5,a6,a7,a8,a9⟩ ⟨hi,av,ab,al,aw,ax,ay⟩;dsimp only at hi av ab al aw ax ay⊢;have dz:=ab.acts.2;have ao:W2.δ.size=W.δ.size:=ab.size;have bc:1≤Ad W2.δ.size 2:=by rw[ao];exact hh
 by_cases be:i<n;rotate_left
 ·obtain rfl:i=n:=by omega
  have cm:=iZ p.bw p.bd p.ba p.bs W2 a5 a6 a7 av bx first (Ac W.δ.size 2 i) 2 i g (nmL i) a8 a9 ay W.α.gs aw W.live ax oM bc
  repeat(refine sv ?_;intros)
  refine cL cm ?_;rintro _ _ ⟨cu,cw,cz,W4,c5,c6,f,e,rfl,rfl,c7,c8,c9,da,db,hr⟩;try dsimp only[AA,AB]
  have dc:flv f= .agg #[Z9 Z8 f.first,Z9 Z8 f.blocks,Z9 Z8 f.width,Z9 Z8 f.count]:=rfl;rw[dc];have hD:=Sq p.bw p.bd p.ba p.bs W4 cu cw cz c7 bx first (Ac W.δ.size 2 i) 2 i g W.α.gs W4.live c5 c6 (.inr ⟨da,.refl _,db⟩)
  repeat(refine sv ?_;intros)
  refine Go.SL.Lv.call (hc:=hD) (h:=?_);rintro _ _ ⟨ae,ag,ah,W5,dd,de,rfl,az,a0,am,a1,an⟩;try dsimp only[AA,AB]
  have hE:=((ab.trans c8).trans a0).weak (k':=i+2) (m':=Ac W.δ.size 2 i) oM oM;have hK:=al.trans c9;have a2:Ax W.live W W5:=fun x hx=>by rw[am];exact hK x hx
  (refine lN [[(p.bj,row [pv p.bw,Z9 Z8 0,.slice ph held.length aa] 98)],Ab p.bw p.bd p.ba p.bs,ae,ag,ah,[(b2,row [pv p.bj] 84)],[(b3,row [Z9 Z8 i] 3)]] ?_;refine ad W5 ae ag ah f e az a1 hE a2 ?_);rw[ao,mM] at hr;rcases hr with⟨rfl,a3,df,dg,bf⟩|⟨rfl,rfl,dh,a3⟩
  ·exact .inl ⟨rfl,an.trans a3,df,dg,by rw[am];exact bf⟩
  ·exact .inr ⟨rfl,rfl,Nu ab dh,an.trans a3⟩
 have d0:AL .i64 ((i:Int)+1)=((i+1:Nat):Int):=by rw[Ah oM];omega
 have bg:=Put_w p.bw p.bd p.ba p.bs W2 a5 a6 a7 av bx first (Ac W.δ.size 2 n) 2 n g _ a8 a9 ay W.α.gs aw W.live ax (by rw[mM];exact be) (nmT i) (Ht (by unfold Bd;omega) (by unfold Bd;omega)) oM bc
 have di:tv (nmT i)= .agg #[Z9 Z8 i,Z9 Z8 i,Z9 Z8 0,Z9 Z8 0,Z9 Z8 0]:=rfl;rw[di] at bg;repeat(refine sv ?_;intros)
 refine cL bg ?_;rintro _ _ ⟨bh,bi,bk,W3,bp,bq,e,rfl,rfl,bu,dj,bv,dk⟩;try dsimp only[AA,AB]
 have aq:=ab.trans dj;rcases dk with⟨rfl,dl,dm,b4⟩|⟨rfl,dp,dq⟩
 ·repeat(refine sv ?_;intros)
  rw[←zP] at b4;exact Dn.round ⟨i+1,W3,bh,bi,bk,bp,bq⟩ ⟨be,bu,aq.weak (AI _) oM,al.trans bv,dl,dm,b4⟩ oD
 ·have hD:=Sq p.bw p.bd p.ba p.bs W3 bh bi bk bu bx first (Ac W.δ.size 2 n) 2 n g W.α.gs W.live bp bq dq
  repeat(refine sv ?_;intros)
  refine Go.SL.Lv.call (hc:=hD) (h:=?_);rintro _ _ ⟨ae,ag,ah,W5,dd,de,rfl,az,a0,am,a1,an⟩;try dsimp only[AA,AB]
  have hE:=(aq.trans a0).weak (k':=n+2) (m':=Ac W.δ.size 2 n) oM oM;have hK:=al.trans bv;have a2:Ax W.live W W5:=fun x hx=>by rw[am];exact hK x hx
  (refine lN [[(p.bj,row [pv p.bw,Z9 Z8 0,.slice ph held.length aa] 98)],Ab p.bw p.bd p.ba p.bs,ae,ag,ah,[(b2,row [pv p.bj] 84)],[(b3,row [Z9 Z8 n] 3)]] ?_;exact ad W5 ae ag ah ⟨0,0,0,0⟩ 6 az a1 hE a2 (.inr ⟨rfl,rfl,Nu ab dp,an⟩))
theorem zR {p:Jp} {B m k a s0:Nat} {e:Int} {er:Option Nat} {Gf:List (Fl×List T5)} {C:Aa} (hR:Rm p B m k a) (hJ:Ap p B k a s0 e er Gf C) (n c:Nat) (hn:n≤2*c) (ad:c≤B) (an:n≤1000) (hk:Gf.length+1≤k) (am:s0≤9900):Ct AC 146 [pv p.bj,Z9 Z8 n] [C] fun v H'=>∃f C' e',v=flv f∧H'=[C']∧Ap p B k a (s0+1) e' er ((f,nmL n)::Gf) C'∧FB n c 2 n e' f∧(e'=0→e=0):=by
 have hB:=hR.bs;have ao:=hR.acts;have hm:=hR.le;have h2:s0*30000≤10000*30000:=Nat.mul_le_mul oM (AI _);have aa:=nbS (s:=p.size) (w:=2) (n:=n) (c:=c) hR.ok.size.1 oM oM (.inr ⟨oM,hn⟩);have ab:=fun b2 b3=>SRun hR hJ 185 inferInstance [pv b2,pv b3] (Rc p.bj b2 b3 n) (n+2) c 1 none (nmL n) oM oM (b:=n) (c:=c) (w:=2) (n:=n) (fun he x y hx=>by
  subst he;have hS:=zQ p hR.ok ⟨0,er,Gf,x,y⟩ rfl n oM b2 b3 (n+2) c aa (hR.fits hJ.len hJ.blk oM _ _ _ _) (AI _) oD;intro W cd ca cs held ph cap h1 h2;refine(hS W cd ca cs held ph cap h1 h2).mono ?_;rintro v H' ⟨f,e,ae,ag,ah,W',ai,a1,a2,a3,a4,a5,a6⟩;exact⟨f,e,ae,ag,ah,W',ai,a1,a2,a3,a4,a5,⟨a6.cnt,A7 a6.blk aa,a6.ok⟩⟩) ad hk
 simp only[Rc,Nx] at ab;have ac:=eQ0;refine cG func146 fun _=>?_;repeat(refine sA ?_;intros)
 refine cX (ab _ _) ?_;rintro _ _ ⟨f1,C1,e1,rfl,rfl,aj,ak,al⟩;dsimp only[AA,AB];rw[ac];refine nx ?_;repeat(refine sA ?_;intros)
 (refine dP [C1] ?_;exact⟨f1,C1,e1,rfl,rfl,aj,ak,al⟩)
theorem Ap.perm {p:Jp} {B k a s0:Nat} {e:Int} {er:Option Nat} {Gf Gf':List (Fl×List T5)} {C:Aa} (h:Ap p B k a s0 e er Gf C) (hp:Gf.Perm Gf'):Ap p B k a s0 e er Gf' C:=by obtain⟨⟨W,cd,ca,cs,held,ph,cap,ch,h1,hW,hV,aa⟩,hl,hb⟩:=h;exact⟨⟨W,cd,ca,cs,held,ph,cap,ch,h1,hW,hV,{aa with ok:=fun h=>⟨(aa.ok h).1.trans hp,(aa.ok h).2⟩}⟩,by rw[←hp.length_eq];exact hl,fun x hx=>hb x (hp.mem_iff.2 hx)⟩
theorem Ap.more {p:Jp} {B k a s0 s1:Nat} {e:Int} {er:Option Nat} {Gf:List (Fl×List T5)} {C:Aa} (h:Ap p B k a s0 e er Gf C) (hs:s0≤s1):Ap p B k a s1 e er Gf C:=by have h1:s0*30000≤s1*30000:=BD _ hs;exact⟨h.job.weak rfl rfl rfl oD oD,h.len,h.blk⟩
theorem mN (x y z:Option Nat):(x.or y).or z=x.or (y.or z):=by cases x<;>rfl
theorem mO (t:T5):Pq t=[Pm t]:=by
 unfold Pq Pm;by_cases h1:t.c2=t.c3
 ·by_cases h2:t.c0<t.c1<;>simp[h1,h2]
 ·simp[h1]
def Im (n:Nat) (l:List T5):Option Nat:=if Ij n l then none else some 3
def Oj (n:Nat) (l:List T5):List T5:=srt (ltO o1) true ((Eo 0 n).all () l)
theorem cU (bn n:Nat):∀(l:List T5) (k:Unit),(Eo bn n).all k l=(Eo 0 n).all k l∧(Eo bn n).bad k l=(Eo 0 n).bad k l
 |[],_=>⟨rfl,rfl⟩
 |t::l,k=>by obtain⟨h1,h2⟩:=cU bn n l ();simp only[Am.all,Am.bad];rw[show(Eo bn n).next k t=() from rfl,h1,h2];exact⟨rfl,rfl⟩
theorem mP (n:Nat) (l:List T5):((Eo 0 n).bad () l).or (if(Oj n l).length≠l.length then some 3 else none)=Im n l:=by
 obtain⟨h1,h2⟩:=mI (bn:=0) (n:=n) (ts:=l) (k:=());unfold Im;rcases h2 with h2|h2
 ·have h3:=h1.1 h2;rw[h2];have e1:Oj n l=srt (ltO o1) true (l.map fun t=>(⟨t.c0,0,0,0,0⟩:T5)):=by unfold Oj;rw[mH h3]
  have e2:=jI (l.map fun t=>(⟨t.c0,0,0,0,0⟩:T5));rw[←e1,AQ,A6] at e2;show(if _ then _ else _)=_;by_cases h:(Oj n l).length=l.length
  ·rw[if_neg oA15,if_pos ⟨h3,e2.1 h⟩]
  ·rw[if_pos h,if_neg fun hh=>h (e2.2 hh.2)]
 ·rw[h2];show some 3=_;rw[if_neg];intro h;rw[h1.2 h.1] at h2;cases h2
section
variable {p:Jp} {B m k a s0:Nat} {e:Int} {er:Option Nat} {Gf:List (Fl×List T5)} {C:Aa}
theorem zV (hR:Rm p B m k a) (hJ:Ap p B k a s0 e er Gf C) (f:Fl) (l:List T5) (hl:In0 p (f,l)) (hw:f.width=3) (n q:Nat) (hq:f.count≤q) (aj:q≤B) (hT:Ck q≤m) (hn:n≤1073741824) (hk:Gf.length+2≤k) (a6:s0≤9900):Ct AC 145 [pv p.bj,Z9 Z8 n,flv f] [C] fun v H'=>∃g C' e',v=flv g∧H'=[C']∧Ap p B k a (s0+3) e' (er.or (Im n l)) ((g,Jx l)::Gf) C'∧FB q q 3 (Jx l).length e' g∧(e'=0→e=0):=by
 have aa:=eQ0;have ad:=eQ2;have ao:tv o1= .agg #[Z9 Z8 1,Z9 Z8 0,Z9 Z8 0,Z9 Z8 0,Z9 Z8 0]:=rfl;have hB:=hR.bs;obtain⟨aq,ab,au,ah,ai⟩:=Lm hl;dsimp only at aq ab au ah ai;rw[hw] at ab;have a7:f.blocks≤q:=by rw[au];exact A7 (En (Bp hR.ok.size.1 ah ai)) hq
 have a8:f.count=l.length:=aq.symm;have av:=fun bn b=>jE hR hJ (Eo bn n) () 1 f.count q 1 oM 183 inferInstance [pv bn] _ (zL bn n) (fun k t _=>mJ bn n k t) oM f l oA5 oM
  (fun _=>Am.oks_of (M:=Eo bn n) (I:=fun _=>True) (Q:=okT 3) (fun _ t _ h=>⟨h,trivial⟩) l () trivial ab) (fun _=>by have:=Am.all_len (n:=1) (mJ bn n) l ();omega) (.inl oM) aj oM oM b
 simp only[ad,chkC_C,(cU _ n l ()).1,(cU _ n l ()).2] at av;rw[aa f];refine cG func145 fun _=>?_;repeat(refine sA ?_;intros)
 repeat(refine sA ?_;intros)
 refine cX (av _ _) ?_;rintro _ _ ⟨f1,C1,e1,k1,rfl,rfl,a3,a4,aw⟩;dsimp only[AA,AB];refine nx ?_;try rw[aa]
 have ax:=Gb hR a3 f1 _ _ o1 rfl true a4 .here oM aj hT oM;rw[aa,ao,show srt (ltO o1) true ((Eo 0 n).all () l)=Oj n l from rfl] at ax;repeat(refine sA ?_;intros)
 refine cX ax ?_;rintro _ _ ⟨f2,C2,e2,rfl,rfl,ay,ak,az⟩;dsimp only[AA,AB];refine nx ?_;try rw[aa]
 have a5:=ak.cnt;have a9:=(aJ (lt:=ltO o1) (once:=true) ((Eo 0 n).all () l))
 have a0:∀{C4:Aa} {e4:Int},Ap p B k a (s0+2) e4 (er.or (Im n l)) Gf C4→(e4=0→e=0)→∀b,Ct AC 52 [pv p.bj,Z9 Z8 ((3:Nat):Int),Z9 Z8 f.count,.func (.func 184) #[] #[],.slice (some ⟨b,0,none⟩) 1 1] [C4,[(b,row [Z9 Z8 f.first,Z9 Z8 f.blocks,Z9 Z8 f.width,Z9 Z8 f.count] 42)]] (fun v H'=>∃g C' e',v=flv g∧H'=[C',[(b,row [Z9 Z8 f.first,Z9 Z8 f.blocks,Z9 Z8 f.width,Z9 Z8 f.count] 42)]]∧Ap p B k a (s0+3) e' (er.or (Im n l)) ((g,Jx l)::Gf) C'∧FB f.count q 3 (Jx l).length e' g∧(e'=0→e4=0)):=by
  intro C4 e4 h4 bc b;have h:=Gn hR h4 [] Qz 3 f.count q 1 oM 184 inferInstance [] (okT 3) ckE (fun t _=>by unfold Qz;split<;>simp) oM f l oA5 oM (fun _=>ab)
   (fun _=>by have:=Ss (f:=Qz) (n:=1) l (fun t _=>by unfold Qz;split<;>simp);omega) (.inl oM) aj oM oM b
  simp only[ad] at h;exact h
 by_cases be:f2.count=f.count
 ·have ag:=ay.orE (if(Oj n l).length≠l.length then some 3 else none) (fun h=>by
   have h1:=(ak.ok h).2;rw[if_neg oM])
  rw[mN,mP] at ag;have ae:=fun b=>Ih hR ag [(f2,Oj n l)] Gf (.cons .here .nil) oA19 _ 1 _ (Nv b f2);simp only[ad,AZ,CL,AA,AB] at ae;repeat(refine sA ?_;intros)
  refine cX (ae _) ?_;rintro _ _ ⟨C4,rfl,rfl,al⟩;dsimp only[AA,AB];refine nx ?_;repeat(refine sA ?_;intros)
  refine cX (a0 al (fun h=>(aw (az h)).1) _) ?_;rintro _ _ ⟨f5,C5,e5,rfl,rfl,am,ac,an⟩;dsimp only[AA,AB];refine nx ?_;try rw[aa]
  repeat(refine sA ?_;intros)
  (refine dP [C5] ?_;exact⟨f5,C5,e5,rfl,rfl,am,⟨A7 ac.cnt hq,ac.blk,ac.ok⟩,fun h=>(aw (az (an h))).1⟩)
 ·have a1:=SFail ay 3 oA18 oA18 (if(Oj n l).length≠l.length then some 3 else none) (fun h=>by
   have h1:=(ak.ok h).2;rw[if_pos oM])
  rw[mN,mP] at a1;repeat(refine sA ?_;intros)
  refine cX a1 ?_;rintro _ _ ⟨e3,C3,rfl,rfl,ag,a2⟩;dsimp only[AA,AB];refine nx ?_;have ae:=fun b=>Ih hR ag [(f2,Oj n l)] Gf (.cons .here .nil) oA19 _ 1 _ (Nv b f2);simp only[ad,AZ,CL,AA,AB] at ae;repeat(refine sA ?_;intros)
  refine cX (ae _) ?_;rintro _ _ ⟨C4,rfl,rfl,al⟩;dsimp only[AA,AB];refine nx ?_;repeat(refine sA ?_;intros)
  refine cX (a0 al (fun h=>absurd h a2) _) ?_;rintro _ _ ⟨f5,C5,e5,rfl,rfl,am,ac,an⟩;dsimp only[AA,AB];refine nx ?_;try rw[aa]
  repeat(refine sA ?_;intros)
  (refine dP [C5] ?_;exact⟨f5,C5,e5,rfl,rfl,am,⟨A7 ac.cnt hq,ac.blk,ac.ok⟩,fun h=>absurd (an h) a2⟩)
theorem Yc {E:List T5} (h:∀t∈E,okT 3 t):∀z∈An E,okT 3 z:=fun z hz=>by
 obtain⟨t,ht,rfl|rfl⟩:=Tf hz
 ·exact h _ ht
 ·have:=Dx (h t ht);exact Jd this.2.1 this.1 this.2.2.1
theorem zW (E:List T5):(An E).length≤2*E.length:=by unfold An;refine A7 (Xx _ _) ?_;rw[(Bt _).length_eq,cH];exact AI _
theorem zX (hR:Rm p B m k a) (f:Fl) (E:List T5) (hJ:Ap p B k a s0 e er ((f,E)::Gf) C) (q:Nat) (hF:FB q q 3 E.length e f) (au:e=0→EOk E) (bc:2*q≤B) (hT:Ck q≤m) (hk:Gf.length+6≤k) (c5:s0≤9900):Ct AC 147 [pv p.bj,flv f] [C] fun v H'=>∃g h C' e',v= .tuple #[flv g,flv h]∧H'=[C']∧Ap p B k a (s0+8) e' er ((h,Il E)::(g,An E)::(f,E)::Gf) C'∧FB (2*q) q 3 (An E).length e' g∧FB (2*q) q 2 (Il E).length e' h∧(e'=0→e=0):=by
 have aa:=eQ0;have ab:=eQ2;have av:tv o1= .agg #[Z9 Z8 1,Z9 Z8 0,Z9 Z8 0,Z9 Z8 0,Z9 Z8 0]:=rfl;have aw:tv oB= .agg #[Z9 Z8 2,Z9 Z8 0,Z9 Z8 0,Z9 Z8 0,Z9 Z8 0]:=rfl;have ax:tv oAC= .agg #[Z9 Z8 1,Z9 Z8 3,Z9 Z8 0,Z9 Z8 0,Z9 Z8 0]:=rfl;have hB:=hR.bs;have c6:=hF.cnt;have c7:=hF.blk;have c8:AL .i64 ((2:Int)*(f.count:Int))=((2*f.count:Nat):Int):=by rw[Ah oM];omega
 have ag:=fun b=>Gn hR hJ [] Ra 3 (2*f.count) q 2 oM 186 inferInstance [] (okT 3) hkB (fun t _=>AI _) oM f E oA5 oM (fun h=>(au h).ok)
  (fun h=>by rw[show E.flatMap Ra=Ja E from rfl,cH,(hF.ok h).2];exact AI _) (.inr ⟨oM,oM⟩) oM oA12 oM b
 simp only[ab] at ag;rw[show E.flatMap Ra=Ja E from rfl] at ag;rw[aa f];refine cG func147 fun _=>?_;repeat(refine sA ?_;intros)
 repeat(refine sA ?_;intros)
 refine cX (ag _) ?_;rintro _ _ ⟨f1,C1,e1,rfl,rfl,be,bf,ay⟩;dsimp only[AA,AB];refine nx ?_;try rw[aa]
 have az:=Gb hR be f1 _ _ oAC rfl false bf .here oM oM hT oM;rw[aa,ax] at az;repeat(refine sA ?_;intros)
 refine cX az ?_;rintro _ _ ⟨f2,C2,e2,rfl,rfl,bg,ah,a0⟩;dsimp only[AA,AB];refine nx ?_;try rw[aa]
 have cg:=ah.cnt;have ci:=ah.blk;have ai:e2=0→EOk E:=fun h=>au (ay (a0 h));have aj:=fun bl b=>aR hR bg (Od bl) (fun _ _=>rfl) (-1) 3 f2.count q 1 oM 187 inferInstance [pv bl] _ (fst_mk bl) (fun k t _=>by show(if _ then _ else _:List T5).length≤1;split<;>simp) oM f2 _ oA5 oM
  (fun h=>Am.oks_of (M:=Od bl) (I:=fun _=>True) (Q:=okT 3) (fun _ t _ h=>⟨h,trivial⟩) _ (-1) trivial (fun t ht=>by
   obtain⟨u,hu,rfl|rfl⟩:=Ms.1 (Ji ht)
   ·exact(ai h).ok _ hu
   ·have:=Dx ((ai h).ok u hu);exact Jd this.2.1 this.1 this.2.2.1))
  (fun h=>by rw[cQ];have:=Xx (-1) (srt (ltO oAC) false (Ja E));have:=(ah.ok h).2;omega) (.inr ⟨oM,oM⟩) oM oA12 oM b
 simp only[ab,fstM_C,cQ] at aj;rw[show Jc (-1) (srt (ltO oAC) false (Ja E))=An E from rfl] at aj;repeat(refine sA ?_;intros)
 refine cX (aj _ _) ?_;rintro _ _ ⟨f3,C3,e3,k3,rfl,rfl,bh,ac,a1⟩;dsimp only[AA,AB];refine nx ?_;try rw[aa]
 have cj:=ac.cnt;have a2:=ac.blk;have ak:e3=0→EOk E:=fun h=>ai (a1 h).1;have al:=fun b=>Gn hR bh [] hkSF 3 f3.count q 1 oM 188 inferInstance [] (okT 3) hkS (fun t _=>AI _) oM f3 (An E) oA5 oM (fun h=>Yc (ak h).ok)
  (fun h=>by rw[Ex (f:=hkSF) (g:=fun t=>t) (fun _=>rfl),AQ,(ac.ok h).2];exact AI _) (.inr ⟨oM,oM⟩) oM oA12 oM b
 simp only[ab] at al;rw[Ex (f:=hkSF) (g:=fun t=>t) (fun _=>rfl),Ww] at al;repeat(refine sA ?_;intros)
 refine cX (al _) ?_;rintro _ _ ⟨f4,C4,e4,rfl,rfl,bi,bk,bp⟩;dsimp only[AA,AB];refine nx ?_;try rw[aa]
 have a3:=Gb hR bi f4 _ _ oB rfl false bk .here oM oM hT oM;rw[aa,aw] at a3;repeat(refine sA ?_;intros)
 refine cX a3 ?_;rintro _ _ ⟨f5,C5,e5,rfl,rfl,bq,am,bu⟩;dsimp only[AA,AB];refine nx ?_;try rw[aa]
 have cm:=am.cnt;have cu:=am.blk;have ad:e5=0→e3=0:=fun h=>bp (bu h);have a4:=fun b8 b4 b5=>Ks hR bq 189 inferInstance f5 f3 (srt (ltO oB) false (An E)) (An E) 1 2 3 4 (2*q) oA5 oA5 (lkHook p f5 f3 b8 b4 b5) am (ac.mono ad) oM oM oM oM oM oM
  (fun _=>cE _) (fun h=>(ak (ad h)).cho.1) (.inl oM) bc oA12 oM
 simp only[Cr,ab] at a4;repeat(refine sA ?_;intros)
 refine cX (a4 _ _ _) ?_;rintro _ _ ⟨f6,C6,e6,rfl,rfl,a5,a6,an⟩;dsimp only[AA,AB];refine nx ?_;try rw[aa]
 rw[show(srt (ltO oB) false (An E)).map (Bf (An E) 1 2 3)=Oc E from rfl] at a5;have cw:=a6.cnt;have cz:=a6.blk;have a7:e6=0→EOk E:=fun h=>ak (ad (an h));have bv:(Oc E).length=(An E).length:=by unfold Oc;rw[AQ,(Bt _).length_eq]
 have ao:=fun b=>Gn hR a5 [] Pq 2 f3.count q 1 oM 190 inferInstance [] (okT 4) hkH (fun t _=>by unfold Pq;split<;>(try split)<;>simp) oM f6 (Oc E) oA5 oM
  (fun h z hz=>by
   unfold Oc at hz;obtain⟨u,hu,rfl⟩:=AO.1 hz;exact Mj (Yc (a7 h).ok) 1 2 3 oM (Yc (a7 h).ok u (Ji hu)))
  (fun h=>by rw[Ex (g:=Pm) mO,AQ,bv,(ac.ok (ad (an h))).2];exact AI _) (.inr ⟨oM,oM⟩) oM oA12 oM b
 simp only[ab] at ao;rw[Ex (g:=Pm) mO] at ao;repeat(refine sA ?_;intros)
 refine cX (ao _) ?_;rintro _ _ ⟨f7,C7,e7,rfl,rfl,bz,b2,b3⟩;dsimp only[AA,AB];refine nx ?_;try rw[aa]
 have a8:=Gb hR bz f7 _ _ o1 rfl false b2 .here oM oM hT oM;rw[aa,av,show srt (ltO o1) false ((Oc E).map Pm)=Il E from rfl] at a8;repeat(refine sA ?_;intros)
 refine cX a8 ?_;rintro _ _ ⟨f8,C8,e8,rfl,rfl,b6,aq,b7⟩;dsimp only[AA,AB];refine nx ?_;try rw[aa]
 have a9:=fun b=>Ih hR b6 [(f2,srt (ltO oAC) false (Ja E)),(f5,srt (ltO oB) false (An E)),(f6,Oc E)] ((f8,Il E)::(f3,An E)::(f,E)::Gf) (.cons (.there (.there (.there (.there .here)))) (.cons (.there (.there .here)) (.cons (.there .here) .nil))) oA19 _ 3 _ (vec3 b f2 f5 f6);simp only[ab,AZ,CL,AA,AB] at a9;repeat(refine sA ?_;intros)
 refine cX (a9 _) ?_;rintro _ _ ⟨C9,rfl,rfl,b9⟩;dsimp only[AA,AB];refine nx ?_;repeat(refine sA ?_;intros)
 have ae:e8=0→e3=0:=fun h=>ad (an (b3 (b7 h)));(refine dP [C9] ?_;exact⟨f3,f8,C9,e8,rfl,rfl,b9,⟨oM,a2,fun h=>ac.ok (ae h)⟩,⟨by have:=aq.cnt;omega,aq.blk,aq.ok⟩,fun h=>ay (a0 (a1 (ae h)).1)⟩)
end
section
variable {p:Jp} {B m k a s0:Nat} {e:Int} {er:Option Nat} {Gf:List (Fl×List T5)} {C:Aa}
theorem zY (hR:Rm p B m k a) (ff fc:Fl) (Fo ch:List T5) (hJ:Ap p B k a s0 e er ((ff,Fo)::(fc,ch)::Gf) C) (q:Nat) (hF:FB (2*q) q 1 Fo.length e ff) (ah:FB (2*q) q 3 ch.length e fc) (an:e=0→Fo.length+ch.length≤2*q) (aq:e=0→∀t∈Fo,okT 1 t) (ao:e=0→∀t∈ch,okT 3 t) (aw:2*q≤B) (hk:Gf.length+4≤k) (a0:s0≤9900):Ct AC 148 [pv p.bj,flv ff,flv fc] [C] fun v H'=>∃g C' e',v=flv g∧H'=[C']∧Ap p B k a (s0+2) e' er ((g,Fo++ch.map fun t=>⟨t.c2,0,0,0,0⟩)::(fc,ch)::Gf) C'∧FB (2*q) q 1 (Fo++ch.map fun t=>(⟨t.c2,0,0,0,0⟩:T5)).length e' g∧(e'=0→e=0):=by
 have ab:=eQ0;have ac:=eQ2;have hz:=eQ1;have hB:=hR.bs;have h1:=hF.cnt;have h2:=hF.blk;have h3:=ah.cnt;have h4:=ah.blk;have ai:=fun b=>Gn hR hJ [] jn1F 1 fc.count (2*q) 1 oM 191 inferInstance [] (okT 3) jn1 (fun t _=>AI _) oM fc ch oA5 oM ao
  (fun h=>by rw[Ex (f:=jn1F) (g:=fun t=>⟨t.c2,0,0,0,0⟩) (fun _=>rfl),AQ,(ah.ok h).2];exact AI _) (.inl oM) aw oA12 oM b
 simp only[ac] at ai;rw[Ex (f:=jn1F) (g:=fun t=>⟨t.c2,0,0,0,0⟩) (fun _=>rfl)] at ai;rw[ab ff,ab fc];refine cG func148 fun _=>?_;repeat(refine sA ?_;intros)
 repeat(refine sA ?_;intros)
 refine cX (ai _) ?_;rintro _ _ ⟨f1,C1,e1,rfl,rfl,au,aj,ad⟩;dsimp only[AA,AB];refine nx ?_;try rw[ab]
 have ay:=aj.cnt;have az:=aj.blk;have a1:AL .i64 ((ff.count:Int)+(f1.count:Int))=((ff.count+f1.count:Nat):Int):=by rw[Ah oM];omega
 by_cases aa:e1=0
 ·obtain⟨_,q1⟩:=hF.ok (ad aa);obtain⟨_,q2⟩:=aj.ok aa;rw[AQ] at q2;have an:=an (ad aa);have ag:=fun b=>SMap2 hR au (fun t=>t) 1 (ff.count+f1.count) q oM 192 inferInstance (okT 1) jn2 (fun t h=>h) ff f1 Fo (ch.map fun t=>⟨t.c2,0,0,0,0⟩) oA5 oA5 oM oM
   (fun h t ht=>by
    rcases List.mem_append.1 ht with ht|ht
    ·exact aq (ad aa) t ht
    ·obtain⟨u,hu,rfl⟩:=AO.1 ht;exact okT1 (Dx (ao (ad aa) u hu)).2.2.1)
   (fun h=>by rw[AQ];omega) (.inr ⟨oM,oM⟩) oM oA12 oM b
  simp only[ac,Ww,AA,AB] at ag;repeat(refine sA ?_;intros)
  refine cX (ag _) ?_;rintro _ _ ⟨f2,C2,e2,rfl,rfl,ak,al,ax⟩;dsimp only[AA,AB];refine nx ?_;try rw[ab]
  have ae:=fun b=>Ih hR ak [(ff,Fo),(f1,ch.map fun t=>⟨t.c2,0,0,0,0⟩)] ((f2,Fo++ch.map fun t=>⟨t.c2,0,0,0,0⟩)::(fc,ch)::Gf) (.cons (.there (.there .here)) (.cons (.there .here) .nil)) oA19 _ 2 _ (Nw b ff f1);simp only[ac,AZ,CL,AA,AB] at ae;repeat(refine sA ?_;intros)
  refine cX (ae _) ?_;rintro _ _ ⟨C3,rfl,rfl,am⟩;dsimp only[AA,AB];refine nx ?_;repeat(refine sA ?_;intros)
  have av:FB (2*q) q 1 (Fo++ch.map fun t=>(⟨t.c2,0,0,0,0⟩:T5)).length e2 f2:=by have h5:=al.cnt;rw[AH];exact⟨oM,al.blk,fun h=>by have:=al.ok h;rwa[AQ] at this⊢⟩
  (refine dP [C3] ?_;exact⟨f2,C3,e2,rfl,rfl,am,av,fun h=>ad (ax h)⟩)
 ·have ag:=fun x1 x2 x3 x4=>lT au aa (Fo++ch.map fun t=>(⟨t.c2,0,0,0,0⟩:T5)) (by simp only[AJ];omega) x1 x2 x3 x4;repeat(refine sA ?_;intros)
  refine cX (ag _ _ _ _) ?_;rintro _ _ ⟨C2,rfl,rfl,ak⟩;dsimp only[AA,AB];rw[hz];refine nx ?_;have ae:=fun b=>Ih hR ak [(ff,Fo),(f1,ch.map fun t=>⟨t.c2,0,0,0,0⟩)] ((⟨0,0,0,0⟩,Fo++ch.map fun t=>⟨t.c2,0,0,0,0⟩)::(fc,ch)::Gf) (.cons (.there (.there .here)) (.cons (.there .here) .nil)) oA19 _ 2 _ (Nw b ff f1);simp only[ac,AZ,CL,AA,AB] at ae;repeat(refine sA ?_;intros)
  refine cX (ae _) ?_;rintro _ _ ⟨C3,rfl,rfl,am⟩;dsimp only[AA,AB];refine nx ?_;repeat(refine sA ?_;intros)
  (refine dP [C3] ?_;exact⟨⟨0,0,0,0⟩,C3,e1,rfl,rfl,am,⟨AT _,AT _,fun h=>absurd h aa⟩,fun h=>absurd h aa⟩)
theorem zZ (h:List T5):(Ki h).length=h.length:=by unfold Ki;rw[AQ,(Bt _).length_eq]
theorem CU (b:Nat):∀(ts:List T5) (k:Bool),(∀t∈ts,okT 3 t)→(Oe b).oks (fun _ t=>okT 3 t) k ts:=fun ts k h=>Am.oks_of (M:=Oe b) (I:=fun _=>True) (Q:=okT 3) (fun _ t _ h=>⟨h,trivial⟩) ts k trivial h
structure RtcX where
 e:Int
 C:Aa
 f:Fl
 h:List T5
 j:Nat
 o:Bool
 b:Nat
theorem EI (hR:Rm p B m k a) (f:Fl) (H:List T5) (hJ:Ap p B k a s0 e er ((f,H)::Gf) C) (q:Nat) (hF:FB (2*q) q 2 H.length e f) (a5:e=0→∀j,(∀t∈Dj H j,okT 2 t)∧(Dj H j).Pairwise fun a c=>a.c0<c.c0) (an:e=0→∀j,9≤j→Pn (Dj H j)=false) (b6:2*q≤B) (hT:Ck q≤m) (hk:Gf.length+4≤k) (bz:s0≤9900):Ct AC 149 [pv p.bj,flv f] [C] fun v H'=>∃g h C' e',v=flv g∧H'=[C']∧Ap p B k a (s0+50) e' er ((g,h)::Gf) C'∧FB (2*q) q 2 h.length e' g∧(e'=0→e=0∧∃j,h=Dj H (j+1)∧Pn (Dj H j)=false):=by
 have aa:=eQ0;have ac:=eQ2;have ao:tv o1= .agg #[Z9 Z8 1,Z9 Z8 0,Z9 Z8 0,Z9 Z8 0,Z9 Z8 0]:=rfl;have aq:tv oB= .agg #[Z9 Z8 2,Z9 Z8 0,Z9 Z8 0,Z9 Z8 0,Z9 Z8 0]:=rfl;have hB:=hR.bs;rw[aa f];refine cG func149 fun _=>?_;repeat(refine sA ?_;intros)
 rename_i b2 b3 b4 b5;refine G.loop (X:=RtcX) (fun x=>Ap p B k a (s0+5*x.j) x.e er ((x.f,x.h)::Gf) x.C∧FB (2*q) q 2 x.h.length x.e x.f∧(x.e=0→e=0∧x.h=Dj H x.j)∧x.j≤10∧(x.e=0→0<x.j→Pn (Dj H (x.j-1))=x.o)∧(x.j=0→x.o=true))
  (fun x=>[(5,pv x.b),(4,pv b4),(3,pv b3),(2,pv b2)])
  (fun x=>[x.C,[(b2,row [pv p.bj] 84)],[(b3,row [Z9 Z8 x.f.first,Z9 Z8 x.f.blocks,Z9 Z8 x.f.width,Z9 Z8 x.f.count] 42)],[(b4,row [Z9 Z8 0,Z9 Z8 0,Z9 Z8 0,Z9 Z8 0] 42)],[(x.b,row [.bool x.o] 4)]])
  (fun x=>11-x.j) ⟨e,C,f,H,0,true,b5⟩ ⟨hJ,hF,fun h=>⟨h,rfl⟩,oD,fun _ h=>absurd h (Nat.lt_irrefl 0),fun _=>rfl⟩ (body:=?_)
 rintro⟨e0,C0,f0,h,j,o,b5⟩ ⟨ae,ab,ag,hj,ah,au⟩;dsimp only at ae ab ag hj ah au⊢;cases o with
 |false=>
  have av:0<j:=by
   rcases Nat.eq_zero_or_pos j with h|h
   ·exact absurd (au h) oA18
   ·exact h
  repeat(refine sA ?_;intros)
  (refine dP [C0] ?_;exact⟨f0,h,C0,e0,rfl,rfl,ae.more oM,ab,fun hh=>⟨(ag hh).1,j-1,by rw[show j-1+1=j by omega];exact(ag hh).2,ah hh av⟩⟩)
 |true=>
 obtain⟨ph,nh,pc,rest,ad⟩:=ae.row;by_cases aw:e0=0;rotate_left
 ·refine G.open ad (by(repeat(first|exact Ae.here|apply Ae.there))) ?_;repeat(refine sA ?_;intros)
  refine Dn.close ad (by(repeat(first|exact Ae.here|apply Ae.there))) (by(repeat(first|exact Ae.here|apply Ae.there))) ?_;(refine dP [C0] ?_;exact⟨f0,h,C0,e0,rfl,rfl,ae.more oM,ab,fun hh=>absurd hh aw⟩)
 subst aw;obtain⟨he,rfl⟩:=ag rfl;have b7:j≤9:=by
  rcases Nat.lt_or_ge 9 j with h1|h1
  ·have h2:=an he (j-1) oM;rw[ah rfl oM] at h2;cases h2
  ·exact h1
 obtain⟨ai,a6⟩:=a5 he j;have ax:=ab.cnt;have bk:=ab.blk;have ay:∀z∈Ki (Dj H j),okT 3 z:=fun z hz=>by unfold Ki at hz;obtain⟨u,hu,rfl⟩:=AO.1 hz;exact Mj ai 1 1 2 oM (ai u (Ji hu))
 have aj:=fun b=>Gn hR ae [] rtSF 2 f0.count q 1 oM 193 inferInstance [] (okT 2) rtS (fun t _=>AI _) oM f0 (Dj H j) oA5 oM (fun _=>ai)
  (fun h=>by rw[Ex (f:=rtSF) (g:=fun t=>t) (fun _=>rfl),AQ,(ab.ok h).2];exact AI _) (.inr ⟨oM,oM⟩) oM oA12 oM b
 simp only[ac] at aj;rw[Ex (f:=rtSF) (g:=fun t=>t) (fun _=>rfl),Ww] at aj;refine G.open ad (by(repeat(first|exact Ae.here|apply Ae.there))) ?_;repeat(refine sA ?_;intros)
 refine R1.close ad (by(repeat(first|exact Ae.here|apply Ae.there))) (by(repeat(first|exact Ae.here|apply Ae.there))) ?_;repeat(refine sA ?_;intros)
 refine cX (aj _) ?_;rintro _ _ ⟨f1,C1,e1,rfl,rfl,a7,a8,cg⟩;dsimp only[AA,AB];refine nx ?_;try rw[aa]
 have az:=Gb hR a7 f1 _ _ oB rfl false a8 .here oM oM hT oM;rw[aa,aq] at az;repeat(refine sA ?_;intros)
 refine cX az ?_;rintro _ _ ⟨f2,C2,e2,rfl,rfl,a9,ak,ci⟩;dsimp only[AA,AB];refine nx ?_;try rw[aa]
 have bp:=ak.cnt;have bq:=ak.blk;have a0:=fun b8 b4 b5=>Ks hR a9 194 inferInstance f2 f0 (srt (ltO oB) false (Dj H j)) (Dj H j) 1 1 2 3 q oA5 oA5 (zM p f2 f0 b8 b4 b5) ak (ab.mono fun _=>rfl) oM oM oM oM oM oM
  (fun _=>cE _) (fun h=>a6) (.inr ⟨oM,oM⟩) oM oA12 oM
 simp only[Cr,ac] at a0;repeat(refine sA ?_;intros)
 refine cX (a0 _ _ _) ?_;rintro _ _ ⟨f3,C3,e3,rfl,rfl,a1,a2,cj⟩;dsimp only[AA,AB];refine nx ?_;try rw[aa]
 rw[show(srt (ltO oB) false (Dj H j)).map (Bf (Dj H j) 1 1 2)=Ki (Dj H j) from rfl] at a1;have bu:=a2.cnt;have bv:=a2.blk;have al:=fun bt b=>aR hR a1 (Oe bt) (fun _ _=>rfl) false 2 f0.count q 1 oM 195 inferInstance [pv bt] _ (trn_mk bt) (fun k t _=>AI _) oM f3 (Ki (Dj H j)) oA5 oM
  (fun h=>CU bt _ _ ay) (fun h=>by rw[cR,AQ,zZ,(ab.ok rfl).2];exact AI _) (.inr ⟨oM,oM⟩) oM oA12 oM b
 simp only[ac,trnM_C,cR,mK,Bool.false_or] at al;rw[show((Ki (Dj H j)).any fun t=>decide (t.c1≠t.c2))=Pn (Dj H j) from rfl] at al;repeat(refine sA ?_;intros)
 refine cX (al _ _) ?_;rintro _ _ ⟨f4,C4,e4,k4,rfl,rfl,bc,be,bf⟩;dsimp only[AA,AB];refine nx ?_;try rw[aa]
 have a3:=Gb hR bc f4 _ _ o1 rfl false be .here oM oM hT oM;rw[aa,ao,show srt (ltO o1) false ((Ki (Dj H j)).map fun t=>(⟨t.c0,t.c2,0,0,0⟩:T5))=Dj H (j+1) from rfl] at a3;repeat(refine sA ?_;intros)
 refine cX a3 ?_;rintro _ _ ⟨f5,C5,e5,rfl,rfl,bg,am,bh⟩;dsimp only[AA,AB];refine nx ?_;try rw[aa]
 have a4:=fun b=>Ih hR bg [(f2,srt (ltO oB) false (Dj H j)),(f3,Ki (Dj H j)),(f0,Dj H j)] ((f5,Dj H (j+1))::Gf) (.cons (.there (.there .here)) (.cons (.there .here) (.cons (.there .here) .nil))) oA19 _ 3 _ (vec3 b f2 f3 f0);simp only[ac,AZ,CL,AA,AB] at a4;repeat(refine sA ?_;intros)
 refine cX (a4 _) ?_;rintro _ _ ⟨C6,rfl,rfl,bi⟩;dsimp only[AA,AB];refine nx ?_;repeat(refine sA ?_;intros)
 rename_i b9;exact Dn.round ⟨e5,C6,f5,Dj H (j+1),j+1,k4,b9⟩ ⟨bi.more (s1:=s0+5*(j+1)) oM,⟨A7 am.cnt ax,am.blk,am.ok⟩,fun h=>⟨he,rfl⟩,oD,fun h _=>(bf (bh h)).2.symm,fun h=>by dsimp only at h;omega⟩ oD
end
section
variable {p:Jp} {B m k a s0:Nat} {e:Int} {er:Option Nat} {Gf:List (Fl×List T5)} {C:Aa}
theorem EL (hR:Rm p B m k a) (f:Fl) (La:List T5) (hJ:Ap p B k a s0 e er ((f,La)::Gf) C) (q n:Nat) (hF:FB q q 2 n e f) (ag:e=0→∀t∈La,okT 2 t) (hn:e=0→La.length=n) (bh:2*q≤B) (hT:Ck q≤m) (hk:Gf.length+4≤k) (bg:s0≤9890):Ct AC 152 [pv p.bj,flv f] [C] fun v H'=>∃g C' e',v=flv g∧H'=[C']∧Ap p B k a (s0+7) e' er ((g,labF La)::Gf) C'∧FB q q 2 n e' g∧(e'=0→e=0):=by
 have aa:=eQ0;have ad:=eQ2;have ae:tv o1= .agg #[Z9 Z8 1,Z9 Z8 0,Z9 Z8 0,Z9 Z8 0,Z9 Z8 0]:=rfl;have ak:tv o12= .agg #[Z9 Z8 1,Z9 Z8 2,Z9 Z8 0,Z9 Z8 0,Z9 Z8 0]:=rfl;have hB:=hR.bs;have bi:=hF.cnt;have bk:=hF.blk;have ah:=fun b=>Gn hR hJ [] ls1F 2 f.count q 1 oM 198 inferInstance [] (okT 2) ls1 (fun t _=>AI _) oM f La oA5 oM ag
  (fun h=>by rw[Ex (f:=ls1F) (g:=fun t=>⟨t.c1,t.c0,0,0,0⟩) (fun _=>rfl),AQ,(hF.ok h).2,hn h];exact AI _) (.inl oM) oM oA12 oM b
 simp only[ad] at ah;rw[Ex (f:=ls1F) (g:=fun t=>⟨t.c1,t.c0,0,0,0⟩) (fun _=>rfl)] at ah;rw[aa f];refine cG func152 fun _=>?_;repeat(refine sA ?_;intros)
 repeat(refine sA ?_;intros)
 refine cX (ah _) ?_;rintro _ _ ⟨f1,C1,e1,rfl,rfl,aw,ax,ay⟩;dsimp only[AA,AB];refine nx ?_;try rw[aa]
 have al:=Gb hR aw f1 _ _ o12 rfl false ax .here oM oM hT oM;rw[aa,ak] at al;repeat(refine sA ?_;intros)
 refine cX al ?_;rintro _ _ ⟨f2,C2,e2,rfl,rfl,az,am,a0⟩;dsimp only[AA,AB];refine nx ?_;try rw[aa]
 have bc:=am.cnt;have an:=Gb hR az f2 _ _ o1 rfl true am .here oM oM hT oM;rw[aa,ae,show srt (ltO o1) true (srt (ltO o12) false (La.map fun t=>(⟨t.c1,t.c0,0,0,0⟩:T5)))=Mt La from rfl] at an;repeat(refine sA ?_;intros)
 refine cX an ?_;rintro _ _ ⟨f3,C3,e3,rfl,rfl,a1,ai,a2⟩;dsimp only[AA,AB];refine nx ?_;try rw[aa]
 have be:=ai.cnt;have bf:=ai.blk;have ab:e3=0→e=0:=fun h=>ay (a0 (a2 h));have a3:e3=0→∀t∈Mt La,okT 2 t:=fun h t ht=>by obtain⟨u,hu,rfl⟩:=AO.1 (Ji (Ji ht));have:=Dx (ag (ab h) u hu);exact Ht this.2.1 this.1
 have aj:=Yb hR a1 f f3 La (Mt La) ((f3,Mt La)::Gf) 1 2 oM (hF.mono ab) ai (.there .here) AE (fun h=>ag (ab h)) (fun h=>hn (ab h)) a3 (fun _=>Pc _) oM oM (.inl oM) oM oM hT oA12 oM;unfold Rb at aj;rw[aa f,aa f3] at aj;repeat(refine sA ?_;intros)
 refine cX aj ?_;rintro _ _ ⟨f4,C4,e4,rfl,rfl,a4,a5,a6⟩;dsimp only[AA,AB];rw[aa];refine nx ?_;have ao:=Gb hR a4 f4 _ _ o1 rfl false a5 .here oM oM hT oM;rw[aa,ae,show srt (ltO o1) false (Dt 2 1 (Mt La) La)=labF La from rfl] at ao;repeat(refine sA ?_;intros)
 refine cX ao ?_;rintro _ _ ⟨f5,C5,e5,rfl,rfl,a7,ac,a8⟩;dsimp only[AA,AB];refine nx ?_;try rw[aa]
 have aq:=fun b=>Ih hR a7 [(f3,Mt La)] ((f5,labF La)::Gf) (.cons (.there .here) .nil) oA19 _ 1 _ (Nv b f3);simp only[ad,AZ,CL,AA,AB] at aq;repeat(refine sA ?_;intros)
 refine cX (aq _) ?_;rintro _ _ ⟨C6,rfl,rfl,a9⟩;dsimp only[AA,AB];refine nx ?_;repeat(refine sA ?_;intros)
 have au:(labF La).length=La.length:=by unfold labF Dt;rw[(Bt _).length_eq,AQ,AQ,(Bt _).length_eq]
 have av:e5=0→e=0:=fun h=>ab (a6 (a8 h));(refine dP [C6] ?_;exact⟨f5,C6,e5,rfl,rfl,a9,⟨ac.cnt,ac.blk,fun h=>⟨(ac.ok h).1,by rw[(ac.ok h).2,au,hn (av h)]⟩⟩,av⟩)
theorem ES (hR:Rm p B m k a) (ff fe:Fl) (Fo l:List T5) (hJ:Ap p B k a s0 e er ((ff,srt (ltO o1) true Fo)::Gf) C) (hl:In0 p (fe,l)) (hw:fe.width=3) (q:Nat) (hF:FB (2*q) q 1 (srt (ltO o1) true Fo).length e ff) (hq:fe.count≤q) (be:e=0→∀t∈Fo,okT 1 t) (hs:e=0→(slS l).Pairwise fun a c=>a.c0<c.c0) (bg:2*q≤B) (hT:Ck q≤m) (hk:Gf.length+4≤k) (bf:s0≤9890):Ct AC 153 [pv p.bj,flv ff,flv fe] [C] fun v H'=>∃g C' e',v=flv g∧H'=[C']∧Ap p B k a (s0+4) e' er ((g,treF Fo l)::Gf) C'∧FB (2*q) q 3 (treF Fo l).length e' g∧(e'=0→e=0):=by
 have aa:=eQ0;have ac:=eQ2;have am:tv o1= .agg #[Z9 Z8 1,Z9 Z8 0,Z9 Z8 0,Z9 Z8 0,Z9 Z8 0]:=rfl;have hB:=hR.bs;have bh:=hF.cnt;have bi:=hF.blk;obtain⟨ax,ab,an,ag,ah⟩:=Lm hl;dsimp only at ax ab an ag ah;rw[hw] at ab;have bk:fe.blocks≤q:=by rw[an];exact A7 (En (Bp hR.ok.size.1 ag ah)) hq
 have ai:=fun b=>Gn hR hJ [] nm1F 3 fe.count q 1 oM 199 inferInstance [] (okT 3) nm1 (fun t _=>AI _) oM fe l oA5 oM (fun _=>ab)
  (fun h=>by rw[Ex (f:=nm1F) (g:=fun t=>t) (fun _=>rfl),AQ];omega) (.inl oM) oM oA12 oM b
 simp only[ac] at ai;rw[Ex (f:=nm1F) (g:=fun t=>t) (fun _=>rfl),Ww] at ai;rw[aa ff,aa fe];refine cG func153 fun _=>?_;repeat(refine sA ?_;intros)
 repeat(refine sA ?_;intros)
 refine cX (ai _) ?_;rintro _ _ ⟨f1,C1,e1,rfl,rfl,ay,az,a0⟩;dsimp only[AA,AB];refine nx ?_;try rw[aa]
 have ao:=Gb hR ay f1 _ _ o1 rfl false az .here oM oM hT oM;rw[aa,am] at ao;repeat(refine sA ?_;intros)
 refine cX ao ?_;rintro _ _ ⟨f2,C2,e2,rfl,rfl,a1,ad,a2⟩;dsimp only[AA,AB];refine nx ?_;try rw[aa]
 have a7:=ad.cnt;have a8:=ad.blk;have ae:e2=0→e=0:=fun h=>a0 (a2 h);have aq:=fun b8 b4 b5=>Ks hR a1 200 inferInstance ff f2 (srt (ltO o1) true Fo) (slS l) 0 1 1 2 q oA5 oA5 (lkN2 p ff f2 b8 b4 b5) (hF.mono ae) ad oM oM oM oM oM oM
  (fun _=>(Pc Fo).imp fun hh=>by show T5.c0 _≤T5.c0 _;omega) (fun h=>hs (ae h)) (.inr ⟨oM,oM⟩) oM oA12 oM
 simp only[Cr,ac] at aq;repeat(refine sA ?_;intros)
 refine cX (aq _ _ _) ?_;rintro _ _ ⟨f3,C3,e3,rfl,rfl,a3,aj,ak⟩;dsimp only[AA,AB];refine nx ?_;try rw[aa]
 have a9:=aj.cnt;have bc:=aj.blk;have au:=fun b8 b4 b5=>Ks hR a3 201 inferInstance f3 f2 ((srt (ltO o1) true Fo).map (Bf (slS l) 0 1 1)) (slS l) 0 2 2 3 q oA5 oA5 (lkN3 p f3 f2 b8 b4 b5) aj (ad.mono ak) oM oM oM oM oM oM
  (fun _=>by rw[A6];exact(Pc Fo).imp fun hh=>by show T5.c0 _≤T5.c0 _;exact Int.le_of_lt hh) (fun h=>hs (ae (ak h))) (.inr ⟨oM,oM⟩) oM oA12 oM
 simp only[Cr,ac] at au;repeat(refine sA ?_;intros)
 refine cX (au _ _ _) ?_;rintro _ _ ⟨f4,C4,e4,rfl,rfl,a4,al,a5⟩;dsimp only[AA,AB];refine nx ?_;try rw[aa]
 have av:=fun b=>Ih hR a4 [(f2,slS l),(f3,(srt (ltO o1) true Fo).map (Bf (slS l) 0 1 1)),(ff,srt (ltO o1) true Fo)] ((f4,treF Fo l)::Gf) (.cons (.there (.there .here)) (.cons (.there .here) (.cons (.there .here) .nil))) oA19 _ 3 _ (vec3 b f2 f3 ff);simp only[ac,AZ,CL,AA,AB] at av;repeat(refine sA ?_;intros)
 refine cX (av _) ?_;rintro _ _ ⟨C5,rfl,rfl,a6⟩;dsimp only[AA,AB];refine nx ?_;repeat(refine sA ?_;intros)
 have aw:(treF Fo l).length=(srt (ltO o1) true Fo).length:=by unfold treF;rw[AQ,AQ]
 (refine dP [C5] ?_;exact⟨f4,C5,e4,rfl,rfl,a6,⟨al.cnt,al.blk,fun h=>by rw[aw];exact al.ok h⟩,fun h=>ae (ak (a5 h))⟩)
end
structure mQ (W W':Wk) (A T:Nat) (er:Option Nat) (Pr:List T5→List T5→Prop) (f g:Fl) (w1 w2:Nat) (e:Int):Prop where
 gs:W'.α.gs.Perm W.α.gs
 room:W'.α.room=W.α.room
 size:W'.δ.size=W.δ.size
 n:W'.σ.n=W.σ.n
 acts:W'.δ.acts≤W.δ.acts+A
 big:big W.σ.free≤big W'.σ.free+T
 fault:W.δ.fault= -1→W'.δ.fault= -1
 keep:Ax W.live W W'
 res:(e=0∧er=none∧f.width=w1∧g.width=w2∧W'.live.Perm (Aw [f,g] W.live)∧∃ts us,Pr ts us∧Bg W'.δ.disk W.δ.size [f.ext] f ts∧Bg W'.δ.disk W.δ.size [g.ext] g us)∨
  (e≠0∧f=⟨0,0,0,0⟩∧g=⟨0,0,0,0⟩∧W'.live.Perm W.live∧((e=6∧W.δ.fault≠-1)∨∃m:Nat,er=some m∧e=(m:Int)))
def EU (bw bd ba bs:Nat) (W:Wk) (cd cs:Aa) (A T:Nat) (er:Option Nat) (Pr:List T5→List T5→Prop) (w1 w2:Nat) (v:Value) (H':Hp):Prop:=
 (8*W.δ.size≤W.α.room-W.α.used∧∃f g e ab aa ac W',v= .tuple #[flv f,flv g,Z9 Z8 e]∧H'=[Ab bw bd ba bs,ab,aa,ac]∧Wc bd ba bs W' ab aa ac∧mQ W W' A T er Pr f g w1 w2 e)∨
 (W.α.room-W.α.used<8*W.δ.size∧v= .tuple #[flv ⟨0,0,0,0⟩,flv ⟨0,0,0,0⟩,Z9 Z8 7]∧∃aa α',H'=[Ab bw bd ba bs,cd,aa,cs]∧Wc bd ba bs {W with α:=α'} cd aa cs∧α'.gs.Perm W.α.gs∧α'.room=W.α.room)
theorem EV {bw bd ba bs bj:Nat} {W W':Wk} {J:Jb} {f g:Fl} {ts us:List T5} {G2:List (Fl×List T5)} {A T:Nat} {Pr:List T5→List T5→Prop} {w1 w2:Nat} (h:Sm (Co bw bd ba bs bj W) J [f,g] W') (hG:J.G.Perm ((f,ts)::(g,us)::G2)) (hA:J.acts≤W.δ.acts+A) (hT:J.took≤T) (aa:J.e=0→Pr ts us∧f.width=w1∧g.width=w2):mQ W W' A T J.er Pr (if J.e=0 then f else⟨0,0,0,0⟩) (if J.e=0 then g else⟨0,0,0,0⟩) w1 w2 J.e:=by
 refine⟨h.gs,h.room,h.size,h.n,A7 h.acts hA,?_,?_,fun x hx=>h.keep x hx,?_⟩
 ·have:=h.tk;have h2:(Co bw bd ba bs bj W).b0=big W.σ.free:=rfl;omega
 ·intro hf;exact h.flt (fun h2=>h2 hf)
 ·by_cases he:J.e=0
  ·obtain⟨h1,h2,h3⟩:=h.good he [(f,ts),(g,us)] G2 hG rfl;obtain⟨p1,p2,p3⟩:=aa he;rw[if_pos he,if_pos he];exact .inl ⟨he,h3,p2,p3,h1,ts,us,p1,h2 _ AE,h2 _ (AF _ AE)⟩
  ·obtain⟨h1,h2⟩:=h.bad he;rw[if_neg he,if_neg he];exact .inr ⟨he,rfl,rfl,h1,h2⟩
open Go.Gr
section
variable {N:Nat} {sl:List T5} {L:Nat→Nat} {F:Nat→Prop} {E La Fo:List T5}
theorem Az.foOk (hs:Bw N sl) (h:Az N sl L F E La Fo):∀t∈Fo,okT 1 t:=by intro t ht;obtain⟨i,s,h1,_,rfl⟩:=(h.fo t).1 ht;exact okT1 (Dx (hs.ok s (A0 h1))).1
theorem Az.laLen (h:Az N sl L F E La Fo):La.length=N:=by rw[h.lab.length_eq];simp
theorem Az.jmpOk (hs:Bw N sl) (h:Az N sl L F E La Fo) (j:Nat):(∀t∈Dj (Il E) j,okT 2 t)∧(Dj (Il E) j).Pairwise fun a c=>a.c0<c.c0:=by have he:=h.eok hs;rw[Uy he];refine⟨fun t ht=>?_,cM he _⟩;obtain⟨u,hu,rfl⟩:=AO.1 ht;have hn:=hs.n;obtain⟨a,ha,e1⟩:=h.dmLab hs ⟨u,hu,rfl⟩;obtain⟨b,hb,e2⟩:=h.dmLab hs (Po he (2^j) ⟨u,hu,rfl⟩);have h1:=h.lt a ha;have h2:=h.lt b hb;rw[←e2,←e1];exact Ht (Ly oM) (Ly oM)
theorem Az.jmpEnd (hs:Bw N sl) (h:Az N sl L F E La Fo) (hl:sl.length≤256) {j:Nat} (hj:9≤j):Pn (Dj (Il E) j)=false:=by have he:=h.eok hs;rw[Uy he,lY he fun u hu=>Po he _ hu];have h1:2^9≤2^j:=Nat.pow_le_pow_right oM hj;exact h.ends hs oM
theorem Az.rnd (hs:Bw N sl) (h:Az N sl L F E La Fo) {j:Nat} (ht:Pn (Dj (Il E) j)=false):Rnd E (2^(j+1))∧Dj (Il E) (j+1)=Hm E (2^(j+1)):=by
 have he:=h.eok hs;refine⟨⟨fun u hu=>?_⟩,Uy he _⟩;rw[Uy he,lY he fun u hu=>Po he _ hu] at ht;have hm:0<2^j:=Nat.pow_pos oM;have h1:=h.fixed hs hm ht hu;have h2:itA (pC E) (2^(j+1)) u=itA (pC E) (2^j) u:=by rw[show 2^(j+1)=2^j+2^j by rw[Nat.pow_succ];omega,Xw];exact Xz E h1 _
 rw[h2];exact h1
theorem Az.ed30 (hs:Bw N sl) (h:Az N sl L F E La Fo) (m:Nat):∀t∈Dt 3 0 (Hm E m) E,okT 3 t:=by intro t ht;have he:=h.eok hs;obtain⟨u,hu,rfl⟩:=AO.1 ((cN he.ok).mem_iff.1 ht);obtain⟨i,s,h1,h2,rfl⟩:=(h.ed u).1 hu;have h3:=hs.inN h1;obtain⟨w,hw,aa⟩:=h.rfxL hs m h3.1;have h4:=h.lt _ hw;have h5:=h.lt _ h3.2;have hn:=hs.n;dsimp only;rw[aa];exact Jd (Ly oM) (Ly oM) (Dx (hs.ok s (A0 h1))).1
theorem Az.ed31 (hs:Bw N sl) (h:Az N sl L F E La Fo) (m:Nat):∀t∈edL (Hm E m) E,okT 3 t:=by intro t ht;obtain⟨u,hu,rfl⟩:=AO.1 ((h.edm hs m).mem_iff.1 ht);obtain⟨i,s,h1,h2,rfl⟩:=(h.ed u).1 hu;have h3:=hs.inN h1;obtain⟨w,hw,aa⟩:=h.rfxL hs m h3.1;obtain⟨w',ab,ac⟩:=h.rfxL hs m h3.2;have h4:=h.lt _ hw;have h5:=h.lt _ ab;have hn:=hs.n;dsimp only;rw[aa,ac];exact Jd (Ly oM) (Ly oM) (Dx (hs.ok s (A0 h1))).1
theorem Az.foLen (h:Az N sl L F E La Fo) (hb:(An E).length≤2*E.length):Fo.length+(An E).length≤2*sl.length:=by have:=h.len;omega
end
theorem EW (h E:List T5):(edL h E).length=E.length:=by unfold edL Dt;rw[AQ,AQ,(Bt _).length_eq,AQ,AQ,(Bt _).length_eq]
theorem EX (h E:List T5):(Dt 3 0 h E).length=E.length:=by unfold Dt;rw[AQ,AQ,(Bt _).length_eq]
theorem mR {f:T5→List T5} (hf:∀t,f t=if t.c0=t.c1 then[] else[t]):∀l:List T5,l.flatMap f=l.filter fun t=>decide (t.c0≠t.c1)
 |[]=>rfl
 |t::l=>by rw[List.flatMap_cons,mR hf l,hf,List.filter_cons];by_cases h:t.c0=t.c1<;>simp[h]
structure CpX where
 e:Int
 C:Aa
 fe:Fl
 fl:Fl
 ff:Fl
 E:List T5
 La:List T5
 Fo:List T5
 j:Nat
structure CpI (p:Jp) (B k a:Nat) (er:Option Nat) (N q:Nat) (l:List T5) (x:CpX):Prop where
 job:Ap p B k a (20+70*x.j) x.e er [(x.fe,x.E),(x.ff,x.Fo),(x.fl,x.La)] x.C
 fe:FB q q 3 x.E.length x.e x.fe
 fl:FB q q 2 N x.e x.fl
 ff:FB (2*q) q 1 x.Fo.length x.e x.ff
 inv:x.e=0→x.j+x.E.length≤l.length∧Ij N l∧∃L F,Az N (slS l) L F x.E x.La x.Fo
 le:x.j≤l.length
theorem EY (bw bd ba bs:Nat) (W:Wk) (cd ca cs:Aa) (h:Wc bd ba bs W cd ca cs) (N:Nat) (lf:Fl) (l:List T5) (hl:Dh W (lf,l)) (hw:lf.width=3) (q m:Nat) (cj:lf.count≤q) (hN:N≤q) (hq:q≤130) (ec:2*q≤m) (hT:Ck q≤m) (bh:m*(W.live.length+9)+(8*(2*q)+Bi W.live)≤W.σ.n) (ee:W.δ.acts≤400000000) (A:Nat) (hA:3000000+2100000*l.length≤A):Ct AC 81 [pv bw,Z9 Z8 N,flv lf] [Ab bw bd ba bs,cd,ca,cs] (EU bw bd ba bs W cd cs A A (Im N l) (Ny N l) 2 3):=by
 have aa:=eQ0;have ao:=eQ2;have cm:tv o1= .agg #[Z9 Z8 1,Z9 Z8 0,Z9 Z8 0,Z9 Z8 0,Z9 Z8 0]:=rfl;have hz:=eQ1;have hB:=fun b=>iW bw bd ba bs W cd ca cs h [(lf,l)] (by simp only[AN,DP,or_false];rintro x rfl;exact hl) oA19 (some ⟨b,0,none⟩) 1 _ (Nv b lf);simp only[ao,AA,AB] at hB;have ef:(lf.width:Int)=3:=by rw[hw];rfl
 rw[aa];refine cG func81 fun _=>?_;repeat(refine sA ?_;intros)
 rename_i b3 b4 b5 eg;refine cL (hB _) ?_;rintro _ _ ⟨a1,α1,cu,cw,cz,⟨ag,bj,rfl,rfl⟩|⟨a2,rfl,rfl⟩⟩;rotate_left
 ·dsimp only[AA,AB];repeat(refine sA ?_;intros)
  (refine dP [Ab bw bd ba bs,cd,a1,cs] ?_;exact .inr ⟨a2,rfl,a1,α1,rfl,cu,cw,cz⟩)
 dsimp only[AA,AB];obtain⟨hp,hJ⟩:=iX (bj:=bj) h cu cw cz ag;have bi:In0 (Co bw bd ba bs bj W) (lf,l):=Uj hl;have ab:(Co bw bd ba bs bj W).bj=bj:=rfl;have dw:(Co bw bd ba bs bj W).bw=bw:=rfl;have dx:(Co bw bd ba bs bj W).L0=W.live:=rfl;have dy:(Co bw bd ba bs bj W).n=W.σ.n:=rfl;obtain⟨c5,ak,dz,_,_⟩:=Lm bi;dsimp only at c5 ak dz;rw[hw] at ak;have hR:Rm (Co bw bd ba bs bj W) (2*q) m 8 W.δ.acts:=⟨hp,oM,oM,by
  rw[dx,dy];have e:8+W.live.length+1=W.live.length+9:=oM;rw[e];exact bh,oM,oM⟩
 have d0:Ap (Co bw bd ba bs bj W) (2*q) 8 W.δ.acts 0 0 none [] _:=⟨hJ.weak rfl rfl rfl (AI _) (AI _),AT _,by simp⟩
 have eh:lf.count=l.length:=c5.symm;have hH:=zV hR d0 lf l bi hw N q cj oM hT oM oA19 oM;rw[aa,ab] at hH;have hH:=Ct.convP (H:=[Bq bj bw 0 none 0 0,Ab bw bd ba bs,cd,a1,cs]) hH (jD (p:=Co bw bd ba bs bj W) (e:=0) (cd:=cd) (ca:=a1) (cs:=cs)) (fun v H' hh=>⟨H',hh,.refl _⟩);rw[show(none:Option Nat).or (Im N l)=Im N l from rfl] at hH;repeat(refine sA ?_;intros)
 refine cX hH ?_;rintro _ _ ⟨f1,C1,e1,rfl,rfl,d1,d2,ei⟩;dsimp only[AA,AB];refine nx ?_;try rw[aa]
 have c6:=zR hR d1 N q oM oM oM oA19 oM;rw[ab] at c6;repeat(refine sA ?_;intros)
 refine cX c6 ?_;rintro _ _ ⟨f2,C2,e2,rfl,rfl,d3,bk,d4⟩;dsimp only[AA,AB];refine nx ?_;try rw[aa]
 have c7:=SMakeN hR d3 1 0 0 oM (AI _) oM oA19 oM;rw[ab] at c7;repeat(refine sA ?_;intros)
 refine cX c7 ?_;rintro _ _ ⟨f3,C3,e3,rfl,rfl,c8,bp,c9⟩;dsimp only[AA,AB];refine nx ?_;try rw[aa]
 repeat(first|(refine stn ?_;intros)|refine G.drawOrd (id:=14) [0,1,2,3,5,4,6,7] [(4,.eff [5])] (h:=?_)|refine G.drawOrd (id:=19) [0,1,2,3,5,4,6,7,8] [(4,.eff [5])] (h:=?_)|refine G.draw (id:=23) [(2,.eff [1])] (h:=?_))
 rename_i a3 a4 a5;have da:∀(x:CpX),CpI (Co bw bd ba bs bj W) (2*q) 8 W.δ.acts (Im N l) N q l x→x.e=0→Bw N (slS l)∧(slS l).length=l.length:=fun x hx he=>⟨slOk oM (hx.inv he).2.1 ak,(Bt _).length_eq⟩
 have d5:∀{e:Int} {s0:Nat} {Gf:List (Fl×List T5)} {C:Aa},Ap (Co bw bd ba bs bj W) (2*q) 8 W.δ.acts s0 e (Im N l) Gf C→e=0→Ij N l:=fun hJ he=>by
  have h1:=hJ.er0 he;unfold Im at h1;split at h1
  ·assumption
  ·cases h1
 have db:CpI (Co bw bd ba bs bj W) (2*q) 8 W.δ.acts (Im N l) N q l ⟨e3,C3,f1,f2,f3,Jx l,nmL N,[],0⟩:=by
  refine⟨?_,d2.mono fun h=>d4 (c9 h),⟨A7 bk.cnt hN,bk.blk,fun h=>bk.ok (c9 h)⟩,?_,fun h=>?_,AT _⟩
  ·exact((c8.more oM).perm ((CT _ _ _).trans (.trans (.cons _ (.swap _ _ _)) (.trans (.swap _ _ _) (.cons _ (.swap _ _ _))))):Ap (Co bw bd ba bs bj W) (2*q) 8 W.δ.acts 20 e3 (Im N l) [(f1,Jx l),(f3,[]),(f2,nmL N)] C3)
  ·exact⟨A7 bp.cnt (AT _),A7 bp.blk (AT _),bp.ok⟩
  ·have ho:=d5 c8 h;exact⟨by dsimp only;have:=cO l;omega,ho,id,fun _=>False,cinv0 oM ho⟩
 refine G.cut (D':=[]) (X:=CpX) (fun x=>CpI (Co bw bd ba bs bj W) (2*q) 8 W.δ.acts (Im N l) N q l x∧(x.e=0→x.E=[]))
  (fun x=>[(13,pv a5),(12,pv a4),(11,pv a3),(9,pv bj),(7,pv b5),(6,pv b4),(5,pv b3)])
  (fun x=>[x.C,Kd a5 x.ff,Kd a4 x.fl,Kd a3 x.fe,Kd b5 ⟨0,0,0,0⟩,Kd b4 ⟨0,0,0,0⟩,Kd b3 lf]) ?_ ?_
 ·repeat(refine sA ?_;intros)
  refine G.loop (X:=CpX) (fun x=>CpI (Co bw bd ba bs bj W) (2*q) 8 W.δ.acts (Im N l) N q l x)
   (fun x=>[(13,pv a5),(12,pv a4),(11,pv a3),(9,pv bj),(7,pv b5),(6,pv b4),(5,pv b3)])
   (fun x=>[x.C,Kd a5 x.ff,Kd a4 x.fl,Kd a3 x.fe,Kd b5 ⟨0,0,0,0⟩,Kd b4 ⟨0,0,0,0⟩,Kd b3 lf])
   (fun x=>l.length+1-x.j) ⟨e3,C3,f1,f2,f3,Jx l,nmL N,[],0⟩ db (body:=?_)
  rintro⟨e,C,fe,fl,ff,E,La,Fo,j⟩ hX;have au:=da _ hX;obtain⟨hJ,ah,al,am,ad,hj⟩:=hX;dsimp only[Kd] at hJ ah al am ad hj au⊢;by_cases hc:(0:Int)<(fe.count:Int);rotate_left
  ·repeat(refine sA ?_;intros)
   refine Dn.meet ⟨e,C,fe,fl,ff,E,La,Fo,j⟩ ⟨⟨hJ,ah,al,am,ad,hj⟩,fun h=>?_⟩;have h1:=(ah.ok h).2;exact List.length_eq_zero_iff.1 (show E.length=0 by omega)
  obtain⟨ph,nh,pc,rest,aj⟩:=hJ.row;rw[ab,dw] at aj;by_cases he:e=0;rotate_left
  ·refine G.open aj (by(repeat(first|exact Ae.here|apply Ae.there))) ?_;repeat(refine sA ?_;intros)
   refine Dn.close aj (by(repeat(first|exact Ae.here|apply Ae.there))) (by(repeat(first|exact Ae.here|apply Ae.there))) ?_;exact Dn.meet ⟨e,C,fe,fl,ff,E,La,Fo,j⟩ ⟨⟨hJ,ah,al,am,ad,hj⟩,fun h=>absurd h he⟩
  subst he;obtain⟨ej,ho,L,F,hI⟩:=ad rfl;obtain⟨hs,ek⟩:=au rfl;have dc:0<E.length:=by have:=(ah.ok rfl).2;omega
  have d6:=zW E;have dd:=zX hR fe E hJ q ah (fun _=>hI.eok hs) (AI _) hT oA19 oM;rw[aa,ab] at dd;refine G.open aj (by(repeat(first|exact Ae.here|apply Ae.there))) ?_;repeat(refine sA ?_;intros)
  refine R1.close aj (by(repeat(first|exact Ae.here|apply Ae.there))) (by(repeat(first|exact Ae.here|apply Ae.there))) ?_;refine cX dd ?_;rintro _ _ ⟨g4,h4,C4,e4,rfl,rfl,bq,d7,de,el⟩;dsimp only[AA,AB];rw[aa,aa];refine nx ?_;have bq:=bq.perm (Gf':=[(ff,Fo),(g4,An E),(h4,Il E),(fe,E),(fl,La)]) (by
   refine((CT _ _ _).trans (.cons _ (.cons _ (.swap _ _ _)))).trans ?_;exact(List.Perm.cons _ (.swap _ _ _)).trans (.swap _ _ _))
  have aq:=zY hR ff g4 Fo (An E) bq q (am.mono fun _=>rfl) d7 (fun _=>by have:=hI.foLen d6;omega) (fun _=>hI.foOk hs) (fun _=>Yc (hI.eok hs).ok) (AI _) oA19 oM;rw[aa ff,aa g4,ab] at aq;repeat(refine sA ?_;intros)
  refine cX aq ?_;rintro _ _ ⟨f5,C5,e5,rfl,rfl,av,aq,a6⟩;dsimp only[AA,AB];refine nx ?_;try rw[aa]
  have av:=av.perm (Gf':=[(h4,Il E),(g4,An E),(f5,Fo++(An E).map fun t=>⟨t.c2,0,0,0,0⟩),(fe,E),(fl,La)]) (by
   refine(List.Perm.cons _ (.swap _ _ _)).trans ?_;exact(CT _ _ _).trans (.cons _ (.swap _ _ _)))
  have df:=EI hR h4 (Il E) av q (de.mono a6) (fun _ j=>hI.jmpOk hs j) (fun _ j hj=>hI.jmpEnd hs oM hj) (AI _) hT oA19 oM;rw[aa h4,ab] at df;repeat(refine sA ?_;intros)
  refine cX df ?_;rintro _ _ ⟨g6,H6,C6,e6,rfl,rfl,bu,aw,ax⟩;dsimp only[AA,AB];rw[aa];refine nx ?_;have ai:e6=0→∃i,Rnd E (2^(i+1))∧H6=Hm E (2^(i+1))∧(∀t∈H6,okT 2 t)∧H6.Pairwise fun a c=>a.c0<c.c0:=fun h=>by obtain⟨_,i,rfl,h2⟩:=ax h;obtain⟨a,b⟩:=hI.rnd hs h2;exact⟨i,a,b,hI.jmpOk hs _⟩
  have bv:=Yb hR bu fl g6 La H6 [(g6,H6),(g4,An E),(f5,Fo++(An E).map fun t=>⟨t.c2,0,0,0,0⟩),(fe,E)] 1 2 oM (al.mono fun _=>rfl) aw (.there (.there (.there (.there .here)))) AE (fun _=>hI.ok2 hs) (fun _=>hI.laLen) (fun h=>(ai h).choose_spec.2.2.1) (fun h=>(ai h).choose_spec.2.2.2) oM oM (.inl (AI _)) oM oM hT oA19 oM;unfold Rb at bv;rw[aa fl,aa g6,ab] at bv;repeat(refine sA ?_;intros)
  refine cX bv ?_;rintro _ _ ⟨f7,C7,e7,rfl,rfl,bz,b2,ac⟩;dsimp only[AA,AB];rw[aa];refine nx ?_;have b6:=Yb hR bz fe g6 E H6 [(f7,Dt 2 1 H6 La),(g6,H6),(g4,An E),(f5,Fo++(An E).map fun t=>⟨t.c2,0,0,0,0⟩)] 0 3 oM (ah.mono fun _=>rfl) (aw.mono ac) (.there (.there (.there (.there .here)))) (AF _ AE) (fun _=>(hI.eok hs).ok) (fun _=>rfl) (fun h=>(ai (ac h)).choose_spec.2.2.1) (fun h=>(ai (ac h)).choose_spec.2.2.2) oM oM (.inl (AI _)) oM oM hT oA19 oM;unfold Rb at b6;rw[aa fe,aa g6,ab] at b6;repeat(refine sA ?_;intros)
  refine cX b6 ?_;rintro _ _ ⟨f8,C8,e8,rfl,rfl,d8,d9,an⟩;dsimp only[AA,AB];rw[aa];refine nx ?_;have b7:=Yb hR d8 f8 g6 (Dt 3 0 H6 E) H6 [(f7,Dt 2 1 H6 La),(g6,H6),(g4,An E),(f5,Fo++(An E).map fun t=>⟨t.c2,0,0,0,0⟩)] 1 3 oM d9 (aw.mono fun h=>ac (an h)) .here (AF _ AE) (fun h=>by obtain⟨i,a,rfl,_⟩:=ai (ac (an h));exact hI.ed30 hs _) (fun _=>EX _ _) (fun h=>(ai (ac (an h))).choose_spec.2.2.1) (fun h=>(ai (ac (an h))).choose_spec.2.2.2) oM oM (.inl (AI _)) oM oM hT oA19 oM;unfold Rb at b7;rw[aa f8,aa g6,ab] at b7;repeat(refine sA ?_;intros)
  refine cX b7 ?_;rintro _ _ ⟨f9,C9,e9,rfl,rfl,dg,b8,b9⟩;dsimp only[AA,AB];rw[aa];refine nx ?_;rw[show Dt 3 1 H6 (Dt 3 0 H6 E)=edL H6 E from rfl] at dg;have dh:=b8.cnt;have eb:=b8.blk;have bc:(edL H6 E).flatMap cpLF=edN H6 E:=mR (fun t=>rfl) _;have cg:(edN H6 E).length≤E.length:=by have:=List.length_filter_le (fun t:T5=>decide (t.c0≠t.c1)) (edL H6 E);rw[EW] at this;exact this
  have be:=fun b=>Gn hR dg [] cpLF 3 f9.count q 1 oM 151 inferInstance [] (okT 3) cpL (fun t _=>by unfold cpLF;split<;>simp) oM f9 (edL H6 E) oA5 oM (fun h=>by obtain⟨i,a,rfl,_⟩:=ai (ac (an (b9 h)));exact hI.ed31 hs _)
   (fun h=>by rw[bc,(b8.ok h).2];exact cg) (.inl oM) oM oA12 oM b
  simp only[ao,bc,ab] at be;repeat(refine sA ?_;intros)
  refine cX (be _) ?_;rintro _ _ ⟨di,em,dj,rfl,rfl,dk,ay,bf⟩;dsimp only[AA,AB];refine nx ?_;try rw[aa]
  have dl:=fun b=>Ih hR dk [(f9,edL H6 E),(g4,An E),(g6,H6)] [(di,edN H6 E),(f7,Dt 2 1 H6 La),(f5,Fo++(An E).map fun t=>⟨t.c2,0,0,0,0⟩)] (.cons (.there .here) (.cons (.there (.there (.there .here))) (.cons (.there (.there .here)) .nil))) oA19 _ 3 _ (vec3 b f9 g4 g6);simp only[ao,AZ,CL,AA,AB,ab] at dl;repeat(refine sA ?_;intros)
  refine cX (dl _) ?_;rintro _ _ ⟨ea,rfl,rfl,dm⟩;dsimp only[AA,AB];refine nx ?_;repeat(refine sA ?_;intros)
  have az:dj=0→e6=0:=fun h=>ac (an (b9 (bf h)));refine Dn.round ⟨dj,ea,di,f7,f5,edN H6 E,Dt 2 1 H6 La,Fo++(An E).map fun t=>⟨t.c2,0,0,0,0⟩,j+1⟩ ⟨?_,⟨A7 ay.cnt dh,ay.blk,ay.ok⟩,b2.mono fun h=>an (b9 (bf h)),aq.mono fun h=>(ax (az h)).1,fun h=>?_,oD⟩ oD
  ·exact(dm.more (s1:=20+70*(j+1)) oM).perm (.cons _ (.swap _ _ _))
  ·obtain⟨i,a,rfl,_⟩:=ai (az h);obtain⟨c,d⟩:=hI.step hs a;have d:=d (by intro hn;rw[hn] at dc;exact absurd dc oA18);exact⟨oD,ho,_,_,c⟩
 rintro⟨e,C,fe,fl,ff,E,La,Fo,j⟩ ⟨hX,bg⟩;have au:=da _ hX;obtain⟨hJ,ah,al,am,ad,hj⟩:=hX;dsimp only[Kd] at hJ ah al am ad hj au bg⊢;have hJ:=(hJ.more (s1:=20+70*l.length) oM).perm (Gf':=[(fl,La),(fe,E),(ff,Fo)]) ((List.Perm.cons _ (.swap _ _ _)).trans (.swap _ _ _));have ae:e=0→Bw N (slS l)∧∃L F,Az N (slS l) L F [] La Fo:=fun h=>by obtain⟨_,_,L,F,hI⟩:=ad h;rw[bg h] at hI;exact⟨(au h).1,L,F,hI⟩
 have dp:=EL hR fl La hJ q N al (fun h=>by obtain⟨a,L,F,b⟩:=ae h;exact b.ok2 a) (fun h=>by obtain⟨a,L,F,b⟩:=ae h;exact b.laLen) (AI _) hT oA19 oM;rw[aa fl,ab] at dp;repeat(refine sA ?_;intros)
 refine cX dp ?_;rintro _ _ ⟨f5,C5,e5,rfl,rfl,av,aq,a6⟩;dsimp only[AA,AB];refine nx ?_;try rw[aa]
 have dq:=Gb hR av ff Fo [(f5,labF La),(fe,E)] o1 rfl true (am.mono a6) (.there (.there .here)) oM oM hT oM;rw[aa ff,cm,ab] at dq;repeat(refine sA ?_;intros)
 refine cX dq ?_;rintro _ _ ⟨f6,C6,e6,rfl,rfl,bu,aw,ax⟩;dsimp only[AA,AB];refine nx ?_;try rw[aa]
 have ci:e6=0→e=0:=fun h=>a6 (ax h);have dr:FB (2*q) q 1 (srt (ltO o1) true Fo).length e6 f6:=aw;have ds:=ES hR f6 lf Fo l bu bi hw q dr cj (fun h=>by obtain⟨a,L,F,b⟩:=ae (ci h);exact b.foOk a) (fun h=>(ae (ci h)).1.lt) (AI _) hT oA19 oM;rw[aa f6,aa lf,ab] at ds;repeat(refine sA ?_;intros)
 refine cX ds ?_;rintro _ _ ⟨f7,C7,e7,rfl,rfl,bz,b2,ac⟩;dsimp only[AA,AB];refine nx ?_;try rw[aa]
 have dt:=fun b=>iV (Co bw bd ba bs bj W) hp _ C7 bz.job [f5,f7] oA19 (some ⟨b,0,none⟩) 2 _ (Nw b f5 f7);simp only[ao,ab,AA,AB] at dt;repeat(refine sA ?_;intros)
 refine cL (dt _) ?_;rintro _ _ ⟨a7,a8,a9,W5,rfl,rfl,du,hD⟩;try dsimp only[AA,AB]
 have a0:=EV (A:=A) (T:=A) (Pr:=Ny N l) (w1:=2) (w2:=3) (ts:=labF La) (us:=treF Fo l) (G2:=[(fe,E)]) hD (.swap _ _ _) oD oD (fun h=>by
  obtain⟨a,L,F,b⟩:=ae (ci (ac h));exact⟨b.spec a,((aq.ok (ax (ac h))).1),(b2.ok h).1⟩)
 dsimp only at a0;by_cases he:e7=0
 ·subst he;rw[if_pos rfl,if_pos rfl] at a0;repeat(refine sA ?_;intros)
  (refine dP [Ab bw bd ba bs,a7,a8,a9] ?_;exact .inl ⟨ag,f5,f7,0,a7,a8,a9,W5,rfl,rfl,du,a0⟩)
 ·rw[if_neg he,if_neg he] at a0;repeat(refine sA ?_;intros)
  (refine dP [Ab bw bd ba bs,a7,a8,a9] ?_;exact .inl ⟨ag,⟨0,0,0,0⟩,⟨0,0,0,0⟩,e7,a7,a8,a9,W5,rfl,rfl,du,a0⟩)
theorem EZ {p:Jp} {B m k a:Nat} (hR:Rm p B m k a) {er:Option Nat} {Gf:List (Fl×List T5)} (k':Nat) (ao:Gf.length≤k') (aq:∀x∈Gf,x.1.blocks≤B) (tf pf:Fl) (ad:List T5) (a6:(pf,ad)∈Gf) (hw:pf.width=3) (q m2:Nat) (be:pf.count≤q) (hN:tf.count≤q) (hq:q≤130) (a9:2*q≤m2) (hT:Ck q≤m2) (a8:m2*(k'+p.L0.length+9)+(8*(2*q)+(k'*B+Bi p.L0))≤p.n) (a7:Ij tf.count ad) (la:List T5) (bc:∀a b,Ny tf.count ad a b→a=la) (bu:la.length=tf.count) (x y:Nat) (hx:x≤390000000) (b8 b4 b5:Nat) (A:Nat) (hA:3000000+2100000*pf.count≤A):Fg p ⟨0,er,Gf,x,y⟩ 80 [pv b8,pv b4,pv b5] (Cr p.bj b8 b4 b5 tf pf) A A none la fun g e Hx'=>Hx'=Cr p.bj b8 b4 b5 tf pf∧(e=0→g.width=2∧g.count=tf.count)∧g.count≤tf.count∧g.blocks≤tf.count:=by
 intro W cd ca cs held ph aj hW ac;obtain⟨Lv,au,av⟩:=ac.file (.inl ((ac.ok rfl).1.mem_iff.2 a6));have aw:=ac.lives rfl;dsimp only at aw;have ax:=Wy (B:=B) (l:=Gf.map (·.1.blocks)) (by intro y hy;obtain⟨x,hx,rfl⟩:=AO.1 hy;exact aq x hx);rw[AQ] at ax;have bf:=ac.used hR.ok hW;have bg:=ac.acts;dsimp only at bg;have bv:Gf.length*B≤k'*B:=BD _ ao;have bz:m2*(W.live.length+9)≤m2*(k'+p.L0.length+9):=Nat.mul_le_mul_left _ oM;have bh:=ac.n;have ay:=EY p.bw p.bd p.ba p.bs W cd ca cs hW tf.count pf ad ⟨Lv,au,av⟩ hw q m2 be hN hq a9 hT (by rw[bh];omega) oM A (by have:=au.len;dsimp only at this;omega);have ab:=eQ0;have ak:=eQ2;rw[ab,show Im tf.count ad=none by unfold Im;rw[if_pos a7]] at ay;unfold Bq Cr;rw[ak,ak];refine cG func80 fun _=>?_;repeat(refine sA ?_;intros)
 refine cX ay ?_;rintro _ _ (⟨_,g,g2,e,ae,ag,al,W3,rfl,rfl,az,aa⟩|⟨b2,_⟩);rotate_left
 ·exact absurd bf oM
 dsimp only[AA,AB];rw[ab,ab];refine nx ?_;rcases aa.res with⟨rfl,_,bi,b3,am,ts,us,bk,ah,b6⟩|⟨a0,rfl,rfl,am,a1⟩
 ·obtain rfl:=bc ts us bk;have a2:=Se p.bw p.bd p.ba p.bs W3 ae ag al az g2 (Bc g W.live) (Bn.add am);rw[ab g2] at a2;repeat(refine sA ?_;intros)
  refine cX a2 ?_;rintro _ _ ⟨a3,W4,rfl,rfl,bp,a4,ai,a5,bq⟩;dsimp only[AA,AB];refine nx ?_;repeat(refine sA ?_;intros)
  have g1:=ah.len;have b7:=ah.blk;have g3:=ah.w1;have g4:=ah.w2;have g5:Ac W.δ.size g.width g.count≤g.count:=En (Bp hW.dev.num.1.1 g3 g4);have an:It p W W4 A A none ts g 0:=by have b9:=a4.big;have cg:=aa.big;refine⟨by rw[a5];exact aa.gs,by rw[a5];exact aa.room,by rw[ai];exact aa.size,a4.n.trans aa.n,by rw[ai];exact aa.acts,oM,by rw[ai];exact aa.fault,fun x hx=>by rw[ai];exact aa.keep x hx,.inl ⟨rfl,rfl,by rw[bq],by rw[ai];exact ah⟩⟩
  (refine dP [[(p.bj,row [pv p.bw,Z9 Z8 0,.slice ph held.length aj] 98)],Ab p.bw p.bd p.ba p.bs,ae,ag,a3,[(b8,row [pv p.bj] 84)],[(b4,row [Z9 Z8 tf.first,Z9 Z8 tf.blocks,Z9 Z8 tf.width,Z9 Z8 tf.count] 42)],[(b5,row [Z9 Z8 pf.first,Z9 Z8 pf.blocks,Z9 Z8 pf.width,Z9 Z8 pf.count] 42)]] ?_;exact⟨g,0,ae,ag,a3,W4,_,rfl,rfl,bp,an,rfl,fun _=>⟨bi,oM⟩,oM,oM⟩)
 ·repeat(refine sA ?_;intros)
  have an:It p W W3 A A none la ⟨0,0,0,0⟩ e:=⟨aa.gs,aa.room,aa.size,aa.n,aa.acts,aa.big,aa.fault,aa.keep,.inr ⟨a0,rfl,am,a1⟩⟩
  (refine dP [[(p.bj,row [pv p.bw,Z9 Z8 0,.slice ph held.length aj] 98)],Ab p.bw p.bd p.ba p.bs,ae,ag,al,[(b8,row [pv p.bj] 84)],[(b4,row [Z9 Z8 tf.first,Z9 Z8 tf.blocks,Z9 Z8 tf.width,Z9 Z8 tf.count] 42)],[(b5,row [Z9 Z8 pf.first,Z9 Z8 pf.blocks,Z9 Z8 pf.width,Z9 Z8 pf.count] 42)]] ?_;exact⟨⟨0,0,0,0⟩,e,ae,ag,al,W3,_,rfl,rfl,az,an,rfl,fun h=>absurd h a0,AT _,AT _⟩)
def Kk (tt fl ed lo:List T5):List T5:=jnF 0 (Js (Gp tt fl ed) (upF tt)++Jv (upF tt) lo)
def Fi (tt ed:List T5):List T5:=(Cj 2 2 tt (Cj 2 1 tt (ed.flatMap Eu))).map fun t=>⟨t.c0,max t.c1 t.c2,0,0,0⟩
def Gy (tt ed la:List T5):List T5:=Ob (Cj 1 1 la (Fi tt ed))
abbrev Ps:Nat:=190000000
theorem mS (t:T5):(Eu t).length≤1:=by unfold Eu;split<;>simp
theorem cW (ed:List T5):(ed.flatMap Eu).length≤ed.length:=by have h:=Ss (f:=Eu) (n:=1) ed fun t _=>mS t;omega
theorem mT {ed:List T5} (h:∀t∈ed,okT 3 t):∀t∈ed.flatMap Eu,okT 3 t:=by
 intro t ht;obtain⟨u,hu,ht⟩:=List.mem_flatMap.1 ht;unfold Eu at ht;split at ht
 ·cases ht
 ·rw[List.mem_singleton] at ht;subst ht;exact h _ hu
theorem cY (tt ed:List T5):(Fi tt ed).length=(ed.flatMap Eu).length:=by unfold Fi;rw[AQ,Iu,Iu]
theorem E0 {tt ed:List T5} (h:∀t∈tt,okT 5 t) (h2:∀t∈ed,okT 3 t):∀t∈Fi tt ed,okT 2 t:=by intro t ht;unfold Fi at ht;obtain⟨u,hu,rfl⟩:=AO.1 ht;have ti:=Dx (Pd h (Pd h (mT h2) 2 1 oM oM) 2 2 oM oM u hu);exact Ht ti.1 (lK ti.2.1 ti.2.2.1)
theorem E1 (bw bd ba bs:Nat) (W:Wk) (cd ca cs:Aa) (h:Wc bd ba bs W cd ca cs) (tf ff ef lf:Fl) (tt fl ed lo:List T5) (b3:Dh W (tf,tt)) (b2:Dh W (ff,fl)) (cg:Dh W (ef,ed)) (b7:Dh W (lf,lo)) (ah:tf.width=5) (a6:ff.width=3) (a7:ef.width=3) (a9:lf.width=3) (am:tt.Pairwise fun a c=>a.c0<c.c0) (b9:(upF tt).Pairwise fun a c=>a.c0<c.c0) (dx:fl.Pairwise fun a c=>a.c0<c.c0) (dz:ed.Pairwise fun a c=>a.c0≤c.c0) (dy:lo.Pairwise fun a c=>a.c0<c.c0) (c q m m2:Nat) (ge:tf.count≤c) (f9:ef.count≤c) (ga:ff.count≤c) (gf:lf.count≤c) (hc:c≤85) (gd:c≤m) (hT:Ck c≤m) (f0:tf.count≤q) (gb:(Kk tt fl ed lo).length≤q) (hq:q≤85) (b6:2*q≤m2) (du:Ck q≤m2) (dw:Ij tf.count (Kk tt fl ed lo)) (la:List T5) (d0:∀a b,Ny tf.count (Kk tt fl ed lo) a b→a=la) (bv:la.length=tf.count) (bz:la.Pairwise fun a c=>a.c0<c.c0) (bu:∀t∈la,okT 2 t) (a8:m*(W.live.length+12)+(11*c+Bi W.live)≤W.σ.n) (an:m2*(W.live.length+14)+(16*q+(5*c+Bi W.live))≤W.σ.n) (gc:W.δ.acts≤200000000):Ct AC 38 [pv bw,flv tf,flv ff,flv ef,flv lf] [Ab bw bd ba bs,cd,ca,cs] (LayerQ bw bd ba bs W cd cs Ps Ps none (Gy tt ed la) 2):=by
 have aa:=eQ0;have ae:=eQ2;have hz:=eQ1;have hB:=fun b=>iW bw bd ba bs W cd ca cs h [(tf,tt),(ff,fl),(ef,ed),(lf,lo)] (by simp only[AN,DP,or_false];rintro x (rfl|rfl|rfl|rfl);exact b3;exact b2;exact cg;exact b7) oA19 (some ⟨b,0,none⟩) 4 _ (vec4 b tf ff ef lf);simp only[ae,AA,AB] at hB;have gg:(tf.width:Int)=5:=by rw[ah];rfl
 have gh:(ff.width:Int)=3:=by rw[a6];rfl
 have gi:(ef.width:Int)=3:=by rw[a7];rfl
 have gj:(lf.width:Int)=3:=by rw[a9];rfl
 rw[aa tf,aa ff,aa ef,aa lf];refine cG func38 fun _=>?_;repeat(refine sA ?_;intros)
 refine cL (hB _) ?_;rintro _ _ ⟨ao,α1,ci,cj,cm,⟨ad,bj,rfl,rfl⟩|⟨aq,rfl,rfl⟩⟩;rotate_left
 ·dsimp only[AA,AB];repeat(refine sA ?_;intros)
  (refine dP [Ab bw bd ba bs,cd,ao,cs] ?_;exact .inr ⟨aq,rfl,ao,α1,rfl,ci,cj,cm⟩)
 dsimp only[AA,AB];obtain⟨hp,hJ⟩:=iX (bj:=bj) h ci cj cm ad;have ai:In0 (Co bw bd ba bs bj W) (tf,tt):=Uj b3;have cu:In0 (Co bw bd ba bs bj W) (ff,fl):=Uj b2;have bc:In0 (Co bw bd ba bs bj W) (ef,ed):=Uj cg;have cw:In0 (Co bw bd ba bs bj W) (lf,lo):=Uj b7;have ab:(Co bw bd ba bs bj W).bj=bj:=rfl;have gk:(Co bw bd ba bs bj W).bw=bw:=rfl;have cz:(Co bw bd ba bs bj W).L0=W.live:=rfl;have c5:(Co bw bd ba bs bj W).n=W.σ.n:=rfl;obtain⟨t1,t2,t3,t4,t5⟩:=Lm ai;obtain⟨f1,f2,f3,f4,f5⟩:=Lm cu;obtain⟨d1,d2,d3,d4,d5⟩:=Lm bc;obtain⟨l1,l2,l3,l4,l5⟩:=Lm cw;dsimp only at t1 t2 t3 t4 t5 f1 f2 f3 f4 f5 d1 d2 d3 d4 d5 l1 l2 l3 l4 l5;have d6:tf.blocks≤tf.count:=by rw[t3];exact En (Bp hp.size.1 t4 t5)
 have gl:ef.blocks≤ef.count:=by rw[d3];exact En (Bp hp.size.1 d4 d5)
 have c6:∀e,FB tf.count tf.count 5 tf.count e tf:=fun e=>⟨AI _,d6,fun _=>⟨ah,rfl⟩⟩
 rw[ah] at t2;rw[a6] at f2;rw[a7] at d2;rw[a9] at l2;have hR:Rm (Co bw bd ba bs bj W) c m 11 W.δ.acts:=⟨hp,oM,oM,by
  rw[cz,c5];have e:11+W.live.length+1=W.live.length+12:=oM;rw[e];exact a8,oM,oM⟩
 have d7:Ap (Co bw bd ba bs bj W) c 11 W.δ.acts 0 0 none [] _:=⟨hJ.weak rfl rfl rfl (AI _) (AI _),AT _,by simp⟩
 have au:=upF_ok t2;have d8:=Xq tt;have c7:=vT t2 f2 d2;have gm:=jN tt fl ed;have d9:=yM c7 au;have gp:=Xr (Gp tt fl ed) (upF tt);have ea:=yS au l2;have gq:=Xu (upF tt) lo;have gr:=Xt (upF tt) lo;have av:=yJ hR d7 tf tt ai ah c oM oM (AI _) hT am oA19 oM;rw[aa tf,ab] at av;have av:=Ct.convP (H:=[Bq bj bw 0 none 0 0,Ab bw bd ba bs,cd,ao,cs]) av (jD (p:=Co bw bd ba bs bj W) (e:=0) (cd:=cd) (ca:=ao) (cs:=cs)) (fun v H' hh=>⟨H',hh,.refl _⟩);repeat(refine sA ?_;intros)
 refine cX av ?_;rintro _ _ ⟨g1,C1,e1,rfl,rfl,eb,aw,gt⟩;dsimp only[AA,AB];refine nx ?_;try rw[aa]
 have fa:=aw.cnt;have fb:=aw.blk;have c8:=vU hR eb tf ff ef tt fl ed ai cu bc ah a6 a7 c oM oM oM oM (AI _) hT am dx dz oM oA12 oM;rw[aa tf,aa ff,aa ef,ab] at c8;repeat(refine sA ?_;intros)
 refine cX c8 ?_;rintro _ _ ⟨g2,C2,e2,rfl,rfl,ec,be,c9⟩;dsimp only[AA,AB];refine nx ?_;try rw[aa]
 have fc:=be.cnt;have fd:=be.blk;have da:=yN hR ec g2 g1 _ _ AE (AF _ AE) c7 au be (aw.mono c9) (c:=c) oM oM (AI _) hT (fun _=>b9) oA12 oM;rw[aa g2,aa g1,ab] at da;repeat(refine sA ?_;intros)
 refine cX da ?_;rintro _ _ ⟨g3,C3,e3,rfl,rfl,ee,bf,eg⟩;dsimp only[AA,AB];refine nx ?_;try rw[aa]
 have fg:=bf.cnt;have fh:=bf.blk;have db:=yU hR ee g1 lf _ lo (AF _ (AF _ AE)) cw a9 au (aw.mono fun h=>c9 (eg h)) d8.symm (c:=c) oM oM oM (AI _) hT (fun _=>b9) dy oA12 oM;rw[aa g1,aa lf,ab] at db;repeat(refine sA ?_;intros)
 refine cX db ?_;rintro _ _ ⟨g4,C4,e4,rfl,rfl,eh,bg,ei⟩;dsimp only[AA,AB];refine nx ?_;try rw[aa]
 have fi:=bg.cnt;have fj:=bg.blk;have bh:=yW hR eh g3 g4 _ _ (AF _ AE) AE d9 ea oM (bf.mono ei) bg (c:=c) oM oM (AI _) oA12 oM;rw[aa g3,aa g4,ab] at bh;rw[show jnF 0 (Js (Gp tt fl ed) (upF tt)++Jv (upF tt) lo)=Kk tt fl ed lo from rfl] at bh;repeat(refine sA ?_;intros)
 refine cX bh ?_;rintro _ _ ⟨g5,C5,e5,rfl,rfl,dc,bi,gu⟩;dsimp only[AA,AB];refine nx ?_;try rw[aa]
 have fk:=bi.cnt;have fm:=bi.blk;have dd:=fun b8 b4 b5=>SRun hR dc 80 inferInstance [pv b8,pv b4,pv b5] (Cr bj b8 b4 b5 tf g5) 183000000 183000000 6100 none la oA18 oA18 (b:=tf.count) (c:=c) (w:=2) (n:=tf.count) (fun he x y hx=>by
  subst he;have h3:=bi.ok rfl;have ej:g5.count≤q:=by
   have h4:=h3.2;have h5:(Kk tt fl ed lo).length=(Js (Gp tt fl ed) (upF tt)).length+(Jv (upF tt) lo).length:=by unfold Kk;rw[Qw,AH]
   omega
  have hS:=EZ hR (er:=none) 5 oA19 dc.blk tf g5 (Kk tt fl ed lo) AE h3.1 q m2 ej oM oM b6 du (by rw[cz,c5,show 5+W.live.length+9=W.live.length+14 by omega,show 8*(2*q)=16*q by omega];exact an) dw la d0 bv x y oM b8 b4 b5 183000000 oM;refine Fg.mono hS ?_;rintro g e' gw ⟨a1,a2,a3,a4⟩;exact⟨a1,a3,oM,a2⟩) (AI _) oA12
 simp only[Cr,ae,ab,show∀x:Option Nat,(none:Option Nat).or x=x from fun _=>rfl] at dd;repeat(refine sA ?_;intros)
 refine cX (dd _ _ _) ?_;rintro _ _ ⟨g6,C6,e6,rfl,rfl,ek,bk,gx⟩;dsimp only[AA,AB];refine nx ?_;try rw[aa]
 have fp:=bk.cnt;have fq:=bk.blk;have gy:=cW ed;have de:=fun b1=>Gn hR ek [] Eu 3 ef.count c 1 oM 83 inferInstance [] (okT 3) bcD (fun t _=>mS t) oM ef ed (.inr bc) oM (fun _=>d2)
  (fun h=>by omega) (.inl oM) (AI _) oA12 oM b1
 simp only[ae,ab] at de;repeat(refine sA ?_;intros)
 refine cX (de _) ?_;rintro _ _ ⟨g7,C7,e7,rfl,rfl,el,bp,em⟩;dsimp only[AA,AB];refine nx ?_;try rw[aa]
 have fr:=bp.cnt;have ft:=bp.blk;have df:=Um hR el g7 tf (ed.flatMap Eu) tt _ 1 oM bp (c6 e7) .here (.inr ai) oM oM oM (fun _=>am) (fun _=>rfl) oM (.inl oM) (AI _) hT oA12 oM;rw[aa g7,aa tf,ab] at df;repeat(refine sA ?_;intros)
 refine cX df ?_;rintro _ _ ⟨g8,C8,e8,rfl,rfl,en,dg,eo⟩;dsimp only[AA,AB];refine nx ?_;try rw[aa]
 have fu:=dg.cnt;have dh:=Um hR en g8 tf (Cj 2 1 tt (ed.flatMap Eu)) tt _ 2 oM dg (c6 e8) .here (.inr ai) oM oM oM (fun _=>am) (fun _=>Iu _ _ _ _) oM (.inl oM) (AI _) hT oA12 oM;rw[aa g8,aa tf,ab] at dh;repeat(refine sA ?_;intros)
 refine cX dh ?_;rintro _ _ ⟨g9,C9,e9,rfl,rfl,ep,bq,et⟩;dsimp only[AA,AB];refine nx ?_;try rw[aa]
 have fv:=bq.cnt;have fw:=bq.blk;have ag:=fun b1=>Gn hR ep [] bcMF 2 g9.count c 1 oM 84 inferInstance [] (okT 3) bcM (fun t _=>AI _) oM g9 (Cj 2 2 tt (Cj 2 1 tt (ed.flatMap Eu))) oA5 oM (fun _=>Pd t2 (Pd t2 (mT d2) 2 1 oM oM) 2 2 oM oM)
  (fun h=>by rw[Ex (f:=bcMF) (g:=fun t=>⟨t.c0,max t.c1 t.c2,0,0,0⟩) (fun _=>rfl),AQ,(bq.ok h).2,Iu,Iu];exact AI _) (.inl oM) (AI _) oA12 oM b1
 simp only[ae,ab] at ag;rw[Ex (f:=bcMF) (g:=fun t=>⟨t.c0,max t.c1 t.c2,0,0,0⟩) (fun _=>rfl)] at ag;rw[show(Cj 2 2 tt (Cj 2 1 tt (ed.flatMap Eu))).map (fun t=>(⟨t.c0,max t.c1 t.c2,0,0,0⟩:T5))=Fi tt ed from rfl] at ag;repeat(refine sA ?_;intros)
 refine cX (ag _) ?_;rintro _ _ ⟨di,gz,g0,rfl,rfl,dj,aj,dk⟩;dsimp only[AA,AB];refine nx ?_;try rw[aa]
 have eu:=aj.cnt;have ew:=aj.blk;have a0:=jK hR dj di g6 (Fi tt ed) la _ 1 oM aj (bk.mono fun h=>em (eo (et (dk h)))) .here (.inl oA8) oM oM oM (fun _=>bz) (fun _=>rfl) oM (.inl oM) (AI _) hT oA12 oM;rw[aa di,aa g6,ab] at a0;repeat(refine sA ?_;intros)
 refine cX a0 ?_;rintro _ _ ⟨dl,ha,hg,rfl,rfl,dm,ac,fx⟩;dsimp only[AA,AB];refine nx ?_;try rw[aa]
 have ey:=ac.cnt;have ez:=ac.blk;have ak:=yX hR dl (Cj 1 1 la (Fi tt ed)) dm (Pd bu (E0 t2 d2) 1 1 oM oM) (b:=g9.count) (c:=c) ⟨ac.cnt,ac.blk,fun h=>⟨(ac.ok h).1,by rw[(ac.ok h).2,Iu]⟩⟩ oM oM (AI _) hT oA12 oM;rw[aa dl,ab] at ak;rw[show Ob (Cj 1 1 la (Fi tt ed))=Gy tt ed la from rfl] at ak;repeat(refine sA ?_;intros)
 refine cX ak ?_;rintro _ _ ⟨dp,hj,dq,rfl,rfl,dr,a5,fy⟩;dsimp only[AA,AB];refine nx ?_;try rw[aa]
 have e0:=a5.cnt;have ds:=fun b1=>vL hR dr dp b1;simp only[ae,ab] at ds;repeat(refine sA ?_;intros)
 refine cL (ds _) ?_;rintro _ _ ⟨ax,ay,az,W5,rfl,rfl,dt,hD⟩;try dsimp only[AA,AB]
 have al:=vH (A:=Ps) (T:=Ps) hD rfl (by dsimp only;unfold Ps;omega) (by dsimp only;unfold Ps;omega);dsimp only at al;by_cases he:dq=0
 ·subst he;rw[if_pos rfl] at al;repeat(refine sA ?_;intros)
  (refine dP [Ab bw bd ba bs,ax,ay,az] ?_;exact .inl ⟨ad,dp,0,ax,ay,az,W5,rfl,rfl,dt,al,fun _=>(a5.ok rfl).1⟩)
 ·rw[if_neg he] at al;repeat(refine sA ?_;intros)
  (refine dP [Ab bw bd ba bs,ax,ay,az] ?_;exact .inl ⟨ad,⟨0,0,0,0⟩,dq,ax,ay,az,W5,rfl,rfl,dt,al,fun h=>absurd h he⟩)
section
variable {N:Nat} {es:List IE} {lab:List Int} {fl:List Bool} {r b:List T5} {tl:List (Nat×Fo)} {l:List T5}
end
section
variable {N:Nat} {es:List IE} {lab:List Int} {fl:List Bool} {r b:List T5} {tl:List (Nat×Fo)} {l:List T5}
end
end Go.Proofs.YtaofijjjheiknaaGreat
