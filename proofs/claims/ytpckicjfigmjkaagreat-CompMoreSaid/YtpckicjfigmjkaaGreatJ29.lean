/-
  Parts of the proof, put together: Comp7, Ons, ForN, CompL. No condition.
-/
import Derived.Test.YtpckicjfigmjkaaGreatJ28
set_option linter.unusedVariables false
set_option linter.unusedSimpArgs false
set_option linter.unnecessarySimpa false
set_option maxHeartbeats 4000000
namespace Go.Proofs.YtpckicjfigmjkaaGreat
open Go.SL Go.Spc Go.Tup Go.Srt
structure CpX where
 e:Int
 C:Chunk
 fe:Fl
 fl:Fl
 ff:Fl
 E:List T5
 La:List T5
 Fo:List T5
 j:Nat
abbrev compA:Nat:=300000000
structure CpI (p:Jp) (B k a:Nat) (er:Option Nat) (N q:Nat) (l:List T5) (x:CpX):Prop where
 job:JobS p B k a (20+70*x.j) x.e er [(x.fe,x.E),(x.ff,x.Fo),(x.fl,x.La)] x.C
 fe:FB q q 3 x.E.length x.e x.fe
 fl:FB q q 2 N x.e x.fl
 ff:FB (2*q) q 1 x.Fo.length x.e x.ff
 inv:x.e=0→x.j+x.E.length≤l.length∧edgesOk N l∧∃L F,CInv N (slS l) L F x.E x.La x.Fo
 le:x.j≤l.length
theorem Components_ct (bw bd ba bs:Nat) (W:Wk) (cd ca cs:Chunk) (h:Wc bd ba bs W cd ca cs) (N:Nat) (lf:Fl) (l:List T5) (hl:FileIn W (lf,l)) (hw:lf.width=3)
  (q m:Nat) (hcn:lf.count≤q) (hN:N≤q) (hq:q≤130) (hqm:2*q≤m) (hT:sortT q≤m) (hroom:m*(W.live.length+9)+(8*(2*q)+total W.live)≤W.σ.n) (hac:W.δ.acts≤400000000):
  Ct Tryz.prog 16 [pv bw,.int .i64 (N:Int),flv lf] [wrow bw bd ba bs,cd,ca,cs] (LayerQ2 bw bd ba bs W cd cs compA compA (errC N l) (compSpec N l) 2 3):=by
 have hflv:∀f:Fl,flv f= .agg #[.int .i64 (f.first:Int),.int .i64 (f.blocks:Int),.int .i64 (f.width:Int),.int .i64 (f.count:Int)]:=fun _=>rfl
 have hfl4:∀f:Fl,fl4 f=[.int .i64 (f.first:Int),.int .i64 (f.blocks:Int),.int .i64 (f.width:Int),.int .i64 (f.count:Int)]:=fun _=>rfl
 have hto1:tv o1= .agg #[.int .i64 1,.int .i64 0,.int .i64 0,.int .i64 0,.int .i64 0]:=rfl
 have hz:flv ⟨0,0,0,0⟩= .agg #[.int .i64 0,.int .i64 0,.int .i64 0,.int .i64 0]:=rfl
 have hB:=fun b=>Begin_ct bw bd ba bs W cd ca cs h [(lf,l)] (by simp only[List.mem_cons,List.not_mem_nil,or_false];rintro x rfl;exact hl) (by simp) (some ⟨b,0,none⟩) 1 _ (vec1 b lf)
 simp only[hfl4,List.cons_append,List.nil_append] at hB
 have hwi:(lf.width:Int)=3:=by rw[hw];rfl
 rw[hflv]
 refine Ct.intro Tryz.func16 rfl Tryz.ntmps16 (nle rfl) fun w0=> ?_;dsimp only[argSlots,Nat.reduceAdd]
 repeat(first|(refine st ?_;intros)|refine G.drawOrd (id:=14) [0,1,2,3,5,4,6,7] [(4,.eff [5])] (h:= ?_)|refine G.drawOrd (id:=19) [0,1,2,3,5,4,6,7,8] [(4,.eff [5])] (h:= ?_)|refine G.draw (id:=23) [(2,.eff [1])] (h:= ?_))
 rename_i b3 b4 b5 bs0
 refine R.call (hct:=hB _) (h:= ?_)
 rintro _ _ ⟨ca1,α1,hW1,hg1,hr1,⟨hroom8,bj,rfl,rfl⟩|⟨hsmall,rfl,rfl⟩⟩
 rotate_left
 ·dsimp only[List.cons_append,List.nil_append]
  repeat(first|(refine st ?_;intros)|refine G.drawOrd (id:=14) [0,1,2,3,5,4,6,7] [(4,.eff [5])] (h:= ?_)|refine G.drawOrd (id:=19) [0,1,2,3,5,4,6,7,8] [(4,.eff [5])] (h:= ?_)|refine G.draw (id:=23) [(2,.eff [1])] (h:= ?_))
  (refine Dn.post (Hr:=[wrow bw bd ba bs,cd,ca1,cs]) Tryz.results16 (hR:= ?_);exact .inr ⟨hsmall,rfl,ca1,α1,rfl,hW1,hg1,hr1⟩)
 dsimp only[List.cons_append,List.nil_append]
 obtain⟨hp,hJ⟩:=begun_job (bj:=bj) h hW1 hg1 hr1 hroom8
 have hl0:In0 (begP bw bd ba bs bj W) (lf,l):=begun_in0 hl
 have hbj:(begP bw bd ba bs bj W).bj=bj:=rfl
 have hbw:(begP bw bd ba bs bj W).bw=bw:=rfl
 have hL0:(begP bw bd ba bs bj W).L0=W.live:=rfl
 have hn0:(begP bw bd ba bs bj W).n=W.σ.n:=rfl
 obtain⟨hll,hlfit,hlb,_,_⟩:=in0file hl0
 dsimp only at hll hlfit hlb
 rw[hw] at hlfit
 have hR:Rm (begP bw bd ba bs bj W) (2*q) m 8 W.δ.acts:=⟨hp,by omega,by omega,by
  rw[hL0,hn0]
  have e:8+W.live.length+1=W.live.length+9:=by omega
  rw[e];exact hroom,by omega,by omega⟩
 have hJ0:JobS (begP bw bd ba bs bj W) (2*q) 8 W.δ.acts 0 0 none [] _:=⟨hJ.weak rfl rfl rfl (Nat.le_refl _) (Nat.le_refl _),Nat.zero_le _,by simp⟩
 have hcl:lf.count=l.length:=hll.symm
 have hH:=checked_ct hR hJ0 lf l hl0 hw N q hcn (by omega) hT (by omega) (by simp) (by omega)
 rw[hflv,hbj] at hH
 have hH:=Ct.convP (H:=[jrow bj bw 0 none 0 0,wrow bw bd ba bs,cd,ca1,cs]) hH (jobC_open (p:=begP bw bd ba bs bj W) (e:=0) (cd:=cd) (ca:=ca1) (cs:=cs)) (fun v H' hh=>⟨H',hh,.refl _⟩)
 rw[show(none:Option Nat).or (errC N l)=errC N l from rfl] at hH
 repeat(first|(refine st ?_;intros)|refine G.drawOrd (id:=14) [0,1,2,3,5,4,6,7] [(4,.eff [5])] (h:= ?_)|refine G.drawOrd (id:=19) [0,1,2,3,5,4,6,7,8] [(4,.eff [5])] (h:= ?_)|refine G.draw (id:=23) [(2,.eff [1])] (h:= ?_))
 refine R.callX (hct:=hH) (h:= ?_)
 rintro _ _ ⟨f1,C1,e1,rfl,rfl,hJ1,hF1,hE1⟩
 dsimp only[List.cons_append,List.nil_append]
 constructor
 ·(·(first|(intro _ _ h;cases h;done)|(repeat(first|exact qok_nil|(apply qok_cons;(·first|(intro hc;exact absurd hc (nmem rfl))|(intro _;apply CellPr.mk;(·repeat(first|exact Has.here|apply Has.there));(first|exact rfl|assumption))|(intro _;apply CellsPr.mk;(·repeat(first|exact Has.here|apply Has.there));(first|exact rfl|assumption))))))))
 try rw[hflv]
 have hH2:=numbers_ct hR hJ1 N q (by omega) (by omega) (by omega) (by simp) (by omega)
 rw[hbj] at hH2
 repeat(first|(refine st ?_;intros)|refine G.drawOrd (id:=14) [0,1,2,3,5,4,6,7] [(4,.eff [5])] (h:= ?_)|refine G.drawOrd (id:=19) [0,1,2,3,5,4,6,7,8] [(4,.eff [5])] (h:= ?_)|refine G.draw (id:=23) [(2,.eff [1])] (h:= ?_))
 refine R.callX (hct:=hH2) (h:= ?_)
 rintro _ _ ⟨f2,C2,e2,rfl,rfl,hJ2,hF2,hE2⟩
 dsimp only[List.cons_append,List.nil_append]
 constructor
 ·(·(first|(intro _ _ h;cases h;done)|(repeat(first|exact qok_nil|(apply qok_cons;(·first|(intro hc;exact absurd hc (nmem rfl))|(intro _;apply CellPr.mk;(·repeat(first|exact Has.here|apply Has.there));(first|exact rfl|assumption))|(intro _;apply CellsPr.mk;(·repeat(first|exact Has.here|apply Has.there));(first|exact rfl|assumption))))))))
 try rw[hflv]
 have hH3:=SMakeN hR hJ2 1 0 0 (by omega) (Nat.le_refl _) (by omega) (by simp) (by omega)
 rw[hbj] at hH3
 repeat(first|(refine st ?_;intros)|refine G.drawOrd (id:=14) [0,1,2,3,5,4,6,7] [(4,.eff [5])] (h:= ?_)|refine G.drawOrd (id:=19) [0,1,2,3,5,4,6,7,8] [(4,.eff [5])] (h:= ?_)|refine G.draw (id:=23) [(2,.eff [1])] (h:= ?_))
 refine R.callX (hct:=hH3) (h:= ?_)
 rintro _ _ ⟨f3,C3,e3,rfl,rfl,hJ3,hF3,hE3⟩
 dsimp only[List.cons_append,List.nil_append]
 constructor
 ·(·(first|(intro _ _ h;cases h;done)|(repeat(first|exact qok_nil|(apply qok_cons;(·first|(intro hc;exact absurd hc (nmem rfl))|(intro _;apply CellPr.mk;(·repeat(first|exact Has.here|apply Has.there));(first|exact rfl|assumption))|(intro _;apply CellsPr.mk;(·repeat(first|exact Has.here|apply Has.there));(first|exact rfl|assumption))))))))
 try rw[hflv]
 repeat(first|(refine stn ?_;intros)|refine G.drawOrd (id:=14) [0,1,2,3,5,4,6,7] [(4,.eff [5])] (h:= ?_)|refine G.drawOrd (id:=19) [0,1,2,3,5,4,6,7,8] [(4,.eff [5])] (h:= ?_)|refine G.draw (id:=23) [(2,.eff [1])] (h:= ?_))
 rename_i b11 b12 b13
 have hsz:∀(x:CpX),CpI (begP bw bd ba bs bj W) (2*q) 8 W.δ.acts (errC N l) N q l x→x.e=0→SlOk N (slS l)∧(slS l).length=l.length:=fun x hx he=>⟨slOk (by omega) (hx.inv he).2.1 hlfit,(perm_srt _).length_eq⟩
 have hee:∀{e:Int} {s0:Nat} {Gf:List (Fl×List T5)} {C:Chunk},JobS (begP bw bd ba bs bj W) (2*q) 8 W.δ.acts s0 e (errC N l) Gf C→e=0→edgesOk N l:=fun hJ he=>by
  have h1:=hJ.er0 he
  unfold errC at h1
  split at h1
  ·assumption
  ·cases h1
 have hst0:CpI (begP bw bd ba bs bj W) (2*q) 8 W.δ.acts (errC N l) N q l ⟨e3,C3,f1,f2,f3,edg0 l,nmL N,[],0⟩:=by
  refine⟨?_,hF1.mono fun h=>hE2 (hE3 h),⟨Nat.le_trans hF2.cnt hN,hF2.blk,fun h=>hF2.ok (hE3 h)⟩,?_,fun h=> ?_,Nat.zero_le _⟩
  ·exact((hJ3.more (by omega)).perm ((List.Perm.swap _ _ _).trans (.trans (.cons _ (.swap _ _ _)) (.trans (.swap _ _ _) (.cons _ (.swap _ _ _))))):JobS (begP bw bd ba bs bj W) (2*q) 8 W.δ.acts 20 e3 (errC N l) [(f1,edg0 l),(f3,[]),(f2,nmL N)] C3)
  ·exact⟨Nat.le_trans hF3.cnt (Nat.zero_le _),Nat.le_trans hF3.blk (Nat.zero_le _),hF3.ok⟩
  ·have ho:=hee hJ3 h
   exact⟨by dsimp only;have:=edg0len l;omega,ho,id,fun _=>False,cinv0 (by omega) ho⟩
 refine G.cut (D':=[]) (X:=CpX) (fun x=>CpI (begP bw bd ba bs bj W) (2*q) 8 W.δ.acts (errC N l) N q l x∧(x.e=0→x.E=[]))
  (fun x=>[(13,pv b13),(12,pv b12),(11,pv b11),(9,pv bj),(7,pv b5),(6,pv b4),(5,pv b3)])
  (fun x=>[x.C,fbox b13 x.ff,fbox b12 x.fl,fbox b11 x.fe,fbox b5 ⟨0,0,0,0⟩,fbox b4 ⟨0,0,0,0⟩,fbox b3 lf]) ?_ ?_
 ·repeat(first|(refine st ?_;intros)|refine G.drawOrd (id:=14) [0,1,2,3,5,4,6,7] [(4,.eff [5])] (h:= ?_)|refine G.drawOrd (id:=19) [0,1,2,3,5,4,6,7,8] [(4,.eff [5])] (h:= ?_)|refine G.draw (id:=23) [(2,.eff [1])] (h:= ?_))
  refine G.loop (X:=CpX) (fun x=>CpI (begP bw bd ba bs bj W) (2*q) 8 W.δ.acts (errC N l) N q l x)
   (fun x=>[(13,pv b13),(12,pv b12),(11,pv b11),(9,pv bj),(7,pv b5),(6,pv b4),(5,pv b3)])
   (fun x=>[x.C,fbox b13 x.ff,fbox b12 x.fl,fbox b11 x.fe,fbox b5 ⟨0,0,0,0⟩,fbox b4 ⟨0,0,0,0⟩,fbox b3 lf])
   (fun x=>l.length+1-x.j) ⟨e3,C3,f1,f2,f3,edg0 l,nmL N,[],0⟩ hst0 (body:= ?_)
  rintro⟨e,C,fe,fl,ff,E,La,Fo,j⟩ hX
  have hXs:=hsz _ hX
  obtain⟨hJ,hFe,hFl,hFf,hinv,hj⟩:=hX
  dsimp only[fbox] at hJ hFe hFl hFf hinv hj hXs⊢
  by_cases hc:(0:Int)<(fe.count:Int)
  rotate_left
  ·repeat(first|(refine st ?_;intros)|refine G.drawOrd (id:=14) [0,1,2,3,5,4,6,7] [(4,.eff [5])] (h:= ?_)|refine G.drawOrd (id:=19) [0,1,2,3,5,4,6,7,8] [(4,.eff [5])] (h:= ?_)|refine G.draw (id:=23) [(2,.eff [1])] (h:= ?_))
   refine Dn.meet ⟨e,C,fe,fl,ff,E,La,Fo,j⟩ ⟨⟨hJ,hFe,hFl,hFf,hinv,hj⟩,fun h=> ?_⟩
   have h1:=(hFe.ok h).2
   exact List.length_eq_zero_iff.1 (show E.length=0 by omega)
  obtain⟨ph,nh,pc,rest,hrow⟩:=hJ.row
  rw[hbj,hbw] at hrow
  by_cases he:e=0
  rotate_left
  ·refine G.open hrow (by(repeat(first|exact Take.here|apply Take.there))) ?_
   repeat(first|(refine st ?_;intros)|refine G.drawOrd (id:=14) [0,1,2,3,5,4,6,7] [(4,.eff [5])] (h:= ?_)|refine G.drawOrd (id:=19) [0,1,2,3,5,4,6,7,8] [(4,.eff [5])] (h:= ?_)|refine G.draw (id:=23) [(2,.eff [1])] (h:= ?_))
   refine Dn.close hrow (by(repeat(first|exact Take.here|apply Take.there))) (by(repeat(first|exact Take.here|apply Take.there))) ?_
   exact Dn.meet ⟨e,C,fe,fl,ff,E,La,Fo,j⟩ ⟨⟨hJ,hFe,hFl,hFf,hinv,hj⟩,fun h=>absurd h he⟩
  subst he
  obtain⟨hjE,ho,L,F,hI⟩:=hinv rfl
  obtain⟨hs,hsl⟩:=hXs rfl
  have hEp:0<E.length:=by have:=(hFe.ok rfl).2;omega
  have hch:=choL_len E
  have hH4:=hook_ct hR fe E hJ q hFe (fun _=>hI.eok hs) (Nat.le_refl _) hT (by simp) (by omega)
  rw[hflv,hbj] at hH4
  refine G.open hrow (by(repeat(first|exact Take.here|apply Take.there))) ?_
  repeat(first|(refine st ?_;intros)|refine G.drawOrd (id:=14) [0,1,2,3,5,4,6,7] [(4,.eff [5])] (h:= ?_)|refine G.drawOrd (id:=19) [0,1,2,3,5,4,6,7,8] [(4,.eff [5])] (h:= ?_)|refine G.draw (id:=23) [(2,.eff [1])] (h:= ?_))
  refine R1.close hrow (by(repeat(first|exact Take.here|apply Take.there))) (by(repeat(first|exact Take.here|apply Take.there))) ?_
  refine R.callX (hct:=hH4) (h:= ?_)
  rintro _ _ ⟨g4,h4,C4,e4,rfl,rfl,hJ4,hG4,hH4',hE4⟩
  dsimp only[List.cons_append,List.nil_append]
  rw[hflv,hflv]
  constructor
  ·(·(first|(intro _ _ h;cases h;done)|(repeat(first|exact qok_nil|(apply qok_cons;(·first|(intro hc;exact absurd hc (nmem rfl))|(intro _;apply CellPr.mk;(·repeat(first|exact Has.here|apply Has.there));(first|exact rfl|assumption))|(intro _;apply CellsPr.mk;(·repeat(first|exact Has.here|apply Has.there));(first|exact rfl|assumption))))))))
  have hJ4:=hJ4.perm (Gf':=[(ff,Fo),(g4,choL E),(h4,hngL E),(fe,E),(fl,La)]) (by
   refine((List.Perm.swap _ _ _).trans (.cons _ (.cons _ (.swap _ _ _)))).trans ?_
   exact(List.Perm.cons _ (.swap _ _ _)).trans (.swap _ _ _))
  have hF5:=joined_ct hR ff g4 Fo (choL E) hJ4 q (hFf.mono fun _=>rfl) hG4 (fun _=>by have:=hI.foLen hch;omega) (fun _=>hI.foOk hs) (fun _=>choL_ok (hI.eok hs).ok) (Nat.le_refl _) (by simp) (by omega)
  rw[hflv ff,hflv g4,hbj] at hF5
  repeat(first|(refine st ?_;intros)|refine G.drawOrd (id:=14) [0,1,2,3,5,4,6,7] [(4,.eff [5])] (h:= ?_)|refine G.drawOrd (id:=19) [0,1,2,3,5,4,6,7,8] [(4,.eff [5])] (h:= ?_)|refine G.draw (id:=23) [(2,.eff [1])] (h:= ?_))
  refine R.callX (hct:=hF5) (h:= ?_)
  rintro _ _ ⟨f5,C5,e5,rfl,rfl,hJ5,hF5,hE5⟩
  dsimp only[List.cons_append,List.nil_append]
  constructor
  ·(·(first|(intro _ _ h;cases h;done)|(repeat(first|exact qok_nil|(apply qok_cons;(·first|(intro hc;exact absurd hc (nmem rfl))|(intro _;apply CellPr.mk;(·repeat(first|exact Has.here|apply Has.there));(first|exact rfl|assumption))|(intro _;apply CellsPr.mk;(·repeat(first|exact Has.here|apply Has.there));(first|exact rfl|assumption))))))))
  try rw[hflv]
  have hJ5:=hJ5.perm (Gf':=[(h4,hngL E),(g4,choL E),(f5,Fo++(choL E).map fun t=>⟨t.c2,0,0,0,0⟩),(fe,E),(fl,La)]) (by
   refine(List.Perm.cons _ (.swap _ _ _)).trans ?_
   exact(List.Perm.swap _ _ _).trans (.cons _ (.swap _ _ _)))
  have hR6:=roots_ct hR h4 (hngL E) hJ5 q (hH4'.mono hE5) (fun _ j=>hI.jmpOk hs j) (fun _ j hj=>hI.jmpEnd hs (by omega) hj) (Nat.le_refl _) hT (by simp) (by omega)
  rw[hflv h4,hbj] at hR6
  repeat(first|(refine st ?_;intros)|refine G.drawOrd (id:=14) [0,1,2,3,5,4,6,7] [(4,.eff [5])] (h:= ?_)|refine G.drawOrd (id:=19) [0,1,2,3,5,4,6,7,8] [(4,.eff [5])] (h:= ?_)|refine G.draw (id:=23) [(2,.eff [1])] (h:= ?_))
  refine R.callX (hct:=hR6) (h:= ?_)
  rintro _ _ ⟨g6,H6,C6,e6,rfl,rfl,hJ6,hF6,hE6⟩
  dsimp only[List.cons_append,List.nil_append]
  rw[hflv]
  constructor
  ·(·(first|(intro _ _ h;cases h;done)|(repeat(first|exact qok_nil|(apply qok_cons;(·first|(intro hc;exact absurd hc (nmem rfl))|(intro _;apply CellPr.mk;(·repeat(first|exact Has.here|apply Has.there));(first|exact rfl|assumption))|(intro _;apply CellsPr.mk;(·repeat(first|exact Has.here|apply Has.there));(first|exact rfl|assumption))))))))
  have hrd:e6=0→∃i,Rnd E (2^(i+1))∧H6=Hm E (2^(i+1))∧(∀t∈H6,okT 2 t)∧H6.Pairwise fun a c=>a.c0<c.c0:=fun h=>by
   obtain⟨_,i,rfl,h2⟩:=hE6 h
   obtain⟨a,b⟩:=hI.rnd hs h2
   exact⟨i,a,b,hI.jmpOk hs _⟩
  have hL7:=look15ct hR hJ6 fl g6 La H6 [(g6,H6),(g4,choL E),(f5,Fo++(choL E).map fun t=>⟨t.c2,0,0,0,0⟩),(fe,E)] 1 2 (by omega) (hFl.mono fun _=>rfl) hF6 (.there (.there (.there (.there .here)))) List.mem_cons_self (fun _=>hI.ok2 hs) (fun _=>hI.laLen) (fun h=>(hrd h).choose_spec.2.2.1) (fun h=>(hrd h).choose_spec.2.2.2) (by omega) (by omega) (.inl (Nat.le_refl _)) (by omega) (by omega) hT (by simp) (by omega)
  unfold Look15 at hL7
  rw[hflv fl,hflv g6,hbj] at hL7
  repeat(first|(refine st ?_;intros)|refine G.drawOrd (id:=14) [0,1,2,3,5,4,6,7] [(4,.eff [5])] (h:= ?_)|refine G.drawOrd (id:=19) [0,1,2,3,5,4,6,7,8] [(4,.eff [5])] (h:= ?_)|refine G.draw (id:=23) [(2,.eff [1])] (h:= ?_))
  refine R.callX (hct:=hL7) (h:= ?_)
  rintro _ _ ⟨f7,C7,e7,rfl,rfl,hJ7,hF7,hE7⟩
  dsimp only[List.cons_append,List.nil_append]
  rw[hflv]
  constructor
  ·(·(first|(intro _ _ h;cases h;done)|(repeat(first|exact qok_nil|(apply qok_cons;(·first|(intro hc;exact absurd hc (nmem rfl))|(intro _;apply CellPr.mk;(·repeat(first|exact Has.here|apply Has.there));(first|exact rfl|assumption))|(intro _;apply CellsPr.mk;(·repeat(first|exact Has.here|apply Has.there));(first|exact rfl|assumption))))))))
  have hL8:=look15ct hR hJ7 fe g6 E H6 [(f7,lookL 2 1 H6 La),(g6,H6),(g4,choL E),(f5,Fo++(choL E).map fun t=>⟨t.c2,0,0,0,0⟩)] 0 3 (by omega) (hFe.mono fun _=>rfl) (hF6.mono hE7) (.there (.there (.there (.there .here)))) (List.mem_cons_of_mem _ List.mem_cons_self) (fun _=>(hI.eok hs).ok) (fun _=>rfl) (fun h=>(hrd (hE7 h)).choose_spec.2.2.1) (fun h=>(hrd (hE7 h)).choose_spec.2.2.2) (by omega) (by omega) (.inl (Nat.le_refl _)) (by omega) (by omega) hT (by simp) (by omega)
  unfold Look15 at hL8
  rw[hflv fe,hflv g6,hbj] at hL8
  repeat(first|(refine st ?_;intros)|refine G.drawOrd (id:=14) [0,1,2,3,5,4,6,7] [(4,.eff [5])] (h:= ?_)|refine G.drawOrd (id:=19) [0,1,2,3,5,4,6,7,8] [(4,.eff [5])] (h:= ?_)|refine G.draw (id:=23) [(2,.eff [1])] (h:= ?_))
  refine R.callX (hct:=hL8) (h:= ?_)
  rintro _ _ ⟨f8,C8,e8,rfl,rfl,hJ8,hF8,hE8⟩
  dsimp only[List.cons_append,List.nil_append]
  rw[hflv]
  constructor
  ·(·(first|(intro _ _ h;cases h;done)|(repeat(first|exact qok_nil|(apply qok_cons;(·first|(intro hc;exact absurd hc (nmem rfl))|(intro _;apply CellPr.mk;(·repeat(first|exact Has.here|apply Has.there));(first|exact rfl|assumption))|(intro _;apply CellsPr.mk;(·repeat(first|exact Has.here|apply Has.there));(first|exact rfl|assumption))))))))
  have hL9:=look15ct hR hJ8 f8 g6 (lookL 3 0 H6 E) H6 [(f7,lookL 2 1 H6 La),(g6,H6),(g4,choL E),(f5,Fo++(choL E).map fun t=>⟨t.c2,0,0,0,0⟩)] 1 3 (by omega) hF8 (hF6.mono fun h=>hE7 (hE8 h)) .here (List.mem_cons_of_mem _ List.mem_cons_self) (fun h=>by obtain⟨i,a,rfl,_⟩:=hrd (hE7 (hE8 h));exact hI.ed30 hs _) (fun _=>look30len _ _) (fun h=>(hrd (hE7 (hE8 h))).choose_spec.2.2.1) (fun h=>(hrd (hE7 (hE8 h))).choose_spec.2.2.2) (by omega) (by omega) (.inl (Nat.le_refl _)) (by omega) (by omega) hT (by simp) (by omega)
  unfold Look15 at hL9
  rw[hflv f8,hflv g6,hbj] at hL9
  repeat(first|(refine st ?_;intros)|refine G.drawOrd (id:=14) [0,1,2,3,5,4,6,7] [(4,.eff [5])] (h:= ?_)|refine G.drawOrd (id:=19) [0,1,2,3,5,4,6,7,8] [(4,.eff [5])] (h:= ?_)|refine G.draw (id:=23) [(2,.eff [1])] (h:= ?_))
  refine R.callX (hct:=hL9) (h:= ?_)
  rintro _ _ ⟨f9,C9,e9,rfl,rfl,hJ9,hF9,hE9⟩
  dsimp only[List.cons_append,List.nil_append]
  rw[hflv]
  constructor
  ·(·(first|(intro _ _ h;cases h;done)|(repeat(first|exact qok_nil|(apply qok_cons;(·first|(intro hc;exact absurd hc (nmem rfl))|(intro _;apply CellPr.mk;(·repeat(first|exact Has.here|apply Has.there));(first|exact rfl|assumption))|(intro _;apply CellsPr.mk;(·repeat(first|exact Has.here|apply Has.there));(first|exact rfl|assumption))))))))
  rw[show lookL 3 1 H6 (lookL 3 0 H6 E)=edL H6 E from rfl] at hJ9
  have hF9c:=hF9.cnt
  have hF9b:=hF9.blk
  have hedn:(edL H6 E).flatMap cpLF=edN H6 E:=flat_filter (fun t=>rfl) _
  have hednl:(edN H6 E).length≤E.length:=by
   have:=List.length_filter_le (fun t:T5=>decide (t.c0≠t.c1)) (edL H6 E)
   rw[edL_len] at this;exact this
  have hM10:=fun b=>SFl1 hR hJ9 [] cpLF 3 f9.count q 1 (by omega) 50 inferInstance [] (okT 3) cpL (fun t _=>by unfold cpLF;split<;>simp) (by omega) f9 (edL H6 E) (by first|exact .inr (by assumption)|exact .inl (by repeat(first|exact List.mem_cons_self|apply List.mem_cons_of_mem))) (by omega) (fun h=>by obtain⟨i,a,rfl,_⟩:=hrd (hE7 (hE8 (hE9 h)));exact hI.ed31 hs _)
   (fun h=>by rw[hedn,(hF9.ok h).2];exact hednl) (.inl (by omega)) (by omega) (by simp only[List.length_cons,List.length_nil];omega) (by omega) b
  simp only[hfl4,hedn,hbj] at hM10
  repeat(first|(refine st ?_;intros)|refine G.drawOrd (id:=14) [0,1,2,3,5,4,6,7] [(4,.eff [5])] (h:= ?_)|refine G.drawOrd (id:=19) [0,1,2,3,5,4,6,7,8] [(4,.eff [5])] (h:= ?_)|refine G.draw (id:=23) [(2,.eff [1])] (h:= ?_))
  refine R.callX (hct:=hM10 _) (h:= ?_)
  rintro _ _ ⟨f10,C10,e10,rfl,rfl,hJ10,hF10,hE10⟩
  dsimp only[List.cons_append,List.nil_append]
  constructor
  ·(·(first|(intro _ _ h;cases h;done)|(repeat(first|exact qok_nil|(apply qok_cons;(·first|(intro hc;exact absurd hc (nmem rfl))|(intro _;apply CellPr.mk;(·repeat(first|exact Has.here|apply Has.there));(first|exact rfl|assumption))|(intro _;apply CellsPr.mk;(·repeat(first|exact Has.here|apply Has.there));(first|exact rfl|assumption))))))))
  try rw[hflv]
  have hFr:=fun b=>SFree hR hJ10 [(f9,edL H6 E),(g4,choL E),(g6,H6)] [(f10,edN H6 E),(f7,lookL 2 1 H6 La),(f5,Fo++(choL E).map fun t=>⟨t.c2,0,0,0,0⟩)] (.cons (.there .here) (.cons (.there (.there (.there .here))) (.cons (.there (.there .here)) .nil))) (by simp) _ 3 _ (vec3 b f9 g4 g6)
  simp only[hfl4,List.map_cons,List.map_nil,List.cons_append,List.nil_append,hbj] at hFr
  repeat(first|(refine st ?_;intros)|refine G.drawOrd (id:=14) [0,1,2,3,5,4,6,7] [(4,.eff [5])] (h:= ?_)|refine G.drawOrd (id:=19) [0,1,2,3,5,4,6,7,8] [(4,.eff [5])] (h:= ?_)|refine G.draw (id:=23) [(2,.eff [1])] (h:= ?_))
  refine R.callX (hct:=hFr _) (h:= ?_)
  rintro _ _ ⟨C11,rfl,rfl,hJ11⟩
  dsimp only[List.cons_append,List.nil_append]
  constructor
  ·(·(first|(intro _ _ h;cases h;done)|(repeat(first|exact qok_nil|(apply qok_cons;(·first|(intro hc;exact absurd hc (nmem rfl))|(intro _;apply CellPr.mk;(·repeat(first|exact Has.here|apply Has.there));(first|exact rfl|assumption))|(intro _;apply CellsPr.mk;(·repeat(first|exact Has.here|apply Has.there));(first|exact rfl|assumption))))))))
  repeat(first|(refine st ?_;intros)|refine G.drawOrd (id:=14) [0,1,2,3,5,4,6,7] [(4,.eff [5])] (h:= ?_)|refine G.drawOrd (id:=19) [0,1,2,3,5,4,6,7,8] [(4,.eff [5])] (h:= ?_)|refine G.draw (id:=23) [(2,.eff [1])] (h:= ?_))
  have he107:e10=0→e6=0:=fun h=>hE7 (hE8 (hE9 (hE10 h)))
  refine Dn.round ⟨e10,C11,f10,f7,f5,edN H6 E,lookL 2 1 H6 La,Fo++(choL E).map fun t=>⟨t.c2,0,0,0,0⟩,j+1⟩ ⟨?_,⟨Nat.le_trans hF10.cnt hF9c,hF10.blk,hF10.ok⟩,hF7.mono fun h=>hE8 (hE9 (hE10 h)),hF5.mono fun h=>(hE6 (he107 h)).1,fun h=> ?_,by dsimp only;omega⟩ (by dsimp only;omega)
  ·exact(hJ11.more (s1:=20+70*(j+1)) (by omega)).perm (.cons _ (.swap _ _ _))
  ·obtain⟨i,a,rfl,_⟩:=hrd (he107 h)
   obtain⟨c,d⟩:=hI.step hs a
   have d:=d (by intro hn;rw[hn] at hEp;exact absurd hEp (by decide))
   exact⟨by dsimp only;omega,ho,_,_,c⟩
 rintro⟨e,C,fe,fl,ff,E,La,Fo,j⟩ ⟨hX,hnil⟩
 have hXs:=hsz _ hX
 obtain⟨hJ,hFe,hFl,hFf,hinv,hj⟩:=hX
 dsimp only[fbox] at hJ hFe hFl hFf hinv hj hXs hnil⊢
 have hJ:=(hJ.more (s1:=9120) (by omega)).perm (Gf':=[(fl,La),(fe,E),(ff,Fo)]) ((List.Perm.cons _ (.swap _ _ _)).trans (.swap _ _ _))
 have hinv2:e=0→SlOk N (slS l)∧∃L F,CInv N (slS l) L F [] La Fo:=fun h=>by
  obtain⟨_,_,L,F,hI⟩:=hinv h
  rw[hnil h] at hI
  exact⟨(hXs h).1,L,F,hI⟩
 have hH5:=least_ct hR fl La hJ q N hFl (fun h=>by obtain⟨a,L,F,b⟩:=hinv2 h;exact b.ok2 a) (fun h=>by obtain⟨a,L,F,b⟩:=hinv2 h;exact b.laLen) (Nat.le_refl _) hT (by simp) (by omega)
 rw[hflv fl,hbj] at hH5
 repeat(first|(refine st ?_;intros)|refine G.drawOrd (id:=14) [0,1,2,3,5,4,6,7] [(4,.eff [5])] (h:= ?_)|refine G.drawOrd (id:=19) [0,1,2,3,5,4,6,7,8] [(4,.eff [5])] (h:= ?_)|refine G.draw (id:=23) [(2,.eff [1])] (h:= ?_))
 refine R.callX (hct:=hH5) (h:= ?_)
 rintro _ _ ⟨f5,C5,e5,rfl,rfl,hJ5,hF5,hE5⟩
 dsimp only[List.cons_append,List.nil_append]
 constructor
 ·(·(first|(intro _ _ h;cases h;done)|(repeat(first|exact qok_nil|(apply qok_cons;(·first|(intro hc;exact absurd hc (nmem rfl))|(intro _;apply CellPr.mk;(·repeat(first|exact Has.here|apply Has.there));(first|exact rfl|assumption))|(intro _;apply CellsPr.mk;(·repeat(first|exact Has.here|apply Has.there));(first|exact rfl|assumption))))))))
 try rw[hflv]
 have hS6:=SSort hR hJ5 ff Fo [(f5,labF La),(fe,E)] o1 rfl true (hFf.mono hE5) (.there (.there .here)) (by omega) (by omega) hT (by omega)
 rw[hflv ff,hto1,hbj] at hS6
 repeat(first|(refine st ?_;intros)|refine G.drawOrd (id:=14) [0,1,2,3,5,4,6,7] [(4,.eff [5])] (h:= ?_)|refine G.drawOrd (id:=19) [0,1,2,3,5,4,6,7,8] [(4,.eff [5])] (h:= ?_)|refine G.draw (id:=23) [(2,.eff [1])] (h:= ?_))
 refine R.callX (hct:=hS6) (h:= ?_)
 rintro _ _ ⟨f6,C6,e6,rfl,rfl,hJ6,hF6,hE6⟩
 dsimp only[List.cons_append,List.nil_append]
 constructor
 ·(·(first|(intro _ _ h;cases h;done)|(repeat(first|exact qok_nil|(apply qok_cons;(·first|(intro hc;exact absurd hc (nmem rfl))|(intro _;apply CellPr.mk;(·repeat(first|exact Has.here|apply Has.there));(first|exact rfl|assumption))|(intro _;apply CellsPr.mk;(·repeat(first|exact Has.here|apply Has.there));(first|exact rfl|assumption))))))))
 try rw[hflv]
 have he6:e6=0→e=0:=fun h=>hE5 (hE6 h)
 have hF6':FB (2*q) q 1 (srt (ltO o1) true Fo).length e6 f6:=hF6
 have hN7:=named_ct hR f6 lf Fo l hJ6 hl0 hw q hF6' hcn (fun h=>by obtain⟨a,L,F,b⟩:=hinv2 (he6 h);exact b.foOk a) (fun h=>(hinv2 (he6 h)).1.lt) (Nat.le_refl _) hT (by simp) (by omega)
 rw[hflv f6,hflv lf,hbj] at hN7
 repeat(first|(refine st ?_;intros)|refine G.drawOrd (id:=14) [0,1,2,3,5,4,6,7] [(4,.eff [5])] (h:= ?_)|refine G.drawOrd (id:=19) [0,1,2,3,5,4,6,7,8] [(4,.eff [5])] (h:= ?_)|refine G.draw (id:=23) [(2,.eff [1])] (h:= ?_))
 refine R.callX (hct:=hN7) (h:= ?_)
 rintro _ _ ⟨f7,C7,e7,rfl,rfl,hJ7,hF7,hE7⟩
 dsimp only[List.cons_append,List.nil_append]
 constructor
 ·(·(first|(intro _ _ h;cases h;done)|(repeat(first|exact qok_nil|(apply qok_cons;(·first|(intro hc;exact absurd hc (nmem rfl))|(intro _;apply CellPr.mk;(·repeat(first|exact Has.here|apply Has.there));(first|exact rfl|assumption))|(intro _;apply CellsPr.mk;(·repeat(first|exact Has.here|apply Has.there));(first|exact rfl|assumption))))))))
 try rw[hflv]
 have hRs:=fun b=>JResult (begP bw bd ba bs bj W) hp _ C7 hJ7.job [f5,f7] (by simp) (some ⟨b,0,none⟩) 2 _ (vec2 b f5 f7)
 simp only[hfl4,hbj,List.cons_append,List.nil_append] at hRs
 repeat(first|(refine st ?_;intros)|refine G.drawOrd (id:=14) [0,1,2,3,5,4,6,7] [(4,.eff [5])] (h:= ?_)|refine G.drawOrd (id:=19) [0,1,2,3,5,4,6,7,8] [(4,.eff [5])] (h:= ?_)|refine G.draw (id:=23) [(2,.eff [1])] (h:= ?_))
 refine R.call (hct:=hRs _) (h:= ?_)
 rintro _ _ ⟨cd5,ca5,cs5,W5,rfl,rfl,hW5,hD⟩
 try dsimp only[List.cons_append,List.nil_append]
 have hSt:=done_stepped2 (A:=compA) (T:=compA) (Pr:=compSpec N l) (w1:=2) (w2:=3) (ts:=labF La) (us:=treF Fo l) (G2:=[(fe,E)]) hD (.swap _ _ _) (by dsimp only;unfold compA;omega) (by dsimp only;unfold compA;omega) (fun h=>by
  obtain⟨a,L,F,b⟩:=hinv2 (he6 (hE7 h))
  exact⟨b.spec a,((hF5.ok (hE6 (hE7 h))).1),(hF7.ok h).1⟩)
 dsimp only at hSt
 by_cases he:e7=0
 ·subst he
  rw[if_pos rfl,if_pos rfl] at hSt
  repeat(first|(refine st ?_;intros)|refine G.drawOrd (id:=14) [0,1,2,3,5,4,6,7] [(4,.eff [5])] (h:= ?_)|refine G.drawOrd (id:=19) [0,1,2,3,5,4,6,7,8] [(4,.eff [5])] (h:= ?_)|refine G.draw (id:=23) [(2,.eff [1])] (h:= ?_))
  (refine Dn.post (Hr:=[wrow bw bd ba bs,cd5,ca5,cs5]) Tryz.results16 (hR:= ?_);exact .inl ⟨hroom8,f5,f7,0,cd5,ca5,cs5,W5,rfl,rfl,hW5,hSt⟩)
 ·rw[if_neg he,if_neg he] at hSt
  repeat(first|(refine st ?_;intros)|refine G.drawOrd (id:=14) [0,1,2,3,5,4,6,7] [(4,.eff [5])] (h:= ?_)|refine G.drawOrd (id:=19) [0,1,2,3,5,4,6,7,8] [(4,.eff [5])] (h:= ?_)|refine G.draw (id:=23) [(2,.eff [1])] (h:= ?_))
  (refine Dn.post (Hr:=[wrow bw bd ba bs,cd5,ca5,cs5]) Tryz.results16 (hR:= ?_);exact .inl ⟨hroom8,⟨0,0,0,0⟩,⟨0,0,0,0⟩,e7,cd5,ca5,cs5,W5,rfl,rfl,hW5,hSt⟩)
end Go.Proofs.YtpckicjfigmjkaaGreat
namespace Go.SL
section
variable {P:Program} {ops:Array Oper} {Q:Exit→Act→World→Prop} {cls:Nat→Oper→Cls} {w0:World} {S:List Nat} {n:Nat} {l:List (Nat×Oper)} {L:Slots} {D:List Deferred} {H:Hp} {qs:List Rd} {k d T yT:Nat} {x y:Operand} {ty:TypeId} {pos:String} {af:Array Edge} {g:Option (Nat×Bool)}
theorem R.neq4 [ho:Eq4 P T] {a0 a1 a2 a3 b0 b1 b2 b3:Int} (hx:ev L x=some (.agg #[.int .i64 a0,.int .i64 a1,.int .i64 a2,.int .i64 a3]))
  (hy:ev L y=some (.agg #[.int .i64 b0,.int .i64 b1,.int .i64 b2,.int .i64 b3]))
  (hc:cls k ⟨some d,.binOp .neq T x y yT,ty,pos,af,g⟩= .pure) (hn:d<n)
  (h:R P ops Q cls w0 S n l ((d,.bool (dec (¬(a0=b0∧a1=b1∧a2=b2∧a3=b3))))::L) D H qs):R1 P ops Q cls w0 S n k ⟨some d,.binOp .neq T x y yT,ty,pos,af,g⟩ l L D H qs:=
 R1.pureStep hc rfl hn (fun a hf w=>by simp[execOp,hf.eval hx,hf.eval hy,ho.guard,binOp,ho.run,dec_eq]) h
end
end Go.SL
namespace Go.Proofs.YtpckicjfigmjkaaGreat
open Go.SL Go.Spc Go.Tup Go.Srt
structure Ons (n ro:Nat) (W:Wk) (fs:List Fl):Prop where
 size:W.δ.size=10
 room:W.α.room=ro
 used:W.α.used=0
 acts:W.δ.acts≤1000000000
 n:W.σ.n=n
 live:W.live.Perm (addFs fs [])
theorem Ons.flt {n ro:Nat} {W:Wk} {fs:List Fl} (h:Ons n ro W fs) (x:Int):Ons n ro (W.flt x) fs:={h with}
theorem Ons.fresh (n ro:Nat):Ons n ro (wk0 10 n ro) []:=⟨rfl,rfl,rfl,Nat.zero_le _,rfl,.refl _⟩
theorem Ons.lay {n ro k m:Nat} {bd ba bs:Nat} {cd ca cs cd1 ca1 cs1:Chunk} {W W1:Wk} {f:Fl} {fs:List Fl} {ts:List T5} (h:Ons n ro W fs) (hW:Wc bd ba bs W cd ca cs) (hW1:Wc bd ba bs W1 cd1 ca1 cs1) (hE:Ev W W1 (nblocks 10 k m) (nblocks 10 k m)) (hg:W1.α.gs.Perm W.α.gs) (hl:W1.live.Perm (addF f W.live)) (hfo:FileOk W1.δ.disk 10 [f.ext] f ts) (ha:W.δ.acts+nblocks 10 k m≤1000000000):
  Ons n ro W1 (fs++[f])∧FileIn W1 (f,ts):=by
 have h1:W1.δ.size=10:=hE.size.trans h.size
 have h2:=hE.acts.2
 exact⟨⟨h1,hE.room.trans h.room,(used_eq hW hW1 hg).trans h.used,by omega,hE.n.trans h.n,(hl.trans (addF_perm h.live)).trans (by rw[←addFs_app])⟩,FileIn.new hfo h1 hl⟩
theorem nb3 {n:Nat}:nblocks 10 3 n≤(n+1)/2:=by
 unfold nblocks
 have:holds 10 3=2:=by decide
 rw[this];omega
end Go.Proofs.YtpckicjfigmjkaaGreat
namespace Go.Gr
variable {g:Nat→Ed} {S S':Nat→Prop}
def Mn (g:Nat→Ed) (S:Nat→Prop) (v:Nat):Prop:=∀u,u<v→¬Cn g S u v
theorem least_of {p:Nat→Prop}:∀{n:Nat},p n→∃m,m≤n∧p m∧∀k,k<m→¬p k:=by
 intro n
 induction n using Nat.strongRecOn with
 |ind n ih=>
  intro h
  by_cases hx:∃k,k<n∧p k
  ·obtain⟨k,hk,hpk⟩:=hx
   obtain⟨m,hm,h1,h2⟩:=ih k hk hpk
   exact⟨m,by omega,h1,h2⟩
  ·exact⟨n,Nat.le_refl _,h,fun k hk hp=>hx ⟨k,hk,hp⟩⟩
theorem Mn.of (g:Nat→Ed) (S:Nat→Prop) (x:Nat):∃m,m≤x∧Cn g S m x∧Mn g S m:=by
 obtain⟨m,h1,h2,h3⟩:=least_of (p:=fun u=>Cn g S u x) (n:=x) (.refl x)
 exact⟨m,h1,h2,fun u hu hc=>h3 u hu (hc.trans h2)⟩
theorem Mn.uniq {a b:Nat} (ha:Mn g S a) (hb:Mn g S b) (h:Cn g S a b):a=b:=by
 rcases Nat.lt_trichotomy a b with h1|h1|h1
 ·exact(hb a h1 h).elim
 ·exact h1
 ·exact(ha b h1 h.symm).elim
theorem Mn.le {a b:Nat} (ha:Mn g S a) (h:Cn g S a b):a≤b:=by
 rcases Nat.lt_or_ge b a with h1|h1
 ·exact(ha b h1 h.symm).elim
 ·exact h1
theorem count_less {p q:Nat→Bool} {c:Nat}:∀{n:Nat},(∀v,v<n→(q v=true↔p v=true∧v≠c))→p c=true→c<n→((List.range n).filter q).length+1=((List.range n).filter p).length:=by
 have same:∀{n:Nat},(∀v,v<n→(q v=true↔p v=true∧v≠c))→n≤c→((List.range n).filter q).length=((List.range n).filter p).length:=by
  intro n h hn
  congr 1
  refine List.filter_congr fun v hv=> ?_
  have h1:=List.mem_range.1 hv
  have h2:=h v h1
  rw[Bool.eq_iff_iff,h2]
  exact⟨fun h=>h.1,fun h=>⟨h,by omega⟩⟩
 intro n
 induction n with
 |zero=>intro _ _ h;omega
 |succ n ih=>
  intro h hc hn
  rw[List.range_succ,List.filter_append,List.filter_append,List.length_append,List.length_append]
  by_cases hcn:c=n
  ·subst hcn
   have h1:=same (n:=c) (fun v hv=>h v (by omega)) (Nat.le_refl _)
   have h2:q c=false:=by
    cases hq:q c with
    |false=>rfl
    |true=>exact((h c (by omega)).1 hq).2.elim rfl
   simp[h1,h2,hc]
  ·have h1:=ih (fun v hv=>h v (by omega)) hc (by omega)
   have h2:q n=p n:=by
    rw[Bool.eq_iff_iff,h n (by omega)]
    exact⟨fun h=>h.1,fun h=>⟨h,fun e=>hcn e.symm⟩⟩
   have h3:(List.filter q [n]).length=(List.filter p [n]).length:=by simp[List.filter_cons,h2]
   omega
theorem forest_count {n:Nat} (mb:Nat→Nat→Bool) (kb:Nat→Bool) (hm:∀k v,mb k v=true↔Mn g (fun j=>j<k) v) (hk:∀i,kb i=true↔¬Cn g (fun j=>j<i) (g i).1 (g i).2):
  ∀m,(∀j,j<m→(g j).1<n∧(g j).2<n)→((List.range n).filter (mb m)).length+((List.range m).filter kb).length=n
 |0,_=>by
  have:(List.range n).filter (mb 0)=List.range n:=by
   rw[List.filter_eq_self]
   intro v _
   rw[hm]
   intro u hu hc
   have:u=v:=hc.stay (X:=fun y=>u=y) rfl (fun j hj=>absurd hj (Nat.not_lt_zero j))
   omega
  rw[this];simp
 |m+1,hg=>by
  have ih:=forest_count mb kb hm hk m (fun j hj=>hg j (by omega))
  rw[List.range_succ,List.filter_append,List.length_append]
  have hmono:∀{a b},Cn g (fun j=>j<m) a b→Cn g (fun j=>j<m+1) a b:=fun h=>h.mono fun i hi=>Nat.lt_succ_of_lt hi
  have hadd:∀{a b},Cn g (fun j=>j<m+1) a b→Cn g (fun j=>j<m∨j=m) a b:=fun h=>h.mono fun i hi=>by
   rcases Nat.lt_or_ge i m with h|h
   ·exact .inl h
   ·exact .inr (by omega)
  by_cases hc:Cn g (fun j=>j<m) (g m).1 (g m).2
  ·have hkm:kb m=false:=by
    cases h:kb m with
    |false=>rfl
    |true=>exact((hk m).1 h hc).elim
   have hsame:(List.range n).filter (mb (m+1))=(List.range n).filter (mb m):=by
    refine List.filter_congr fun v _=> ?_
    rw[Bool.eq_iff_iff,hm,hm]
    refine⟨fun h u hu hx=>h u hu (hmono hx),fun h u hu hx=> ?_⟩
    refine h u hu ((hadd hx).sub fun i hi=> ?_)
    rcases hi with hi|rfl
    ·exact Cn.edge hi
    ·exact hc
   rw[hsame];simp[hkm];omega
  ·have hkm:kb m=true:=(hk m).2 hc
   obtain⟨a,a1,a2,a3⟩:=Mn.of g (fun j=>j<m) (g m).1
   obtain⟨b,b1,b2,b3⟩:=Mn.of g (fun j=>j<m) (g m).2
   have hab:a≠b:=by rintro rfl;exact hc (a2.symm.trans b2)
   have hgm:=hg m (by omega)
   have hedge:Cn g (fun j=>j<m+1) a b:=((hmono a2).trans (Cn.edge (Nat.lt_succ_self m))).trans (hmono b2).symm
   have hiff:∀v,Mn g (fun j=>j<m+1) v↔Mn g (fun j=>j<m) v∧v≠max a b:=by
    intro v
    constructor
    ·intro h
     refine⟨fun u hu hx=>h u hu (hmono hx),?_⟩
     rintro rfl
     rcases Nat.lt_or_ge a b with h1|h1
     ·refine h a (by omega) ?_
      rw[Nat.max_eq_right (by omega)];exact hedge
     ·refine h b (by omega) ?_
      rw[Nat.max_eq_left (by omega)];exact hedge.symm
    ·rintro⟨h,hne⟩ u hu hx
     rcases(hadd hx).add with h1|⟨h1,h2⟩|⟨h1,h2⟩
     ·exact h u hu h1
     ·have e1:=Mn.uniq b3 h (b2.trans h2)
      have e2:=Mn.le a3 (a2.trans h1.symm)
      refine hne ?_
      subst e1
      omega
     ·have e1:=Mn.uniq a3 h (a2.trans h2)
      have e2:=Mn.le b3 (b2.trans h1.symm)
      refine hne ?_
      subst e1
      omega
   have h1:=count_less (p:=mb m) (q:=mb (m+1)) (c:=max a b) (n:=n) (fun v _=>by rw[hm,hm,hiff]) (by
    rw[hm]
    rcases Nat.lt_or_ge a b with h|h
    ·rw[Nat.max_eq_right (by omega)];exact b3
    ·rw[Nat.max_eq_left (by omega)];exact a3) (by omega)
   simp[hkm]
   omega
end Go.Gr
namespace Go.Proofs.YtpckicjfigmjkaaGreat
open Go.SL Go.Tup Go.Srt Go.Gr
theorem compSpec.at_ {N:Nat} {ts a b sl:List T5} (ho:edgesOk N ts) (h:compSpec N ts a b) (hp:sl.Perm ts) (hs:sl.Pairwise fun x y=>x.c0<y.c0):∃fl lab,LabOk (gE (sl.map eOf)) (fun i=>i<sl.length) N (-1) lab∧forestOk (sl.map eOf) fl∧a=labT lab∧b=forT sl fl:=by
 obtain⟨sl',fl,lab,p1,p2,p3,p4,rfl,rfl⟩:=h
 have hst:sl'.Pairwise fun a c=>a.c0<c.c0:=by
  have h1:sl'.Pairwise fun a c=>a.c0≠c.c0:=(p1.pairwise_iff (R:=fun a c:T5=>a.c0≠c.c0) (fun hh=>fun e=>hh e.symm)).2 ho.2
  exact(p2.and h1).imp fun {x y} ⟨h3,h4⟩=>by omega
 obtain rfl:sl'=sl:=strictExt hst hs fun z=>by rw[p1.mem_iff,hp.mem_iff]
 exact⟨fl,lab,p3,p4,rfl,rfl⟩
theorem labUniq {g:Nat→Ed} {S:Nat→Prop} {N:Nat} {l l':List Int} (h:LabOk g S N (-1) l) (h':LabOk g S N (-1) l'):l=l':=by
 refine List.ext_getElem? fun v=> ?_
 by_cases hv:v<N
 ·obtain⟨x,h1,h2,_,h4⟩:=h.at_ v hv (by omega)
  obtain⟨y,g1,g2,_,g4⟩:=h'.at_ v hv (by omega)
  have:=h4 y g2
  have:=g4 x h2
  rw[h1,g1]
  congr 1
  omega
 ·rw[List.getElem?_eq_none (by rw[h.len];omega),List.getElem?_eq_none (by rw[h'.len];omega)]
def edT3 (es:List IE):List T5:=(List.range es.length).map fun (i:Nat)=>⟨3*(i:Int),(es.getD i (0,0)).1,(es.getD i (0,0)).2,0,0⟩
theorem edT3len (es:List IE):(edT3 es).length=es.length:=by simp[edT3]
theorem edT3get {es:List IE} {i:Nat} {e:IE} (h:es[i]? =some e):(edT3 es)[i]? =some ⟨3*(i:Int),e.1,e.2,0,0⟩:=by
 have hi:=(List.getElem?_eq_some_iff.1 h).1
 unfold edT3
 rw[List.getElem?_map,List.getElem?_range hi]
 simp only[Option.map_some,List.getD_eq_getElem?_getD,h,Option.getD_some]
theorem edT3lt (es:List IE):(edT3 es).Pairwise fun a b=>a.c0<b.c0:=by
 unfold edT3
 rw[List.pairwise_map]
 exact(List.pairwise_lt_range).imp fun h=>by dsimp only;omega
theorem edT3mem {es:List IE} {t:T5} (h:t∈edT3 es):∃(i:Nat) (e:IE),es[i]? =some e∧t=⟨3*(i:Int),e.1,e.2,0,0⟩:=by
 obtain⟨i,hi⟩:=List.mem_iff_getElem?.1 h
 have hl:=(List.getElem?_eq_some_iff.1 hi).1
 rw[edT3len] at hl
 have he:es[i]? =some es[i]:=List.getElem?_eq_getElem hl
 rw[edT3get he] at hi
 exact⟨i,es[i],he,(Option.some.inj hi).symm⟩
theorem edT3eOf (es:List IE):(edT3 es).map eOf=es:=by
 refine List.ext_getElem? fun i=> ?_
 rw[List.getElem?_map]
 by_cases hi:i<es.length
 ·rw[edT3get (List.getElem?_eq_getElem hi),List.getElem?_eq_getElem hi];rfl
 ·rw[List.getElem?_eq_none (by rw[edT3len];omega),List.getElem?_eq_none (by omega)];rfl
theorem edT3ok {N:Nat} {es:List IE} (hf:∀e∈es,inE N e):edgesOk N (edT3 es):=by
 refine⟨fun t ht=> ?_,(edT3lt es).imp fun h=>by omega⟩
 obtain⟨i,e,he,rfl⟩:=edT3mem ht
 obtain⟨h1,h2,h3,h4⟩:=hf e (List.mem_of_getElem? he)
 unfold edgeOk
 dsimp only
 omega
def swT (t:T5):T5:=⟨t.c0,t.c2,t.c1,0,0⟩
theorem cn_turn {g g':Nat→Ed} {S:Nat→Prop} (hg:∀i,S i→(g' i=g i∨g' i=((g i).2,(g i).1))) {a b:Nat} (h:Cn g' S a b):Cn g S a b:=by
 induction h with
 |refl=>exact .refl _
 |step _ hj ih=>
  obtain⟨i,h1,h2⟩:=hj
  refine ih.trans (.one ⟨i,h1,?_⟩)
  rcases hg i h1 with h|h<;>rw[h] at h2
  ·exact h2
  ·exact h2.symm.imp (fun ⟨a,b⟩=>⟨b,a⟩) (fun ⟨a,b⟩=>⟨b,a⟩)
theorem gE_turn {sl:List T5} {i:Nat} (hi:i<sl.length):gE ((sl.map swT).map eOf) i=((gE (sl.map eOf) i).2,(gE (sl.map eOf) i).1):=by
 have h1:sl[i]? =some sl[i]:=List.getElem?_eq_getElem hi
 have h2:(sl.map swT)[i]? =some (swT sl[i]):=by rw[List.getElem?_map,h1];rfl
 rw[gE_sl h1,gE_sl h2];rfl
theorem gE_turn' {sl:List T5} {i:Nat} (hi:i<sl.length):gE (sl.map eOf) i=((gE ((sl.map swT).map eOf) i).2,(gE ((sl.map swT).map eOf) i).1):=by
 rw[gE_turn hi]
theorem comp_order {N:Nat} {sl ts us a b c d:List T5} (hsl:sl.Pairwise fun x y=>x.c0<y.c0) (hp:sl.Perm ts) (hq:us.Perm (sl.map swT)) (ho:edgesOk N ts) (h1:compSpec N ts a b) (h2:compSpec N us c d):
  a=c∧d=b.map swT:=by
 have hos:edgesOk N sl:=⟨fun t ht=>ho.1 t (hp.mem_iff.1 ht),hsl.imp fun h=>by omega⟩
 have ho2:edgesOk N us:=by
  refine⟨fun t ht=> ?_,?_⟩
  ·obtain⟨s,hs,rfl⟩:=List.mem_map.1 (hq.mem_iff.1 ht)
   obtain⟨a1,a2,a3,a4,a5⟩:=hos.1 s hs
   exact⟨a1,a3,a2,a5,a4⟩
  ·refine(hq.pairwise_iff (R:=fun a c:T5=>a.c0≠c.c0) (fun hh=>fun e=>hh e.symm)).2 ?_
   exact List.pairwise_map.2 (hsl.imp fun h=>by show _≠_;exact fun e=>by have e:_=_:=e;simp only[swT] at e;omega)
 have hsw:(sl.map swT).Pairwise fun x y=>x.c0<y.c0:=List.pairwise_map.2 (hsl.imp fun h=>h)
 obtain⟨fl,lab,p1,p2,rfl,rfl⟩:=h1.at_ ho hp hsl
 obtain⟨fl',lab',q1,q2,rfl,rfl⟩:=h2.at_ ho2 hq.symm hsw
 have hcn:∀{S:Nat→Prop},(∀i,S i→i<sl.length)→∀{x y:Nat},Cn (gE ((sl.map swT).map eOf)) S x y↔Cn (gE (sl.map eOf)) S x y:=fun {S} hS {x y}=>
  ⟨fun h=>cn_turn (h:=h) fun i hi=> .inr (gE_turn (hS i hi)),fun h=>cn_turn (h:=h) fun i hi=> .inr (gE_turn' (hS i hi))⟩
 have hlen:(sl.map swT).length=sl.length:=by simp
 have hlab:lab=lab':=by
  refine labUniq p1 ⟨q1.len,fun v hv hw=> ?_,q1.out⟩
  obtain⟨x,a1,a2,a3,a4⟩:=q1.at_ v hv hw
  rw[hlen] at a2 a4
  exact⟨x,a1,(hcn fun i hi=>hi).1 a2,a3,fun u hu=>a4 u ((hcn fun i hi=>hi).2 hu)⟩
 have hfl:fl'=fl:=by
  refine List.ext_getElem (by rw[p2.1,q2.1];simp) fun i hi hj=> ?_
  have k1:=p2.2 i _ (List.getElem?_eq_getElem hj)
  have k2:=q2.2 i _ (List.getElem?_eq_getElem hi)
  have hil:i<sl.length:=by have:=p2.1;simp at this;omega
  have k3:Kr (gE ((sl.map swT).map eOf)) (fun j=>j<((sl.map swT).map eOf).length) i↔Kr (gE (sl.map eOf)) (fun j=>j<(sl.map eOf).length) i:=by
   unfold Kr
   simp only[List.length_map]
   rw[gE_turn hil,hcn fun j hj=>hj.1]
   dsimp only
   exact and_congr Iff.rfl (not_congr ⟨fun h=>h.symm,fun h=>h.symm⟩)
  have k4:=k1.trans (k3.symm.trans k2.symm)
  cases hb:fl[i]<;>cases hb':fl'[i]<;>rw[hb,hb'] at k4<;>simp at k4⊢
 subst hlab hfl
 refine⟨rfl,?_⟩
 unfold forT
 rw[List.zip_map_left,List.filterMap_map,List.map_filterMap]
 congr 1
 funext ⟨t,b⟩
 cases b<;>rfl
theorem comp_more {N:Nat} {sl a b c d:List T5} {e:T5} (hsl:(sl++[e]).Pairwise fun x y=>x.c0<y.c0) (ho:edgesOk N (sl++[e])) (hz:e.c3=0∧e.c4=0) (h1:compSpec N sl a b) (h2:compSpec N (sl++[e]) c d):
  ∃lab lab':List Int,a=labT lab∧c=labT lab'∧lab.length=N∧lab'.length=N∧∃x y:Nat,lab[e.c1.toNat]? =some (x:Int)∧lab[e.c2.toNat]? =some (y:Int)∧
   (∀k,k<N→∃z:Nat,lab[k]? =some (z:Int)∧lab'[k]? =some (if z=x∨z=y then((min x y:Nat):Int) else(z:Int)))∧d=b++(if x=y then[] else[⟨e.c0,e.c1,e.c2,0,0⟩]):=by
 obtain⟨hs1,_,hs3⟩:=List.pairwise_append.1 hsl
 have ho1:edgesOk N sl:=⟨fun t ht=>ho.1 t (List.mem_append_left _ ht),hs1.imp fun h=>by omega⟩
 obtain⟨fl,lab,p1,p2,rfl,rfl⟩:=h1.at_ ho1 (.refl _) hs1
 obtain⟨fl',lab',q1,q2,rfl,rfl⟩:=h2.at_ ho (.refl _) hsl
 have he:=ho.1 e (by simp)
 unfold edgeOk at he
 have hgi:∀i,i<sl.length→gE ((sl++[e]).map eOf) i=gE (sl.map eOf) i:=fun i hi=>by
  have k1:sl[i]? =some sl[i]:=List.getElem?_eq_getElem hi
  have k2:(sl++[e])[i]? =some sl[i]:=by rw[List.getElem?_append_left hi];exact k1
  rw[gE_sl k1,gE_sl k2]
 have hge:gE ((sl++[e]).map eOf) sl.length=(e.c1.toNat,e.c2.toNat):=by
  have k2:(sl++[e])[sl.length]? =some e:=by simp
  rw[gE_sl k2]
 have hcn:∀{S:Nat→Prop},(∀i,S i→i<sl.length)→∀{x y:Nat},Cn (gE ((sl++[e]).map eOf)) S x y↔Cn (gE (sl.map eOf)) S x y:=fun {S} hS {x y}=>
  ⟨fun h=>cn_turn (h:=h) fun i hi=> .inl (hgi i (hS i hi)),fun h=>cn_turn (h:=h) fun i hi=> .inl (hgi i (hS i hi)).symm⟩
 have hlen:(sl++[e]).length=sl.length+1:=by simp
 rw[hlen] at q1
 have hu:e.c1.toNat<N:=by omega
 have hv:e.c2.toNat<N:=by omega
 obtain⟨x,x1,x2,_,x4⟩:=p1.at_ _ hu (by omega)
 obtain⟨y,y1,y2,_,y4⟩:=p1.at_ _ hv (by omega)
 have hmono:∀{p q:Nat},Cn (gE (sl.map eOf)) (fun i=>i<sl.length) p q→Cn (gE ((sl++[e]).map eOf)) (fun i=>i<sl.length+1) p q:=fun h=>((hcn fun i hi=>hi).2 h).mono fun i hi=>Nat.lt_succ_of_lt hi
 have hedge:Cn (gE ((sl++[e]).map eOf)) (fun i=>i<sl.length+1) e.c1.toNat e.c2.toNat:=by
  have:=Cn.edge (g:=gE ((sl++[e]).map eOf)) (S:=fun i=>i<sl.length+1) (i:=sl.length) (Nat.lt_succ_self _)
  rwa[hge] at this
 have hsplit:∀{p q:Nat},Cn (gE ((sl++[e]).map eOf)) (fun i=>i<sl.length+1) p q→Cn (gE (sl.map eOf)) (fun i=>i<sl.length) p q∨(Cn (gE (sl.map eOf)) (fun i=>i<sl.length) p e.c1.toNat∧Cn (gE (sl.map eOf)) (fun i=>i<sl.length) e.c2.toNat q)∨(Cn (gE (sl.map eOf)) (fun i=>i<sl.length) p e.c2.toNat∧Cn (gE (sl.map eOf)) (fun i=>i<sl.length) e.c1.toNat q):=by
  intro p q h
  have h3:Cn (gE ((sl++[e]).map eOf)) (fun j=>j<sl.length∨j=sl.length) p q:=h.mono fun i hi=>by omega
  have h4:=h3.add
  rw[hge] at h4
  dsimp only at h4
  rcases h4 with h5|⟨h5,h6⟩|⟨h5,h6⟩
  ·exact .inl ((hcn fun i hi=>hi).1 h5)
  ·exact .inr (.inl ⟨(hcn fun i hi=>hi).1 h5,(hcn fun i hi=>hi).1 h6⟩)
  ·exact .inr (.inr ⟨(hcn fun i hi=>hi).1 h5,(hcn fun i hi=>hi).1 h6⟩)
 refine⟨lab,lab',rfl,rfl,p1.len,q1.len,x,y,x1,y1,fun k hk=> ?_,?_⟩
 ·obtain⟨z,z1,z2,_,z4⟩:=p1.at_ k hk (by omega)
  obtain⟨w,w1,w2,_,w4⟩:=q1.at_ k hk (by omega)
  refine⟨z,z1,?_⟩
  rw[w1]
  congr 1
  have hzx:z=x→Cn (gE (sl.map eOf)) (fun i=>i<sl.length) k e.c1.toNat:=fun hh=>by subst hh;exact z2.trans x2.symm
  have hzy:z=y→Cn (gE (sl.map eOf)) (fun i=>i<sl.length) k e.c2.toNat:=fun hh=>by subst hh;exact z2.trans y2.symm
  have hxz:Cn (gE (sl.map eOf)) (fun i=>i<sl.length) k e.c1.toNat→z=x:=fun hh=>by
   have:=z4 x (hh.trans x2)
   have:=x4 z (hh.symm.trans z2)
   omega
  have hyz:Cn (gE (sl.map eOf)) (fun i=>i<sl.length) k e.c2.toNat→z=y:=fun hh=>by
   have:=z4 y (hh.trans y2)
   have:=y4 z (hh.symm.trans z2)
   omega
  by_cases hc:z=x∨z=y
  ·rw[if_pos hc]
   have hkx:Cn (gE ((sl++[e]).map eOf)) (fun i=>i<sl.length+1) k e.c1.toNat:=by
    rcases hc with hc|hc
    ·exact hmono (hzx hc)
    ·exact(hmono (hzy hc)).trans hedge.symm
   have a1:=w4 x (hkx.trans (hmono x2))
   have a2:=w4 y ((hkx.trans hedge).trans (hmono y2))
   have a3:x≤w∨y≤w:=by
    rcases hsplit w2 with h5|⟨_,h6⟩|⟨_,h6⟩
    ·rcases hc with hc|hc
     ·exact .inl (by have:=z4 w h5;omega)
     ·exact .inr (by have:=z4 w h5;omega)
    ·exact .inr (y4 w h6)
    ·exact .inl (x4 w h6)
   omega
  ·rw[if_neg hc]
   have hsame:∀{q:Nat},Cn (gE ((sl++[e]).map eOf)) (fun i=>i<sl.length+1) k q→Cn (gE (sl.map eOf)) (fun i=>i<sl.length) k q:=by
    intro q hq
    rcases hsplit hq with h5|⟨h5,_⟩|⟨h5,_⟩
    ·exact h5
    ·exact absurd (.inl (hxz h5)) hc
    ·exact absurd (.inr (hyz h5)) hc
   have:=w4 z (hmono z2)
   have:=z4 w (hsame w2)
   omega
 ·have hxy:x=y↔Cn (gE (sl.map eOf)) (fun i=>i<sl.length) e.c1.toNat e.c2.toNat:=by
   constructor
   ·rintro rfl;exact x2.trans y2.symm
   ·intro hh
    have:=x4 y (hh.trans y2)
    have:=y4 x (hh.symm.trans x2)
    omega
  have hfe:∃be,fl'=fl++[be]∧(be=true↔¬x=y):=by
   have l1:=p2.1
   have l2:=q2.1
   simp only[List.length_map,List.length_append,List.length_singleton] at l1 l2
   have hb:fl'[sl.length]? =some fl'[sl.length]:=List.getElem?_eq_getElem (by omega)
   refine⟨fl'[sl.length],?_,?_⟩
   ·refine List.ext_getElem? fun i=> ?_
    rcases Nat.lt_trichotomy i sl.length with hi|hi|hi
    ·rw[List.getElem?_append_left (by omega)]
     have g1:fl[i]? =some fl[i]:=List.getElem?_eq_getElem (by omega)
     have g2:fl'[i]? =some fl'[i]:=List.getElem?_eq_getElem (by omega)
     have k1:=p2.2 i _ g1
     have k2:=q2.2 i _ g2
     have k3:Kr (gE ((sl++[e]).map eOf)) (fun j=>j<((sl++[e]).map eOf).length) i↔Kr (gE (sl.map eOf)) (fun j=>j<(sl.map eOf).length) i:=by
      unfold Kr
      simp only[List.length_map,hlen]
      rw[hgi i hi]
      have k5:∀{p q:Nat},Cn (gE ((sl++[e]).map eOf)) (fun j=>j<sl.length+1∧j<i) p q↔Cn (gE (sl.map eOf)) (fun j=>j<sl.length∧j<i) p q:=fun {p q}=>by
       rw[Cn.congr (S:=fun j=>j<sl.length+1∧j<i) (S':=fun j=>j<sl.length∧j<i) fun j=>by omega]
       exact hcn fun j hj=>hj.1
      rw[k5]
      exact and_congr (by omega) Iff.rfl
     have k4:=k1.trans (k3.symm.trans k2.symm)
     rw[g1,g2]
     congr 1
     cases hb:fl[i]<;>cases hb':fl'[i]<;>rw[hb,hb'] at k4<;>simp at k4⊢
    ·subst hi
     rw[List.getElem?_append_right (by omega),hb]
     simp[l1]
    ·rw[List.getElem?_eq_none (by omega),List.getElem?_eq_none (by simp;omega)]
   ·have k2:=q2.2 sl.length _ hb
    rw[k2]
    unfold Kr
    simp only[List.length_map,hlen]
    rw[hge]
    dsimp only
    rw[hxy,Cn.congr (S:=fun j=>j<sl.length+1∧j<sl.length) (S':=fun j=>j<sl.length) fun j=>by omega,hcn fun j hj=>hj]
    exact⟨fun h=>h.2,fun h=>⟨by omega,h⟩⟩
  obtain⟨be,rfl,hbe⟩:=hfe
  have l1:=p2.1
  simp only[List.length_map] at l1
  unfold forT
  rw[List.zip_append (by omega),List.filterMap_append]
  congr 1
  by_cases hc:x=y
  ·have:be=false:=by
    cases be with
    |false=>rfl
    |true=>exact absurd hc (hbe.1 rfl)
   subst this
   rw[if_pos hc];rfl
  ·rw[hbe.2 hc,if_neg hc];rfl
end Go.Proofs.YtpckicjfigmjkaaGreat
