/-
  Parts of the proof, put together: Rank5, TourD, TourF, Fors, Ons. No condition.
-/
import Derived.Test.YtammjnjpheobaaaGreatK27
set_option linter.unusedVariables false
set_option linter.unusedSimpArgs false
set_option linter.unnecessarySimpa false
set_option maxHeartbeats 4000000
namespace Go.Proofs.YtammjnjpheobaaaGreat
open Go.SL Go.Spc Go.Tup Go.Srt
abbrev rankA:Nat:=3600000
theorem Stepped.other {p:Jp} {W W':Wk} {A T:Nat} {er:Option Nat} {ts ts':List T5} {f:Fl} {e:Int} (h:Stepped p W W' A T er ts f e) (he:e≠0):Stepped p W W' A T er ts' f e:=
 ⟨h.gs,h.room,h.size,h.n,h.acts,h.big,h.fault,h.keep,h.res.elim (fun h1=>absurd h1.1 he) .inr⟩
structure RkX where
 e:Int
 C:Chunk
 f:Fl
 j:Nat
structure RkY where
 e:Int
 C:Chunk
 f:Fl
 j:Nat
 o:Bool
 z:Int
 q:Nat
theorem Ranks_ct (bw bd ba bs:Nat) (W:Wk) (cd ca cs:Chunk) (h:Wc bd ba bs W cd ca cs) (lf:Fl) (l:List T5) (hl:FileIn W (lf,l)) (hw:lf.width=3)
  (n c m:Nat) (hcn:lf.count≤n) (hnc:n≤2*c) (hn:n≤1000) (hnm:n≤m) (hcn2:c≤n) (hT:sortT c≤m) (hroom:m*(W.live.length+6)+(5*n+total W.live)≤W.σ.n) (hac:W.δ.acts≤400000000):
  Ct Tryz.prog 50 [pv bw,flv lf] [wrow bw bd ba bs,cd,ca,cs] (LayerQ bw bd ba bs W cd cs rankA rankA (errR l) (ranksF l) 2):=by
 have hflv:∀f:Fl,flv f= .agg #[.int .i64 (f.first:Int),.int .i64 (f.blocks:Int),.int .i64 (f.width:Int),.int .i64 (f.count:Int)]:=fun _=>rfl
 have hfl4:∀f:Fl,fl4 f=[.int .i64 (f.first:Int),.int .i64 (f.blocks:Int),.int .i64 (f.width:Int),.int .i64 (f.count:Int)]:=fun _=>rfl
 have hz:flv ⟨0,0,0,0⟩= .agg #[.int .i64 0,.int .i64 0,.int .i64 0,.int .i64 0]:=rfl
 have hB:=fun b=>Begin_ct bw bd ba bs W cd ca cs h [(lf,l)] (by simp only[List.mem_cons,List.not_mem_nil,or_false];rintro x rfl;exact hl) (by simp) (some ⟨b,0,none⟩) 1 _ (vec1 b lf)
 simp only[hfl4,List.cons_append,List.nil_append] at hB
 rw[hflv]
 refine Ct.intro Tryz.func50 rfl Tryz.ntmps50 (nle rfl) fun w0=> ?_;dsimp only[argSlots,Nat.reduceAdd]
 repeat(refine st ?_;intros)
 rename_i b3 b4 bs0
 refine R.call (hct:=hB _) (h:= ?_)
 rintro _ _ ⟨ca1,α1,hW1,hg1,hr1,⟨hroom8,bj,rfl,rfl⟩|⟨hsmall,rfl,rfl⟩⟩
 rotate_left
 ·dsimp only[List.cons_append,List.nil_append]
  repeat(refine st ?_;intros)
  (refine Dn.post (Hr:=[wrow bw bd ba bs,cd,ca1,cs]) Tryz.results50 (hR:= ?_);exact .inr ⟨hsmall,rfl,ca1,α1,rfl,hW1,hg1,hr1⟩)
 dsimp only[List.cons_append,List.nil_append]
 obtain⟨hp,hJ⟩:=begun_job (bj:=bj) h hW1 hg1 hr1 hroom8
 have hl0:In0 (begP bw bd ba bs bj W) (lf,l):=begun_in0 hl
 have hbj:(begP bw bd ba bs bj W).bj=bj:=rfl
 have hbw:(begP bw bd ba bs bj W).bw=bw:=rfl
 have hL0:(begP bw bd ba bs bj W).L0=W.live:=rfl
 have hn0:(begP bw bd ba bs bj W).n=W.σ.n:=rfl
 obtain⟨hll,hlfit,hlb,_,_⟩:=in0file hl0
 dsimp only at hll hlfit hlb
 rw[hw] at hlfit
 have hR:Rm (begP bw bd ba bs bj W) n m 5 W.δ.acts:=⟨hp,by omega,by omega,by
  rw[hL0,hn0]
  have e:5+W.live.length+1=W.live.length+6:=by omega
  rw[e];exact hroom,by omega,by omega⟩
 have hJ0:JobS (begP bw bd ba bs bj W) n 5 W.δ.acts 0 0 none [] _:=⟨hJ.weak rfl rfl rfl (Nat.le_refl _) (Nat.le_refl _),Nat.zero_le _,by simp⟩
 have hH:=begun_ct hR hJ0 lf l hl0 hw (by omega) c (by omega) (by omega) hT (by simp) (by omega)
 rw[hflv,hbj] at hH
 have hH:=Ct.convP (H:=[jrow bj bw 0 none 0 0,wrow bw bd ba bs,cd,ca1,cs]) hH (jobC_open (p:=begP bw bd ba bs bj W) (e:=0) (cd:=cd) (ca:=ca1) (cs:=cs)) (fun v H' hh=>⟨H',hh,.refl _⟩)
 repeat(refine st ?_;intros)
 refine R.callX (hct:=hH) (h:= ?_)
 rintro _ _ ⟨f1,C1,e1,rfl,rfl,hJ1,hF1,hE1⟩
 dsimp only[List.cons_append,List.nil_append]
 constructor
 ·(·(first|(intro _ _ h;cases h;done)|(repeat(first|exact qok_nil|(apply qok_cons;(·first|(intro hc;exact absurd hc (nmem rfl))|(intro _;apply CellPr.mk;(·repeat(first|exact Has.here|apply Has.there));(first|exact rfl|assumption))|(intro _;apply CellsPr.mk;(·repeat(first|exact Has.here|apply Has.there));(first|exact rfl|assumption))))))))
 try rw[hflv]
 have hbn:bits l.length≤10:=bits_10 (by omega)
 have hcl:lf.count=l.length:=hll.symm
 repeat(refine stn ?_;intros)
 rename_i b8
 apply G.seq
 repeat(refine stn ?_;intros)
 refine G.cut (D':=[]) (X:=Nat) (fun r=>r≤10∧(e1=0→r=bits l.length)) (fun r=>[(9,.int .i64 (r:Int)),(8,pv b8),(6,pv bj),(4,pv b4),(3,pv b3)])
  (fun _=>[C1,fbox b8 f1,fbox b4 ⟨0,0,0,0⟩,fbox b3 lf]) ?_ ?_
 ·repeat(refine st ?_;intros)
  refine G.loop (X:=Nat×Nat) (fun x=>x.1≤bits l.length∧x.2=2^x.1) (fun x=>[(10,.int .i64 (x.2:Int)),(9,.int .i64 (x.1:Int)),(8,pv b8),(6,pv bj),(4,pv b4),(3,pv b3)]) (fun _=>[C1,fbox b8 f1,fbox b4 ⟨0,0,0,0⟩,fbox b3 lf]) (fun x=>bits l.length-x.1) (0,1) ⟨Nat.zero_le _,rfl⟩ (body:= ?_)
  rintro⟨r,x⟩ ⟨hr1,hx⟩
  dsimp only[fbox] at hr1 hx⊢
  by_cases hle:(x:Int)≤(lf.count:Int)
  rotate_left
  ·repeat(refine st ?_;intros)
   refine Dn.meet r ⟨by omega,fun _=>bits_up hr1 (by omega)⟩
  obtain⟨ph,nh,pc,rest,hrow⟩:=hJ1.row
  rw[hbj,hbw] at hrow
  by_cases he:e1=0
  rotate_left
  ·refine G.open hrow (by(repeat(first|exact Take.here|apply Take.there))) ?_
   repeat(refine st ?_;intros)
   refine Dn.close hrow (by(repeat(first|exact Take.here|apply Take.there))) (by(repeat(first|exact Take.here|apply Take.there))) ?_
   exact Dn.meet r ⟨by omega,fun h=>absurd h he⟩
  have hlt:r<bits l.length:=by
   by_cases hlt:r<bits l.length
   ·exact hlt
   ·have h1:=bits_gt l.length
    obtain rfl:r=bits l.length:=by omega
    omega
  have hxx:x*2=2^(r+1):=by rw[hx,Nat.pow_succ]
  have hw1:IntKind.wrap .i64 ((r:Int)+1)=((r+1:Nat):Int):=by rw[wrap_i64 (by omega)];omega
  have hw2:IntKind.wrap .i64 ((x:Int)*2)=((x*2:Nat):Int):=by rw[wrap_i64 (by omega)];omega
  refine G.open hrow (by(repeat(first|exact Take.here|apply Take.there))) ?_
  repeat(refine st ?_;intros)
  refine Dn.close hrow (by(repeat(first|exact Take.here|apply Take.there))) (by(repeat(first|exact Take.here|apply Take.there))) ?_
  exact Dn.round (r+1,x*2) ⟨by dsimp only;omega,hxx⟩ (by dsimp only;omega)
 rintro r0 ⟨hr0,hr1⟩
 dsimp only[fbox] at hr0 hr1⊢
 have hok:=sJ_ok hlfit
 refine G.cut (D':=[]) (X:=RkX) (fun x=>JobS (begP bw bd ba bs bj W) n 5 W.δ.acts 100 x.e (errR l) [(x.f,sJ l x.j)] x.C∧FB lf.count c 3 l.length x.e x.f∧(x.e=0→sJ l x.j=sJ l (bits l.length))) (fun _=>[(8,pv b8),(6,pv bj),(4,pv b4)])
  (fun x=>[x.C,fbox b8 x.f,fbox b4 ⟨0,0,0,0⟩]) ?_ ?_
 ·repeat(refine st ?_;intros)
  refine G.loop (X:=RkY) (fun x=>JobS (begP bw bd ba bs bj W) n 5 W.δ.acts x.q x.e (errB l) [(x.f,sJ l x.j)] x.C∧FB lf.count c 3 l.length x.e x.f∧x.q≤10+7*x.j∧(x.o=true→x.q≤9+7*x.j∧x.z=(r0:Int)-x.j∧x.j≤r0+1)∧(x.o=false→x.j≤r0)∧(x.o=false→x.e=0→openT (sJ l x.j)=false)∧(x.o=true→x.e=0→0<x.j→openT (sJ l (x.j-1))=true)∧(x.e=0→e1=0))
   (fun x=>[(11,.bool x.o),(9,.int .i64 x.z),(8,pv b8),(6,pv bj),(4,pv b4)]) (fun x=>[x.C,fbox b8 x.f,fbox b4 ⟨0,0,0,0⟩]) (fun x=>if x.o then r0+3-x.j else 0)
   ⟨e1,C1,f1,0,true,(r0:Int),9⟩ ⟨hJ1,hF1,by dsimp only;omega,fun _=>⟨by dsimp only;omega,by dsimp only;omega,by dsimp only;omega⟩,fun h=>(by cases h),fun h=>(by cases h),fun _ _ h=>absurd h (Nat.lt_irrefl 0),fun h=>h⟩ (body:= ?_)
  rintro⟨e,C,f,j,o,z,q⟩ ⟨hJ,hF,hq,hot,hof,hsh,hop,hee⟩
  dsimp only[fbox] at hJ hF hq hot hof hsh hop hee⊢
  have hsr:e=0→(allF l).Pairwise fun a b=>a.c0<b.c0:=fun h=>(riseE_none.1 (errB_none (hJ.er0 h)).2.2.1).1
  obtain⟨x3,hx3⟩:∃x3:Option Nat,x3=if openT (sJ l (bits l.length)) then some 3 else none:=⟨_,rfl⟩
  have herr:(errB l).or x3=errR l:=by rw[hx3];rfl
  cases o with
  |false=>
   have hj:=hof rfl
   have hlast:e=0→sJ l (bits l.length)=sJ l j:=fun h=>by
    have h1:=hr1 (hee h)
    have h2:=sJ_shut hlfit (hsr h) (hsh rfl h) (bits l.length-j)
    rw[←h1] at h2⊢
    rwa[show j+(r0-j)=r0 by omega] at h2
   repeat(refine st ?_;intros)
   refine Dn.meet ⟨e,C,f,j⟩ ⟨?_,hF,fun h=>(hlast h).symm⟩
   have h3:=hJ.orE x3 (fun h=>by rw[hx3,hlast h,hsh rfl h];rfl)
   rw[herr] at h3
   exact⟨h3.job.weak rfl rfl rfl (by dsimp only;omega) (by dsimp only;omega),h3.len,h3.blk⟩
  |true=>
  obtain⟨hq1,rfl,hj⟩:=hot rfl
  obtain⟨ph,nh,pc,rest,hrow⟩:=hJ.row
  rw[hbj,hbw] at hrow
  by_cases he:e=0
  rotate_left
  ·refine G.open hrow (by(repeat(first|exact Take.here|apply Take.there))) ?_
   repeat(refine st ?_;intros)
   refine Dn.close hrow (by(repeat(first|exact Take.here|apply Take.there))) (by(repeat(first|exact Take.here|apply Take.there))) ?_
   refine Dn.meet ⟨e,C,f,j⟩ ⟨?_,hF,fun h=>absurd h he⟩
   have h3:=hJ.orE x3 (fun h=>absurd h he)
   rw[herr] at h3
   exact⟨h3.job.weak rfl rfl rfl (by dsimp only;omega) (by dsimp only;omega),h3.len,h3.blk⟩
  subst he
  by_cases hz0:(r0:Int)-j<0
  ·have hx33:x3=some 3:=by
    have h1:=hr1 (hee rfl)
    have h2:=hop rfl rfl (by omega)
    rw[show j-1=bits l.length by omega] at h2
    rw[hx3,h2];rfl
   have hFl:=SFail hJ 3 (by decide) (by decide) x3 (fun _=>hx33)
   rw[hbj] at hFl
   refine G.open hrow (by(repeat(first|exact Take.here|apply Take.there))) ?_
   repeat(refine st ?_;intros)
   refine R1.close hrow (by(repeat(first|exact Take.here|apply Take.there))) (by(repeat(first|exact Take.here|apply Take.there))) ?_
   refine R.callX (hct:=hFl) (h:= ?_)
   rintro _ _ ⟨e3,C3,rfl,rfl,hJ3,he3⟩
   dsimp only[List.cons_append,List.nil_append]
   constructor
   ·(·(first|(intro _ _ h;cases h;done)|(repeat(first|exact qok_nil|(apply qok_cons;(·first|(intro hc;exact absurd hc (nmem rfl))|(intro _;apply CellPr.mk;(·repeat(first|exact Has.here|apply Has.there));(first|exact rfl|assumption))|(intro _;apply CellsPr.mk;(·repeat(first|exact Has.here|apply Has.there));(first|exact rfl|assumption))))))))
   repeat(refine st ?_;intros)
   refine Dn.meet ⟨e3,C3,f,j⟩ ⟨?_,hF.mono fun h=>absurd h he3,fun h=>absurd h he3⟩
   rw[herr] at hJ3
   exact⟨hJ3.job.weak rfl rfl rfl (by dsimp only;omega) (by dsimp only;omega),hJ3.len,hJ3.blk⟩
  have hjr:j≤r0:=by omega
  have hwz:IntKind.wrap .i64 ((r0:Int)-j-1)=(r0:Int)-((j+1:Nat):Int):=by rw[wrap_i64 (by omega)];omega
  have hju:=jump_ct hR f (sJ l j) hJ lf.count c (by rw[sJ_len];exact hF) (by omega) (by omega) (by omega) (by omega) hT (by simp) (by omega) (hok j) (fun h=>sJ_sr (hsr h) j)
  rw[hflv,hbj] at hju
  refine G.open hrow (by(repeat(first|exact Take.here|apply Take.there))) ?_
  repeat(refine st ?_;intros)
  refine R1.close hrow (by(repeat(first|exact Take.here|apply Take.there))) (by(repeat(first|exact Take.here|apply Take.there))) ?_
  refine R.callX (hct:=hju) (h:= ?_)
  rintro _ _ ⟨f4,o4,C4,e4,rfl,rfl,⟨rfl,rfl,hJ4,hE4⟩|⟨rfl,hJ4,hF4,hE4⟩⟩
  ·dsimp only[List.cons_append,List.nil_append]
   rw[hflv]
   constructor
   ·(·(first|(intro _ _ h;cases h;done)|(repeat(first|exact qok_nil|(apply qok_cons;(·first|(intro hc;exact absurd hc (nmem rfl))|(intro _;apply CellPr.mk;(·repeat(first|exact Has.here|apply Has.there));(first|exact rfl|assumption))|(intro _;apply CellsPr.mk;(·repeat(first|exact Has.here|apply Has.there));(first|exact rfl|assumption))))))))
   repeat(refine st ?_;intros)
   exact Dn.round ⟨e4,C4,f4,j,false,(r0:Int)-((j+1:Nat):Int),q+1⟩ ⟨hJ4,hF.mono fun h=>(hE4 h).1,by dsimp only;omega,fun h=>(by cases h),fun _=>hjr,fun _ h=>(hE4 h).2,fun h=>(by cases h),fun h=>hee rfl⟩ (by dsimp only;simp only[Bool.false_eq_true,if_false,if_true];omega)
  ·dsimp only[List.cons_append,List.nil_append]
   rw[hflv]
   constructor
   ·(·(first|(intro _ _ h;cases h;done)|(repeat(first|exact qok_nil|(apply qok_cons;(·first|(intro hc;exact absurd hc (nmem rfl))|(intro _;apply CellPr.mk;(·repeat(first|exact Has.here|apply Has.there));(first|exact rfl|assumption))|(intro _;apply CellsPr.mk;(·repeat(first|exact Has.here|apply Has.there));(first|exact rfl|assumption))))))))
   repeat(refine st ?_;intros)
   exact Dn.round ⟨e4,C4,f4,j+1,true,(r0:Int)-((j+1:Nat):Int),q+7⟩ ⟨hJ4,by rw[sJ_len] at hF4;exact hF4,by dsimp only;omega,fun h=>⟨by dsimp only;omega,rfl,by dsimp only;omega⟩,fun h=>(by cases h),fun h=>(by cases h),fun _ h _=>(hE4 h).2,fun h=>hee rfl⟩ (by dsimp only;simp only[Bool.false_eq_true,if_false,if_true];omega)
 rintro⟨e2,C2,f2,j2⟩ ⟨hJ2,hF2,hE2⟩
 dsimp only[fbox] at hJ2 hF2 hE2⊢
 have hF2c:=hF2.cnt
 have hF2b:=hF2.blk
 have hM3:=fun b=>SMap1 hR hJ2 (fun t=>⟨t.c0,t.c2,0,0,0⟩) 2 f2.count c (by omega) 95 inferInstance (okT 3) rankOut_mk (fun t h=>okT2 (okT_cols h).1 (okT_cols h).2.2.1) f2 (sJ l j2) (by first|exact .inr (by assumption)|exact .inl (by repeat(first|exact List.mem_cons_self|apply List.mem_cons_of_mem))) (by omega) (fun _=>hok j2) (fun h=>by have:=(hF2.ok h).2;rw[sJ_len];omega) (.inr ⟨by omega,by omega⟩) (by omega) (by simp only[List.length_cons,List.length_nil];omega) (by omega) b
 simp only[hfl4,hbj] at hM3
 repeat(refine st ?_;intros)
 refine R.callX (hct:=hM3 _) (h:= ?_)
 rintro _ _ ⟨f3,C3,e3,rfl,rfl,hJ3,hF3,hE3⟩
 dsimp only[List.cons_append,List.nil_append]
 constructor
 ·(·(first|(intro _ _ h;cases h;done)|(repeat(first|exact qok_nil|(apply qok_cons;(·first|(intro hc;exact absurd hc (nmem rfl))|(intro _;apply CellPr.mk;(·repeat(first|exact Has.here|apply Has.there));(first|exact rfl|assumption))|(intro _;apply CellsPr.mk;(·repeat(first|exact Has.here|apply Has.there));(first|exact rfl|assumption))))))))
 try rw[hflv]
 have hRs:=fun b=>SResult hR hJ3 f3 b
 simp only[hfl4,hbj] at hRs
 repeat(refine st ?_;intros)
 refine R.call (hct:=hRs _) (h:= ?_)
 rintro _ _ ⟨cd5,ca5,cs5,W5,rfl,rfl,hW5,hD⟩
 try dsimp only[List.cons_append,List.nil_append]
 have hSt:=done_stepped (A:=rankA) (T:=rankA) hD rfl (by dsimp only;unfold rankA;omega) (by dsimp only;unfold rankA;omega)
 dsimp only at hSt
 by_cases he:e3=0
 ·subst he
  rw[if_pos rfl,hE2 (hE3 rfl)] at hSt
  repeat(refine st ?_;intros)
  (refine Dn.post (Hr:=[wrow bw bd ba bs,cd5,ca5,cs5]) Tryz.results50 (hR:= ?_);exact .inl ⟨hroom8,f3,0,cd5,ca5,cs5,W5,rfl,rfl,hW5,hSt,fun _=>(hF3.ok rfl).1⟩)
 ·rw[if_neg he] at hSt
  have hSt:=hSt.other (ts':=ranksF l) he
  repeat(refine st ?_;intros)
  (refine Dn.post (Hr:=[wrow bw bd ba bs,cd5,ca5,cs5]) Tryz.results50 (hR:= ?_);exact .inl ⟨hroom8,⟨0,0,0,0⟩,e3,cd5,ca5,cs5,W5,rfl,rfl,hW5,hSt,fun h=>absurd h he⟩)
theorem tn_all (Cx:TnS→Hp):∀(ts:List T5) (k:TnS),(tnM Cx).all k ts=(tnM fun _=>[]).all k ts∧(tnM Cx).st k ts=(tnM fun _=>[]).st k ts
 |[],_=>⟨rfl,rfl⟩
 |t::ts,k=>by
  obtain⟨h1,h2⟩:=tn_all Cx ts (tnN k t)
  simp only[Maker.all,Maker.st]
  rw[show(tnM Cx).next k t=tnN k t from rfl,show(tnM fun _=>[]).next k t=tnN k t from rfl,h1,h2]
  exact⟨rfl,rfl⟩
theorem tnO_len (k:TnS) (t:T5):(tnO k t).length≤1:=by
 unfold tnO
 split
 ·split<;>simp
 ·simp
theorem tn_count:∀(ts:List T5) (k:TnS),((tnM fun _=>[]).all k ts).length+(tnF ((tnM fun _=>[]).st k ts)).length=ts.length+(tnF k).length
 |[],k=>by simp[Maker.all,Maker.st]
 |t::ts,k=>by
  have h:=tn_count ts (tnN k t)
  simp only[Maker.all,Maker.st,List.length_append]
  rw[show(tnM fun _=>[]).next k t=tnN k t from rfl,show(tnM fun _=>[]).outs k t=tnO k t from rfl]
  have h2:(tnO k t).length=(tnF k).length:=by
   unfold tnO tnF
   split
   ·split<;>rfl
   ·rfl
  have h3:(tnF (tnN k t)).length=1:=by unfold tnF tnN;simp
  rw[List.length_cons];omega
theorem lnkL_length (r:List T5):(lnkL r).length=r.length:=by
 unfold lnkL
 rw[List.length_append,tn_count]
 rfl
theorem tn_ok {r:List T5}:∀{k:TnS},okT 4 k.1→okT 4 k.2.1→(∀t∈r,okT 4 t)→(∀z∈(tnM fun _=>[]).all k r,okT 3 z)∧okT 4 ((tnM fun _=>[]).st k r).1:=by
 induction r with
 |nil=>intro k h1 _ _;exact⟨fun z hz=>by simp[Maker.all] at hz,h1⟩
 |cons t r ih=>
  intro k h1 h2 h3
  have ht:=h3 t List.mem_cons_self
  have hn1:okT 4 (tnN k t).1:=by unfold tnN;dsimp only;split<;>assumption
  obtain⟨i1,i2⟩:=ih (k:=tnN k t) hn1 ht fun u hu=>h3 u (List.mem_cons_of_mem _ hu)
  refine⟨fun z hz=> ?_,i2⟩
  simp only[Maker.all,List.mem_append] at hz
  rcases hz with hz|hz
  ·have hz:z∈tnO k t:=hz
   unfold tnO at hz
   split at hz
   ·split at hz
    ·rw[List.mem_singleton] at hz;subst hz;exact lnk_ok (okT_cols ht).1
    ·rw[List.mem_singleton] at hz;subst hz;exact lnk_ok (okT_cols h1).1
   ·cases hz
  ·exact i1 z hz
theorem tnN_ok {k:TnS} {t:T5} (h1:okT 4 k.1) (h2:okT 4 t):okT 4 (tnN k t).1:=by unfold tnN;dsimp only;split<;>assumption
theorem ok40:okT 4 ⟨0,0,0,0,0⟩:=okT_mk (fun c hc=>by simp[T5.toList] at hc;subst hc;exact⟨by decide,by decide⟩) (by decide)
theorem tn_oks (Cx:TnS→Hp) {r:List T5} (h:∀t∈r,okT 4 t):(tnM Cx).oks tnOk tn0 r:=
 Maker.oks_of (M:=tnM Cx) (ok:=tnOk) (I:=fun k=>okT 4 k.1∧okT 4 k.2.1) (Q:=okT 4) (fun k t hI hQ=>⟨⟨hQ,hI.1,hI.2⟩,tnN_ok hI.1 hQ,hQ⟩) r tn0 ⟨ok40,ok40⟩ h
theorem tn_len0 (r:List T5):((tnM fun _=>[]).all tn0 r).length≤r.length:=by
 have h1:=tn_count r tn0
 have h2:(tnF tn0).length=0:=rfl
 omega
theorem SMake1f {p:Jp} {B m k a s0:Nat} {e:Int} {er:Option Nat} {Gf:List (Fl×List T5)} {C:Chunk} (hR:Rm p B m k a) (hJ:JobS p B k a s0 e er Gf C) {K:Type} (M:Maker K) (hne:∀k t,M.err k t=none) (k0:K) (width bound c κ:Nat) (hwd:1≤width∧width≤5) (mk:Nat) (hcal:Callable Tryz.prog mk) (fs us:List Value) (ok:K→T5→Prop) (hM:MakeU M width ok mk fs us)
  (hκ:∀k t,ok k t→(M.outs k t).length≤κ) (hκb:κ≤5) (f0:Fl) (ts:List T5) (hs:(f0,ts)∈Gf∨In0 p (f0,ts)) (h0:f0.count≤1000∧f0.blocks≤1000) (hok:e=0→M.oks ok k0 ts) (hbd:e=0→(M.all k0 ts).length≤bound)
  (hc:bound≤c∨(width≤3∧bound≤2*c)) (hcB:c≤B) (hl:Gf.length+1≤k) (hst:s0≤10000) (b:Nat):
  Ct Tryz.prog 42 [pv p.bj,.int .i64 (width:Int),.int .i64 (bound:Int),.func (.func mk) fs.toArray us.toArray,.slice (some ⟨b,0,none⟩) 1 1] (C::[(b,row (fl4 f0) 27)]::M.C k0) fun v H'=>
   ∃f C' e' k',v=flv f∧H'=C'::[(b,row (fl4 f0) 27)]::M.C k'∧JobS p B k a (s0+1) e' er ((f,M.all k0 ts)::Gf) C'∧FB bound c width (M.all k0 ts).length e' f∧(e'=0→e=0∧k'=M.st k0 ts):=by
 have hB:=hR.bs
 have hkk:=hR.kk
 have hac:=hR.acts
 have hm:=hR.le
 have hlen:=hJ.len
 have hnb:=nbS (s:=p.size) hR.ok.size.1 hwd.1 hwd.2 hc
 have hact:actsOf κ [(f0,ts)]≤6000:=by
  unfold actsOf
  have h2:f0.count*κ≤1000*5:=Nat.mul_le_mul h0.1 hκb
  simp only[List.map_cons,List.map_nil,List.sum_cons,List.sum_nil];omega
 have h2:s0*30000≤10000*30000:=Nat.mul_le_mul hst (Nat.le_refl _)
 have h:=JMake p hR.ok _ C hJ.job M k0 width bound κ 24001 c hwd.1 hwd.2 (by omega) mk hcal fs us ok hM hκ (by omega) [(f0,ts)] (by simpa using hs) (by simp;omega) (some ⟨b,0,none⟩) 1 _ (vec1 b f0)
 rw[cat_one] at h
 refine(h hok hbd hnb (fun _=>hR.fits hJ.len hJ.blk (by omega) _ _ _ _) (by omega) (by dsimp only;omega) (by dsimp only;omega)).mono ?_
 rintro v H' ⟨f,C',e',k',rfl,rfl,h3,h4,h5,h6⟩
 have h7:f.blocks≤c:=Nat.le_trans h6 hnb
 rw[Maker.bad_none hne,or_none'] at h3
 exact⟨f,C',e',k',rfl,rfl,hJ.push hl 1 h3 (by omega) (by omega) (by omega),⟨h5,h7,fun h=>let ⟨_,_,c,d,_⟩:=h4 h;⟨c,d⟩⟩,fun h=>let ⟨a,b,_,_,_⟩:=h4 h;⟨a,b⟩⟩
theorem linked_ct {p:Jp} {B m k a s0:Nat} {e:Int} {er:Option Nat} {Gf:List (Fl×List T5)} {C:Chunk} (hR:Rm p B m k a) (hJ:JobS p B k a s0 e er Gf C) (f:Fl) (r:List T5) (hin:(f,r)∈Gf) (q:Nat) (hF:FB q q 4 r.length e f) (hok:e=0→∀t∈r,okT 4 t) (hqB:q≤B) (hk:Gf.length+2≤k) (hst:s0≤9900):
  Ct Tryz.prog 48 [pv p.bj,flv f] [C] fun v H'=>∃g C' e' ls f1,v=flv g∧H'=[C']∧JobS p B k a (s0+2) e' er ((g,ls)::f1::Gf) C'∧FB q q 3 r.length e' g∧(e'=0→e=0∧ls=lnkL r):=by
 have hflv:∀f:Fl,flv f= .agg #[.int .i64 (f.first:Int),.int .i64 (f.blocks:Int),.int .i64 (f.width:Int),.int .i64 (f.count:Int)]:=fun _=>rfl
 have hfl4:∀f:Fl,fl4 f=[.int .i64 (f.first:Int),.int .i64 (f.blocks:Int),.int .i64 (f.width:Int),.int .i64 (f.count:Int)]:=fun _=>rfl
 have hB:=hR.bs
 have hFc:=hF.cnt
 have hFb:=hF.blk
 have hM1:=fun bt b=>SMake1f hR hJ (tnM fun k=>[tnC bt k]) (fun _ _=>rfl) tn0 3 f.count q 1 (by omega) 88 inferInstance [pv bt] [] _ (see_mk bt) (fun k t _=>tnO_len k t) (by omega) f r (.inl hin) (by omega)
  (fun h=>tn_oks _ (hok h)) (fun h=>by rw[(tn_all _ r tn0).1,(hF.ok h).2];exact tn_len0 r) (.inr ⟨by omega,by omega⟩) hqB (by omega) (by omega) b
 simp only[hfl4,(tn_all _ r tn0).1,(tn_all _ r tn0).2] at hM1
 rw[hflv f]
 refine Ct.intro Tryz.func48 rfl Tryz.ntmps48 (nle rfl) fun w0=> ?_;dsimp only[argSlots,Nat.reduceAdd]
 repeat(refine st ?_;intros)
 rename_i b2 b3 b4 bt b5 b15
 have hM2:=hM1 bt b15
 change Ct _ _ _ [C,[(b15,row [.int .i64 (f.first:Int),.int .i64 (f.blocks:Int),.int .i64 (f.width:Int),.int .i64 (f.count:Int)] 27)],[(bt,row [.int .i64 0,.int .i64 0,.int .i64 0,.int .i64 0,.int .i64 0,.int .i64 0,.int .i64 0,.int .i64 0,.int .i64 0,.int .i64 0,.bool false] 143)]] _ at hM2
 refine R.callX (hct:=hM2) (h:= ?_)
 rintro _ _ ⟨f1,C1,e1,k1,rfl,rfl,hJ1,hF1,hE1⟩
 dsimp only[tnM,List.cons_append,List.nil_append]
 rw[hflv]
 constructor
 ·(·(first|(intro _ _ h;cases h;done)|(repeat(first|exact qok_nil|(apply qok_cons;(·first|(intro hc;exact absurd hc (nmem rfl))|(intro _;apply CellPr.mk;(·repeat(first|exact Has.here|apply Has.there));(first|exact rfl|assumption))|(intro _;apply CellsPr.mk;(·repeat(first|exact Has.here|apply Has.there));(first|exact rfl|assumption))))))))
 have hF1c:=hF1.cnt
 have hF1b:=hF1.blk
 have hac:=hR.acts
 have hm:=hR.le
 have h2:s0*30000≤10000*30000:=Nat.mul_le_mul (by omega) (Nat.le_refl _)
 have hnb:=nbS (s:=p.size) (w:=3) (n:=f.count) (c:=q) hR.ok.size.1 (by omega) (by omega) (.inl (by omega))
 have hcl:e1=0→k1=(tnM fun _=>[]).st tn0 r∧r.length=f.count:=fun h=>⟨(hE1 h).2,(hF.ok (hE1 h).1).2.symm⟩
 have hlk:e1=0→(tnM fun _=>[]).all tn0 r++tnF k1=lnkL r:=fun h=>by rw[(hcl h).1];rfl
 have hRu:=fun b6=>SRun hR hJ1 89 inferInstance [pv b2,pv b3,pv b6,pv b5] (linkH p.bj b2 b3 b6 b5 bt f f1 k1) 5000 q 1 none ((tnM fun _=>[]).all tn0 r++tnF k1) (by omega) (by omega) (b:=q) (c:=q) (w:=3) (n:=r.length) (fun he x y hx=>by
  obtain⟨hk1,hrl⟩:=hcl he
  have hok2:=tn_ok (k:=tn0) ok40 ok40 (hok (hE1 he).1)
  have hlen:((tnM fun _=>[]).all tn0 r++tnF k1).length≤f.count:=by rw[hlk he,lnkL_length];omega
  subst he
  have hS:=linked_step p hR.ok ⟨0,er,_,x,y⟩ rfl f f1 ((tnM fun _=>[]).all tn0 r) (.inl List.mem_cons_self) (by omega) (by omega) b2 b3 b6 b5 bt k1 (by rw[hk1];exact hok2.2) hok2.1 hlen 5000 q hnb (hR.fits hJ1.len hJ1.blk (by omega) _ _ _ _) (by omega) (by dsimp only;omega)
  refine StepCt.mono hS ?_
  rintro g e' Hx' ⟨a1,a2⟩
  exact⟨a1,Nat.le_trans a2.cnt (by omega),Nat.le_trans a2.blk hnb,fun h=>⟨(a2.ok h).1,by rw[(a2.ok h).2,hlk rfl,lnkL_length]⟩⟩) hqB (by simp only[List.length_cons];omega)
 simp only[linkH,or_none',hfl4] at hRu
 repeat(refine st ?_;intros)
 refine R.callX (hct:=hRu _) (h:= ?_)
 rintro _ _ ⟨f2,C2,e2,rfl,rfl,hJ2,hF2,hE2⟩
 dsimp only[List.cons_append,List.nil_append]
 rw[hflv]
 constructor
 ·(·(first|(intro _ _ h;cases h;done)|(repeat(first|exact qok_nil|(apply qok_cons;(·first|(intro hc;exact absurd hc (nmem rfl))|(intro _;apply CellPr.mk;(·repeat(first|exact Has.here|apply Has.there));(first|exact rfl|assumption))|(intro _;apply CellsPr.mk;(·repeat(first|exact Has.here|apply Has.there));(first|exact rfl|assumption))))))))
 repeat(refine st ?_;intros)
 (refine Dn.post (Hr:=[C2]) Tryz.results48 (hR:= ?_);exact⟨f2,C2,e2,_,_,rfl,rfl,hJ2,hF2,fun h=>⟨(hE1 (hE2 h)).1,hlk (hE2 h)⟩⟩)
def rkH (bj b8 b12:Nat) (f:Fl):Hp:=[[(b8,row [pv bj] 82)],[(b12,row (fl4 f) 27)]]
theorem ranks_step {p:Jp} {B m k a:Nat} (hR:Rm p B m k a) {er:Option Nat} {Gf:List (Fl×List T5)} (hlen:Gf.length≤k) (hblk:∀x∈Gf,x.1.blocks≤B) (f:Fl) (ls:List T5) (hin:(f,ls)∈Gf) (hw:f.width=3) (n c m2:Nat) (hcn:f.count≤n) (hnc:n≤2*c) (hn:n≤1000) (hnm:n≤m2) (hcn2:c≤n) (hT:sortT c≤m2)
  (hroom:m2*(k+p.L0.length+6)+(5*n+(k*B+total p.L0))≤p.n) (x y:Nat) (hx:x≤390000000) (b8 b12:Nat):
  StepCt p ⟨0,er,Gf,x,y⟩ 49 [pv b8,pv b12] (rkH p.bj b8 b12 f) rankA rankA (errR ls) (ranksF ls) fun g e Hx'=>Hx'=rkH p.bj b8 b12 f∧(e=0→g.width=2∧g.count=(ranksF ls).length)∧g.count≤(ranksF ls).length∧g.blocks≤(ranksF ls).length:=by
 intro W cd ca cs held ph capj hW hJW
 obtain⟨Lv,hfo,hsub⟩:=hJW.file (.inl ((hJW.ok rfl).1.mem_iff.2 hin))
 have hll:=hJW.lives rfl
 dsimp only at hll
 have hsum:=sum_le (B:=B) (l:=Gf.map (·.1.blocks)) (by intro y hy;obtain⟨x,hx,rfl⟩:=List.mem_map.1 hy;exact hblk x hx)
 rw[List.length_map] at hsum
 have hus:=hJW.used hR.ok hW
 have hja:=hJW.acts
 dsimp only at hja
 have hGB:Gf.length*B≤k*B:=Nat.mul_le_mul_right _ hlen
 have hml:m2*(W.live.length+6)≤m2*(k+p.L0.length+6):=Nat.mul_le_mul_left _ (by omega)
 have hn0:=hJW.n
 have hRk:=Ranks_ct p.bw p.bd p.ba p.bs W cd ca cs hW f ls ⟨Lv,hfo,hsub⟩ hw n c m2 hcn hnc hn hnm hcn2 hT (by rw[hn0];omega) (by omega)
 have hflv:∀f:Fl,flv f= .agg #[.int .i64 (f.first:Int),.int .i64 (f.blocks:Int),.int .i64 (f.width:Int),.int .i64 (f.count:Int)]:=fun _=>rfl
 have hfl4:∀f:Fl,fl4 f=[.int .i64 (f.first:Int),.int .i64 (f.blocks:Int),.int .i64 (f.width:Int),.int .i64 (f.count:Int)]:=fun _=>rfl
 rw[hflv] at hRk
 unfold jrow rkH
 rw[hfl4]
 refine Ct.intro Tryz.func49 rfl Tryz.ntmps49 (nle rfl) fun w0=> ?_;dsimp only[argSlots,Nat.reduceAdd]
 repeat(first|(refine st ?_;intros)|refine G.draw [] (h:= ?_))
 refine R.callX (hct:=hRk) (h:= ?_)
 rintro _ _ (⟨_,g,e,cd3,ca3,cs3,W3,rfl,rfl,hW3,hS3,hw3⟩|⟨hsm,_⟩)
 rotate_left
 ·exact absurd hus (by omega)
 dsimp only[List.cons_append,List.nil_append]
 rw[hflv]
 constructor
 ·(·(first|(intro _ _ h;cases h;done)|(repeat(first|exact qok_nil|(apply qok_cons;(·first|(intro hc;exact absurd hc (nmem rfl))|(intro _;apply CellPr.mk;(·repeat(first|exact Has.here|apply Has.there));(first|exact rfl|assumption))|(intro _;apply CellsPr.mk;(·repeat(first|exact Has.here|apply Has.there));(first|exact rfl|assumption))))))))
 repeat(first|(refine st ?_;intros)|refine G.draw [] (h:= ?_))
 have hg:(e=0→g.width=2∧g.count=(ranksF ls).length)∧g.count≤(ranksF ls).length∧g.blocks≤(ranksF ls).length:=by
  rcases hS3.res with⟨he,_,_,hfo3⟩|⟨he,rfl,_⟩
  ·have h1:=hfo3.len
   have h2:=hfo3.blk
   have h3:=hfo3.w1
   have h4:=hfo3.w2
   have h5:nblocks W.δ.size g.width g.count≤g.count:=nblocks_le (holds_pos hW.dev.num.1.1 h3 h4)
   exact⟨fun h=>⟨hw3 h,h1.symm⟩,by omega,by omega⟩
  ·exact⟨fun h=>absurd h he,Nat.zero_le _,Nat.zero_le _⟩
 have hS4:Stepped p W W3 rankA rankA (errR ls) (ranksF ls) g e:=⟨hS3.gs,hS3.room,hS3.size,hS3.n,hS3.acts,hS3.big,hS3.fault,hS3.keep,hS3.res⟩
 (refine Dn.post (Hr:=[[(p.bj,row [pv p.bw,.int .i64 0,.slice ph held.length capj] 95)],wrow p.bw p.bd p.ba p.bs,cd3,ca3,cs3,[(b8,row [pv p.bj] 82)],[(b12,row [.int .i64 (f.first:Int),.int .i64 (f.blocks:Int),.int .i64 (f.width:Int),.int .i64 (f.count:Int)] 27)]]) Tryz.results49 (hR:= ?_);exact⟨g,e,cd3,ca3,cs3,W3,_,rfl,rfl,hW3,hS4,rfl,hg⟩)
theorem lkT2 (p:Jp) (fa fb:Fl) (b8 b4 b5:Nat) (J:Jb) (A T:Nat) (ts:List T5) (Rl:Fl→Int→Prop) (hL:LookS p J fa fb 1 1 3 A T ts Rl):
  StepCt p J 46 [pv b8,pv b4,pv b5] (lookH p.bj b8 b4 b5 fa fb) A T none ts fun f e Hx'=>Hx'=lookH p.bj b8 b4 b5 fa fb∧Rl f e:=by
 intro W cd ca cs held ph capj hW hJW
 have hL:=hL W cd ca cs held hW hJW
 have hflv:∀f:Fl,flv f= .agg #[.int .i64 (f.first:Int),.int .i64 (f.blocks:Int),.int .i64 (f.width:Int),.int .i64 (f.count:Int)]:=fun _=>rfl
 have hfl4:∀f:Fl,fl4 f=[.int .i64 (f.first:Int),.int .i64 (f.blocks:Int),.int .i64 (f.width:Int),.int .i64 (f.count:Int)]:=fun _=>rfl
 rw[hflv fa,hflv fb] at hL
 unfold jrow lookH
 rw[hfl4 fa,hfl4 fb]
 refine Ct.intro Tryz.func46 rfl Tryz.ntmps46 (nle rfl) fun w0=> ?_;dsimp only[argSlots,Nat.reduceAdd]
 repeat(first|(refine st ?_;intros)|refine G.draw [] (h:= ?_))
 refine R.callX (hct:=hL) (h:= ?_)
 rintro _ _ ⟨f,e,cd',ca',cs',W',rfl,rfl,hW',hS,hR⟩
 dsimp only[List.cons_append,List.nil_append]
 constructor
 ·(·(first|(intro _ _ h;cases h;done)|(repeat(first|exact qok_nil|(apply qok_cons;(·first|(intro hc;exact absurd hc (nmem rfl))|(intro _;apply CellPr.mk;(·repeat(first|exact Has.here|apply Has.there));(first|exact rfl|assumption))|(intro _;apply CellsPr.mk;(·repeat(first|exact Has.here|apply Has.there));(first|exact rfl|assumption))))))))
 rw[hflv]
 repeat(first|(refine st ?_;intros)|refine G.draw [] (h:= ?_))
 (refine Dn.post (Hr:=[[(p.bj,row [pv p.bw,.int .i64 0,.slice ph held.length capj] 95)],wrow p.bw p.bd p.ba p.bs,cd',ca',cs',[(b8,row [pv p.bj] 82)],[(b4,row (fl4 fa) 27)],[(b5,row (fl4 fb) 27)]]) Tryz.results46 (hR:= ?_);exact⟨f,e,cd',ca',cs',W',_,rfl,rfl,hW',hS,rfl,hR⟩)
theorem lkT4 (p:Jp) (fa fb:Fl) (b8 b4 b5:Nat) (J:Jb) (A T:Nat) (ts:List T5) (Rl:Fl→Int→Prop) (hL:LookS p J fa fb 0 1 4 A T ts Rl):
  StepCt p J 51 [pv b8,pv b4,pv b5] (lookH p.bj b8 b4 b5 fa fb) A T none ts fun f e Hx'=>Hx'=lookH p.bj b8 b4 b5 fa fb∧Rl f e:=by
 intro W cd ca cs held ph capj hW hJW
 have hL:=hL W cd ca cs held hW hJW
 have hflv:∀f:Fl,flv f= .agg #[.int .i64 (f.first:Int),.int .i64 (f.blocks:Int),.int .i64 (f.width:Int),.int .i64 (f.count:Int)]:=fun _=>rfl
 have hfl4:∀f:Fl,fl4 f=[.int .i64 (f.first:Int),.int .i64 (f.blocks:Int),.int .i64 (f.width:Int),.int .i64 (f.count:Int)]:=fun _=>rfl
 rw[hflv fa,hflv fb] at hL
 unfold jrow lookH
 rw[hfl4 fa,hfl4 fb]
 refine Ct.intro Tryz.func51 rfl Tryz.ntmps51 (nle rfl) fun w0=> ?_;dsimp only[argSlots,Nat.reduceAdd]
 repeat(first|(refine st ?_;intros)|refine G.draw [] (h:= ?_))
 refine R.callX (hct:=hL) (h:= ?_)
 rintro _ _ ⟨f,e,cd',ca',cs',W',rfl,rfl,hW',hS,hR⟩
 dsimp only[List.cons_append,List.nil_append]
 constructor
 ·(·(first|(intro _ _ h;cases h;done)|(repeat(first|exact qok_nil|(apply qok_cons;(·first|(intro hc;exact absurd hc (nmem rfl))|(intro _;apply CellPr.mk;(·repeat(first|exact Has.here|apply Has.there));(first|exact rfl|assumption))|(intro _;apply CellsPr.mk;(·repeat(first|exact Has.here|apply Has.there));(first|exact rfl|assumption))))))))
 rw[hflv]
 repeat(first|(refine st ?_;intros)|refine G.draw [] (h:= ?_))
 (refine Dn.post (Hr:=[[(p.bj,row [pv p.bw,.int .i64 0,.slice ph held.length capj] 95)],wrow p.bw p.bd p.ba p.bs,cd',ca',cs',[(b8,row [pv p.bj] 82)],[(b4,row (fl4 fa) 27)],[(b5,row (fl4 fb) 27)]]) Tryz.results51 (hR:= ?_);exact⟨f,e,cd',ca',cs',W',_,rfl,rfl,hW',hS,rfl,hR⟩)
abbrev tourA:Nat:=4500000
theorem arc0len (f:List T5):(arc0 f).length=2*f.length:=by
 unfold arc0
 induction f with
 |nil=>rfl
 |cons t f ih=>rw[List.flatMap_cons,List.length_append,ih,List.length_cons];simp only[List.length_cons,List.length_nil];omega
theorem arc0ok {f:List T5} (h:∀t∈f,okT 3 t):∀z∈arc0 f,okT 3 z:=by
 intro z hz
 unfold arc0 at hz
 obtain⟨t,ht,hz⟩:=List.mem_flatMap.1 hz
 have ti:=okT_cols (h t ht)
 simp only[List.mem_cons,List.not_mem_nil,or_false] at hz
 rcases hz with rfl|rfl
 ·exact okT3 (wrap_in _) ti.2.1 ti.2.2.1
 ·exact okT3 (wrap_in _) ti.2.2.1 ti.2.1
theorem namL_len (a f:List T5):(namL a f).length=2*f.length:=by unfold namL;rw[List.length_map,(perm_srt _).length_eq,arc0len]
theorem namL_ok {a f:List T5} (ha:∀t∈a,okT 2 t) (hf:∀t∈f,okT 3 t):∀z∈namL a f,okT 4 z:=by
 intro z hz
 unfold namL at hz
 obtain⟨u,hu,rfl⟩:=List.mem_map.1 hz
 have hu:=arc0ok hf u (srt_sub hu)
 exact lookF_ok ha 1 1 3 (by omega) hu
theorem Tours_ct (bw bd ba bs:Nat) (W:Wk) (cd ca cs:Chunk) (h:Wc bd ba bs W cd ca cs) (af ff:Fl) (a f:List T5) (hla:FileIn W (af,a)) (hlf:FileIn W (ff,f)) (hwa:af.width=2) (hwf:ff.width=3) (hrise:a.Pairwise fun x y=>x.c0<y.c0)
  (q c m m2:Nat) (hca:af.count≤q) (hcf:2*ff.count≤q) (hqc:q≤2*c) (hcq:c≤q) (hq:q≤300) (hqm:q≤m) (hT:sortT q≤m) (hqm2:q≤m2) (hT2:sortT c≤m2) (hroom:m*(W.live.length+7)+(6*q+total W.live)≤W.σ.n) (hroom2:m2*(W.live.length+12)+(11*q+total W.live)≤W.σ.n) (hac:W.δ.acts≤380000000):
  Ct Tryz.prog 15 [pv bw,flv af,flv ff] [wrow bw bd ba bs,cd,ca,cs] (LayerQ bw bd ba bs W cd cs tourA tourA (errR (lnkL (namL a f))) (toursO a f (lnkL (namL a f))) 5):=by
 have hflv:∀f:Fl,flv f= .agg #[.int .i64 (f.first:Int),.int .i64 (f.blocks:Int),.int .i64 (f.width:Int),.int .i64 (f.count:Int)]:=fun _=>rfl
 have hfl4:∀f:Fl,fl4 f=[.int .i64 (f.first:Int),.int .i64 (f.blocks:Int),.int .i64 (f.width:Int),.int .i64 (f.count:Int)]:=fun _=>rfl
 have hto1:tv o1= .agg #[.int .i64 1,.int .i64 0,.int .i64 0,.int .i64 0,.int .i64 0]:=rfl
 have htoB:tv oBCA= .agg #[.int .i64 2,.int .i64 3,.int .i64 1,.int .i64 0,.int .i64 0]:=rfl
 have htoD:tv oDE= .agg #[.int .i64 4,.int .i64 5,.int .i64 0,.int .i64 0,.int .i64 0]:=rfl
 have hz:flv ⟨0,0,0,0⟩= .agg #[.int .i64 0,.int .i64 0,.int .i64 0,.int .i64 0]:=rfl
 have hB:=fun b=>Begin_ct bw bd ba bs W cd ca cs h [(af,a),(ff,f)] (by simp only[List.mem_cons,List.not_mem_nil,or_false];rintro x (rfl|rfl);exact hla;exact hlf) (by simp) (some ⟨b,0,none⟩) 2 _ (vec2 b af ff)
 simp only[hfl4,List.cons_append,List.nil_append] at hB
 have hwi:(af.width:Int)=2:=by rw[hwa];rfl
 have hwj:(ff.width:Int)=3:=by rw[hwf];rfl
 rw[hflv af,hflv ff]
 refine Ct.intro Tryz.func15 rfl Tryz.ntmps15 (nle rfl) fun w0=> ?_;dsimp only[argSlots,Nat.reduceAdd]
 repeat(refine st ?_;intros)
 rename_i b4 b5 b6 bs0
 refine R.call (hct:=hB _) (h:= ?_)
 rintro _ _ ⟨ca1,α1,hW1,hg1,hr1,⟨hroom8,bj,rfl,rfl⟩|⟨hsmall,rfl,rfl⟩⟩
 rotate_left
 ·dsimp only[List.cons_append,List.nil_append]
  repeat(refine st ?_;intros)
  (refine Dn.post (Hr:=[wrow bw bd ba bs,cd,ca1,cs]) Tryz.results15 (hR:= ?_);exact .inr ⟨hsmall,rfl,ca1,α1,rfl,hW1,hg1,hr1⟩)
 dsimp only[List.cons_append,List.nil_append]
 obtain⟨hp,hJ⟩:=begun_job (bj:=bj) h hW1 hg1 hr1 hroom8
 have hl0:In0 (begP bw bd ba bs bj W) (af,a):=begun_in0 hla
 have hl1:In0 (begP bw bd ba bs bj W) (ff,f):=begun_in0 hlf
 have hbj:(begP bw bd ba bs bj W).bj=bj:=rfl
 have hbw:(begP bw bd ba bs bj W).bw=bw:=rfl
 have hL0:(begP bw bd ba bs bj W).L0=W.live:=rfl
 have hn0:(begP bw bd ba bs bj W).n=W.σ.n:=rfl
 obtain⟨hla1,hlafit,hlab,haw1,haw5⟩:=in0file hl0
 obtain⟨hlf1,hlffit,hlfb,hfw1,hfw5⟩:=in0file hl1
 dsimp only at hla1 hlafit hlab hlf1 hlffit hlfb haw1 haw5 hfw1 hfw5
 rw[hwa] at hlafit
 rw[hwf] at hlffit
 have hR:Rm (begP bw bd ba bs bj W) q m 6 W.δ.acts:=⟨hp,by omega,by omega,by
  rw[hL0,hn0]
  have e:6+W.live.length+1=W.live.length+7:=by omega
  rw[e];exact hroom,by omega,by omega⟩
 have hafb:af.blocks≤q:=by rw[hlab];exact Nat.le_trans (nblocks_le (holds_pos hp.size.1 haw1 haw5)) hca
 have hffb:ff.blocks≤q:=by rw[hlfb];exact Nat.le_trans (nblocks_le (holds_pos hp.size.1 hfw1 hfw5)) (by omega)
 have hFA:∀e,FB q q 2 a.length e af:=fun e=>⟨hca,hafb,fun _=>⟨hwa,hla1.symm⟩⟩
 have hJ0:JobS (begP bw bd ba bs bj W) q 6 W.δ.acts 0 0 none [] _:=⟨hJ.weak rfl rfl rfl (Nat.le_refl _) (Nat.le_refl _),Nat.zero_le _,by simp⟩
 have hw2:IntKind.wrap .i64 ((2:Int)*(ff.count:Int))=((2*ff.count:Nat):Int):=by rw[wrap_i64 (by omega)];omega
 have hfl2:f.flatMap trAF=arc0 f:=rfl
 have hM1:=fun b=>SFl1 hR hJ0 [] trAF 3 (2*ff.count) q 2 (by omega) 43 inferInstance [] (okT 3) trA (fun t _=>Nat.le_refl _) (by omega) ff f (.inr hl1) (by omega) (fun _=>hlffit)
  (fun h=>by rw[hfl2,arc0len];omega) (.inl (by omega)) (by omega) (by simp) (by omega) b
 simp only[hfl4,hfl2,hbj] at hM1
 have hM1:=fun b=>Ct.convP (H:=[jrow bj bw 0 none 0 0,wrow bw bd ba bs,cd,ca1,cs,[(b,row [.int .i64 (ff.first:Int),.int .i64 (ff.blocks:Int),.int .i64 (ff.width:Int),.int .i64 (ff.count:Int)] 27)]]) (hM1 b) (by
  have h1:=(jobC_open (p:=begP bw bd ba bs bj W) (e:=0) (cd:=cd) (ca:=ca1) (cs:=cs)).append_right [(b,row [.int .i64 (ff.first:Int),.int .i64 (ff.blocks:Int),.int .i64 (ff.width:Int),.int .i64 (ff.count:Int)] 27)]
  simp only[List.flatten_cons,List.flatten_nil,List.append_nil,List.append_assoc] at h1⊢
  exact h1) (fun v H' hh=>⟨H',hh,.refl _⟩)
 repeat(refine st ?_;intros)
 refine R.callX (hct:=hM1 _) (h:= ?_)
 rintro _ _ ⟨f1,C1,e1,rfl,rfl,hJ1,hF1,hE1⟩
 dsimp only[List.cons_append,List.nil_append]
 constructor
 ·(·(first|(intro _ _ h;cases h;done)|(repeat(first|exact qok_nil|(apply qok_cons;(·first|(intro hc;exact absurd hc (nmem rfl))|(intro _;apply CellPr.mk;(·repeat(first|exact Has.here|apply Has.there));(first|exact rfl|assumption))|(intro _;apply CellsPr.mk;(·repeat(first|exact Has.here|apply Has.there));(first|exact rfl|assumption))))))))
 try rw[hflv]
 have hF1c:=hF1.cnt
 have hS2:=SSort hR hJ1 f1 _ _ oBCA rfl false hF1 .here (by omega) (by omega) hT (by omega)
 rw[hflv,htoB,hbj] at hS2
 repeat(refine st ?_;intros)
 refine R.callX (hct:=hS2) (h:= ?_)
 rintro _ _ ⟨f2,C2,e2,rfl,rfl,hJ2,hF2,hE2⟩
 dsimp only[List.cons_append,List.nil_append]
 constructor
 ·(·(first|(intro _ _ h;cases h;done)|(repeat(first|exact qok_nil|(apply qok_cons;(·first|(intro hc;exact absurd hc (nmem rfl))|(intro _;apply CellPr.mk;(·repeat(first|exact Has.here|apply Has.there));(first|exact rfl|assumption))|(intro _;apply CellsPr.mk;(·repeat(first|exact Has.here|apply Has.there));(first|exact rfl|assumption))))))))
 try rw[hflv]
 have hF2c:=hF2.cnt
 have hF2b:=hF2.blk
 have hR3:=fun b8 b4 b5=>SLookRun hR hJ2 46 inferInstance f2 af (srt (ltO oBCA) false (arc0 f)) a 1 1 3 4 q (by first|exact .inr (by assumption)|exact .inl (by repeat(first|exact List.mem_cons_self|apply List.mem_cons_of_mem))) (.inr hl0) (lkT2 _ f2 af b8 b4 b5) hF2 (hFA e2) (by omega) (by omega) (by omega) (by omega) (by omega) (by omega)
  (fun _=>(sd_srt (ltO_swo oBCA) false _).imp fun {x y} hh=>by
   simp only[Bool.false_eq_true,if_false] at hh
   rw[ltO_oBCA] at hh
   have h2:¬lessB y x=true:=by rw[hh];decide
   rw[lessB_iff] at h2
   show x.c1≤y.c1
   omega) (fun _=>hrise) (.inl (by omega)) (Nat.le_refl _) (by simp) (by omega)
 simp only[lookH,hfl4,hbj] at hR3
 rw[show(srt (ltO oBCA) false (arc0 f)).map (lookF a 1 1 3)=namL a f from rfl] at hR3
 repeat(refine st ?_;intros)
 refine R.callX (hct:=hR3 _ _ _) (h:= ?_)
 rintro _ _ ⟨f3,C3,e3,rfl,rfl,hJ3,hF3,hE3⟩
 dsimp only[List.cons_append,List.nil_append]
 constructor
 ·(·(first|(intro _ _ h;cases h;done)|(repeat(first|exact qok_nil|(apply qok_cons;(·first|(intro hc;exact absurd hc (nmem rfl))|(intro _;apply CellPr.mk;(·repeat(first|exact Has.here|apply Has.there));(first|exact rfl|assumption))|(intro _;apply CellsPr.mk;(·repeat(first|exact Has.here|apply Has.there));(first|exact rfl|assumption))))))))
 try rw[hflv]
 have hnl:(srt (ltO oBCA) false (arc0 f)).length=(namL a f).length:=by rw[namL_len,(perm_srt _).length_eq,arc0len]
 have hF3':FB q q 4 (namL a f).length e3 f3:=⟨Nat.le_trans hF3.cnt (by omega),hF3.blk,fun h=>by rw[←hnl];exact hF3.ok h⟩
 have hF3c:=hF3'.cnt
 have hF3b:=hF3'.blk
 have hL4:=linked_ct hR hJ3 f3 (namL a f) List.mem_cons_self q hF3' (fun _=>namL_ok hlafit hlffit) (Nat.le_refl _) (by simp) (by omega)
 rw[hflv,hbj] at hL4
 repeat(refine st ?_;intros)
 refine R.callX (hct:=hL4) (h:= ?_)
 rintro _ _ ⟨f4,C4,e4,ls,fx,rfl,rfl,hJ4,hF4,hE4⟩
 dsimp only[List.cons_append,List.nil_append]
 rw[hflv]
 constructor
 ·(·(first|(intro _ _ h;cases h;done)|(repeat(first|exact qok_nil|(apply qok_cons;(·first|(intro hc;exact absurd hc (nmem rfl))|(intro _;apply CellPr.mk;(·repeat(first|exact Has.here|apply Has.there));(first|exact rfl|assumption))|(intro _;apply CellsPr.mk;(·repeat(first|exact Has.here|apply Has.there));(first|exact rfl|assumption))))))))
 have hrl:(ranksF (lnkL (namL a f))).length=(namL a f).length:=by rw[ranksF_len,lnkL_length]
 have hnq:(namL a f).length≤q:=by rw[namL_len];omega
 have hF4c:=hF4.cnt
 have hF4b:=hF4.blk
 have hR5:=fun b8 b12=>SRun hR hJ4 49 inferInstance [pv b8,pv b12] (rkH bj b8 b12 f4) rankA rankA 120 (errR (lnkL (namL a f))) (ranksF (lnkL (namL a f))) (by decide) (by decide) (b:=q) (c:=q) (w:=2) (n:=(ranksF (lnkL (namL a f))).length) (fun he x y hx=>by
  obtain⟨_,rfl⟩:=hE4 he
  subst he
  have hS:=ranks_step hR (er:=none) hJ4.len hJ4.blk f4 (lnkL (namL a f)) List.mem_cons_self (hF4.ok rfl).1 q c m2 (by omega) hqc (by omega) hqm2 hcq hT2 (by rw[hL0,hn0,show 6+W.live.length+6=W.live.length+12 by omega];omega) x y (by omega) b8 b12
  refine StepCt.mono hS ?_
  rintro g e' Hx' ⟨a1,a2,a3,a4⟩
  exact⟨a1,by omega,by omega,a2⟩) (Nat.le_refl _) (by simp)
 simp only[rkH,hfl4,hbj,show∀x:Option Nat,(none:Option Nat).or x=x from fun _=>rfl] at hR5
 repeat(refine st ?_;intros)
 refine R.callX (hct:=hR5 _ _) (h:= ?_)
 rintro _ _ ⟨f5,C5,e5,rfl,rfl,hJ5,hF5,hE5⟩
 dsimp only[List.cons_append,List.nil_append]
 constructor
 ·(·(first|(intro _ _ h;cases h;done)|(repeat(first|exact qok_nil|(apply qok_cons;(·first|(intro hc;exact absurd hc (nmem rfl))|(intro _;apply CellPr.mk;(·repeat(first|exact Has.here|apply Has.there));(first|exact rfl|assumption))|(intro _;apply CellsPr.mk;(·repeat(first|exact Has.here|apply Has.there));(first|exact rfl|assumption))))))))
 try rw[hflv]
 have hF5c:=hF5.cnt
 have hF5b:=hF5.blk
 have hrr:e5=0→(ranksF (lnkL (namL a f))).Pairwise fun x y=>x.c0<y.c0:=fun he=>by
  have h1:=hJ5.er0 he
  have h2:=(riseE_none.1 (errB_none (or_nil h1).1).2.2.1).1
  unfold ranksF
  rw[List.pairwise_map]
  exact sJ_sr h2 _
 have hS6:=SSort hR hJ5 f3 (namL a f) [(f5,ranksF (lnkL (namL a f))),(f4,ls),fx,(f2,srt (ltO oBCA) false (arc0 f))] o1 rfl false (hF3'.mono fun h=>(hE4 (hE5 h)).1) (.there (.there (.there .here))) (by omega) (Nat.le_refl _) hT (by omega)
 rw[hflv f3,hto1,hbj] at hS6
 repeat(refine st ?_;intros)
 refine R.callX (hct:=hS6) (h:= ?_)
 rintro _ _ ⟨f6,C6,e6,rfl,rfl,hJ6,hF6,hE6⟩
 dsimp only[List.cons_append,List.nil_append]
 constructor
 ·(·(first|(intro _ _ h;cases h;done)|(repeat(first|exact qok_nil|(apply qok_cons;(·first|(intro hc;exact absurd hc (nmem rfl))|(intro _;apply CellPr.mk;(·repeat(first|exact Has.here|apply Has.there));(first|exact rfl|assumption))|(intro _;apply CellsPr.mk;(·repeat(first|exact Has.here|apply Has.there));(first|exact rfl|assumption))))))))
 try rw[hflv]
 have hF6c:=hF6.cnt
 have hF6b:=hF6.blk
 have hR7:=fun b8 b4 b5=>SLookRun hR hJ6 51 inferInstance f6 f5 (srt (ltO o1) false (namL a f)) (ranksF (lnkL (namL a f))) 0 1 4 5 q (by first|exact .inr (by assumption)|exact .inl (by repeat(first|exact List.mem_cons_self|apply List.mem_cons_of_mem))) (by first|exact .inr (by assumption)|exact .inl (by repeat(first|exact List.mem_cons_self|apply List.mem_cons_of_mem))) (lkT4 _ f6 f5 b8 b4 b5) hF6 (hF5.mono hE6) (by omega) (by omega) (by omega) (by omega) (by omega) (by omega)
  (fun _=>srt_o1 _) (fun h=>hrr (hE6 h)) (.inl (by omega)) (Nat.le_refl _) (by simp) (by omega)
 simp only[lookH,hfl4,hbj] at hR7
 repeat(refine st ?_;intros)
 refine R.callX (hct:=hR7 _ _ _) (h:= ?_)
 rintro _ _ ⟨f7,C7,e7,rfl,rfl,hJ7,hF7,hE7⟩
 dsimp only[List.cons_append,List.nil_append]
 constructor
 ·(·(first|(intro _ _ h;cases h;done)|(repeat(first|exact qok_nil|(apply qok_cons;(·first|(intro hc;exact absurd hc (nmem rfl))|(intro _;apply CellPr.mk;(·repeat(first|exact Has.here|apply Has.there));(first|exact rfl|assumption))|(intro _;apply CellsPr.mk;(·repeat(first|exact Has.here|apply Has.there));(first|exact rfl|assumption))))))))
 try rw[hflv]
 have hF7c:=hF7.cnt
 have hS8:=SSort hR hJ7 f7 _ _ oDE rfl false hF7 .here (by omega) (Nat.le_refl _) hT (by omega)
 rw[hflv,htoD,hbj,show srt (ltO oDE) false ((srt (ltO o1) false (namL a f)).map (lookF (ranksF (lnkL (namL a f))) 0 1 4))=toursO a f (lnkL (namL a f)) from rfl] at hS8
 repeat(refine st ?_;intros)
 refine R.callX (hct:=hS8) (h:= ?_)
 rintro _ _ ⟨f8,C8,e8,rfl,rfl,hJ8,hF8,hE8⟩
 dsimp only[List.cons_append,List.nil_append]
 constructor
 ·(·(first|(intro _ _ h;cases h;done)|(repeat(first|exact qok_nil|(apply qok_cons;(·first|(intro hc;exact absurd hc (nmem rfl))|(intro _;apply CellPr.mk;(·repeat(first|exact Has.here|apply Has.there));(first|exact rfl|assumption))|(intro _;apply CellsPr.mk;(·repeat(first|exact Has.here|apply Has.there));(first|exact rfl|assumption))))))))
 try rw[hflv]
 have hRs:=fun b=>SResult hR hJ8 f8 b
 simp only[hfl4,hbj] at hRs
 repeat(refine st ?_;intros)
 refine R.call (hct:=hRs _) (h:= ?_)
 rintro _ _ ⟨cd5,ca5,cs5,W5,rfl,rfl,hW5,hD⟩
 try dsimp only[List.cons_append,List.nil_append]
 have hSt:=done_stepped (A:=tourA) (T:=tourA) hD rfl (by dsimp only;unfold tourA;omega) (by dsimp only;unfold tourA;omega)
 dsimp only at hSt
 by_cases he:e8=0
 ·subst he
  rw[if_pos rfl] at hSt
  repeat(refine st ?_;intros)
  (refine Dn.post (Hr:=[wrow bw bd ba bs,cd5,ca5,cs5]) Tryz.results15 (hR:= ?_);exact .inl ⟨hroom8,f8,0,cd5,ca5,cs5,W5,rfl,rfl,hW5,hSt,fun _=>(hF8.ok rfl).1⟩)
 ·rw[if_neg he] at hSt
  repeat(refine st ?_;intros)
  (refine Dn.post (Hr:=[wrow bw bd ba bs,cd5,ca5,cs5]) Tryz.results15 (hR:= ?_);exact .inl ⟨hroom8,⟨0,0,0,0⟩,e8,cd5,ca5,cs5,W5,rfl,rfl,hW5,hSt,fun h=>absurd h he⟩)
end Go.Proofs.YtammjnjpheobaaaGreat
namespace Go.Proofs.YtammjnjpheobaaaGreat
open Go.SL Go.Tup Go.Gr
theorem labs_one {g:Nat→Ed} {S:Nat→Prop} {N:Nat} {l l':List Int} (h:LabOk g S N (-1) l) (h':LabOk g S N (-1) l'):l=l':=by
 apply List.ext_getElem?
 intro v
 by_cases hv:v<N
 ·obtain⟨x,h1,h2,_,h3⟩:=h.at_ v hv (by omega)
  obtain⟨y,g1,g2,_,g3⟩:=h'.at_ v hv (by omega)
  have e1:=h3 y g2
  have e2:=g3 x h2
  rw[h1,g1,show x=y by omega]
 ·rw[List.getElem?_eq_none (by rw[h.len];omega),List.getElem?_eq_none (by rw[h'.len];omega)]
theorem fors_one {es:List IE} {fl fl':List Bool} (h:forestOk es fl) (h':forestOk es fl'):fl=fl':=by
 apply List.ext_getElem?
 intro i
 by_cases hi:i<es.length
 ·have i1:i<fl.length:=by rw[h.1];exact hi
  have i2:i<fl'.length:=by rw[h'.1];exact hi
  have h1:fl[i]? =some fl[i]:=List.getElem?_eq_getElem i1
  have h2:fl'[i]? =some fl'[i]:=List.getElem?_eq_getElem i2
  have k1:=h.2 i _ h1
  have k2:=h'.2 i _ h2
  rw[h1,h2]
  congr 1
  rw[Bool.eq_iff_iff,k1,k2]
 ·rw[List.getElem?_eq_none (by rw[h.1];omega),List.getElem?_eq_none (by rw[h'.1];omega)]
end Go.Proofs.YtammjnjpheobaaaGreat
namespace Go.SL
section
variable {P:Program} {ops:Array Oper} {Q:Exit→Act→World→Prop} {cls:Nat→Oper→Cls} {w0:World} {S:List Nat} {n:Nat} {l:List (Nat×Oper)} {L:Slots} {D:List Deferred} {H:Hp} {qs:List Rd} {k d T yT:Nat} {x y:Operand} {ty:TypeId} {pos:String} {af:Array Edge} {g:Option (Nat×Bool)}
end
end Go.SL
namespace Go.Proofs.YtammjnjpheobaaaGreat
open Go.SL Go.Spc Go.Tup Go.Srt
structure Ons (n ro:Nat) (W:Wk) (fs:List Fl):Prop where
 size:W.δ.size=10
 room:W.α.room=ro
 used:W.α.used=0
 acts:W.δ.acts≤1000000000
 n:W.σ.n=n
 live:W.live.Perm (addFs fs [])
theorem Ons.fresh (n ro:Nat):Ons n ro (wk0 10 n ro) []:=⟨rfl,rfl,rfl,Nat.zero_le _,rfl,.refl _⟩
theorem Ons.lay {n ro k m:Nat} {bd ba bs:Nat} {cd ca cs cd1 ca1 cs1:Chunk} {W W1:Wk} {f:Fl} {fs:List Fl} {ts:List T5} (h:Ons n ro W fs) (hW:Wc bd ba bs W cd ca cs) (hW1:Wc bd ba bs W1 cd1 ca1 cs1) (hE:Ev W W1 (nblocks 10 k m) (nblocks 10 k m)) (hg:W1.α.gs.Perm W.α.gs) (hl:W1.live.Perm (addF f W.live)) (hfo:FileOk W1.δ.disk 10 [f.ext] f ts) (ha:W.δ.acts+nblocks 10 k m≤1000000000):
  Ons n ro W1 (fs++[f])∧FileIn W1 (f,ts):=by
 have h1:W1.δ.size=10:=hE.size.trans h.size
 have h2:=hE.acts.2
 exact⟨⟨h1,hE.room.trans h.room,(used_eq hW hW1 hg).trans h.used,by omega,hE.n.trans h.n,(hl.trans (addF_perm h.live)).trans (by rw[←addFs_app])⟩,FileIn.new hfo h1 hl⟩
end Go.Proofs.YtammjnjpheobaaaGreat
