/-
  Parts of the proof, put together: Least, LawB, Law18, LeastL, RwT, Ref18, RowsIn, ReadN. No condition.
-/
import Derived.Test.YtjoicjgfgkpdjaaGreatF24
set_option linter.unusedVariables false
set_option linter.unusedSimpArgs false
set_option linter.unnecessarySimpa false
set_option maxHeartbeats 4000000
namespace Go.Proofs.YtjoicjgfgkpdjaaGreat
open Go.SL Go.Spc Go.Tup Go.Srt
theorem StepCt.mono {p:Jp} {J:Jb} {mk:Nat} {us:List Value} {Hx:Hp} {A T:Nat} {er:Option Nat} {ts:List T5} {R R':Fl→Int→Hp→Prop} (h:StepCt p J mk us Hx A T er ts R) (hr:∀f e Hx',R f e Hx'→R' f e Hx'):StepCt p J mk us Hx A T er ts R':=by
 intro W cd ca cs held ph cap h1 h2
 refine(h W cd ca cs held ph cap h1 h2).mono ?_
 rintro v H' ⟨f,e,cd',ca',cs',W',Hx',a1,a2,a3,a4,a5⟩
 exact⟨f,e,cd',ca',cs',W',Hx',a1,a2,a3,a4,hr _ _ _ a5⟩
theorem JobW.lives {p:Jp} {J:Jb} {held:List (Fl×List T5)} {W:Wk} (h:JobW p J held W) (he:J.e=0):W.live.length≤J.G.length+p.L0.length∧total W.live=(J.G.map (·.1.blocks)).sum+total p.L0:=by
 obtain⟨hp,_⟩:=h.ok he
 have h1:=h.live.length_eq
 have h2:=length_addFs (held.map (·.1)) p.L0
 have h3:total W.live=_:=(total_perm h.live).trans (total_addFs _ _)
 have h4:=hp.length_eq
 have h5:(held.map (·.1)).map (·.blocks)=held.map (·.1.blocks):=by simp
 have h6:=(hp.map (·.1.blocks)).sum_nat
 rw[List.length_map] at h2
 rw[h5,h6] at h3
 exact⟨by omega,h3⟩
theorem found_step {p:Jp} {B m k a:Nat} (hR:Rm p B m k a) {er:Option Nat} {Gf:List (Fl×List T5)} (hlen:Gf.length≤k) (hblk:∀x∈Gf,x.1.blocks≤B) (pf vf:Fl) (vts qts:List T5) (hsp:(pf,partsF qts)∈Gf∨In0 p (pf,partsF qts)) (hsv:(vf,vts)∈Gf∨In0 p (vf,vts)) (hwv:vf.width=1) (hcv:vf.count≤500) (hcp:pf.count≤500) (hpp:∀x∈partsF qts,okP vts.length x)
  (c:Nat) (hc:c≤1000) (hc2:pf.count≤2*c) (hc1:vf.count≤2*c) (hk:c*(Gf.length+p.L0.length+3)+(Gf.length*B+total p.L0+2*c)≤p.n) (x y:Nat) (hx:x≤900000000) (b8 b10 b4:Nat):
  StepCt p ⟨0,er,Gf,x,y⟩ 41 [pv b8,pv b10,pv b4] (lookH p.bj b8 b10 b4 pf vf) fndA 20000 none ((partsF qts).map (foundT vts)) fun f e Hx'=>Hx'=lookH p.bj b8 b10 b4 pf vf∧FB pf.count c 2 pf.count e f:=by
 intro W cd ca cs held ph capj hW hJW
 have hll:=hJW.lives rfl
 dsimp only at hll
 have hsum:=sum_le (B:=B) (l:=Gf.map (·.1.blocks)) (by intro y hy;obtain⟨x,hx,rfl⟩:=List.mem_map.1 hy;exact hblk x hx)
 rw[List.length_map] at hsum
 have hus:=hJW.used hR.ok hW
 have hja:=hJW.acts
 dsimp only at hja
 have hs8:=hR.ok.size.1
 have hsz:=hJW.size
 have hF:=found_ct p p.bw p.bd p.ba p.bs p.bj rfl W cd ca cs hW pf vf vts qts (hJW.file (hsp.imp (fun h=>(hJW.ok rfl).1.mem_iff.2 h) id)) (hJW.file (hsv.imp (fun h=>(hJW.ok rfl).1.mem_iff.2 h) id)) hwv hcv hcp hpp c
  (by rw[hsz];exact nbS hs8 (by omega) (by omega) (.inr ⟨by omega,hc2⟩)) (by rw[hsz];exact nbS hs8 (by omega) (by omega) (.inr ⟨by omega,hc1⟩)) hc (by
   rw[hJW.n]
   have h1:c*(W.live.length+3)≤c*(Gf.length+p.L0.length+3):=Nat.mul_le_mul_left _ (by omega)
   omega) (by omega) (by omega) ph held.length capj
 have hflv:∀f:Fl,flv f= .agg #[.int .i64 (f.first:Int),.int .i64 (f.blocks:Int),.int .i64 (f.width:Int),.int .i64 (f.count:Int)]:=fun _=>rfl
 have hfl4:∀f:Fl,fl4 f=[.int .i64 (f.first:Int),.int .i64 (f.blocks:Int),.int .i64 (f.width:Int),.int .i64 (f.count:Int)]:=fun _=>rfl
 have hnb:nblocks W.δ.size 2 pf.count≤c:=by rw[hsz];exact nbS hs8 (by omega) (by omega) (.inr ⟨by omega,hc2⟩)
 rw[hflv pf,hflv vf] at hF
 unfold jrow lookH at*
 rw[hfl4 pf,hfl4 vf]
 refine Ct.intro Tryz.func41 rfl Tryz.ntmps41 (nle rfl) fun w0=> ?_;dsimp only[argSlots,Nat.reduceAdd]
 repeat(refine st ?_;intros)
 refine R.callX (hct:=hF) (h:= ?_)
 rintro _ _ ⟨f,e,cd',ca',cs',W',rfl,rfl,hW',hS,h1,h2,h3⟩
 dsimp only[List.cons_append,List.nil_append]
 constructor
 ·(·(first|(intro _ _ h;cases h;done)|(repeat(first|exact qok_nil|(apply qok_cons;(·first|(intro hc;exact absurd hc (nmem rfl))|(intro _;apply CellPr.mk;(·repeat(first|exact Has.here|apply Has.there));(first|exact rfl|assumption))|(intro _;apply CellsPr.mk;(·repeat(first|exact Has.here|apply Has.there));(first|exact rfl|assumption))))))))
 rw[hflv]
 repeat(refine st ?_;intros)
 (refine Dn.post (Hr:=[[(p.bj,row [pv p.bw,.int .i64 0,.slice ph held.length capj] 102)],wrow p.bw p.bd p.ba p.bs,cd',ca',cs',[(b8,row [pv p.bj] 75)],[(b10,row [.int .i64 (pf.first:Int),.int .i64 (pf.blocks:Int),.int .i64 (pf.width:Int),.int .i64 (pf.count:Int)] 27)],[(b4,row [.int .i64 (vf.first:Int),.int .i64 (vf.blocks:Int),.int .i64 (vf.width:Int),.int .i64 (vf.count:Int)] 27)]]) Tryz.results41 (hR:= ?_);exact⟨f,e,cd',ca',cs',W',_,rfl,rfl,hW',hS,rfl,h1,Nat.le_trans h2 hnb,h3⟩)
theorem Least_width (vf qf:Fl) (hw:¬(vf.width=1∧qf.width=3)) (x:Value):CtQ Tryz.prog 16 [x,flv vf,flv qf] [] (.tuple #[flv ⟨0,0,0,0⟩,.int .i64 1]):=by
 have hflv:∀f:Fl,flv f= .agg #[.int .i64 (f.first:Int),.int .i64 (f.blocks:Int),.int .i64 (f.width:Int),.int .i64 (f.count:Int)]:=fun _=>rfl
 rw[hflv,hflv]
 by_cases h2:vf.width=1
 ·have h5:qf.width≠3:=fun h=>hw ⟨h2,h⟩
  refine Ct.intro Tryz.func16 rfl Tryz.ntmps16 (nle rfl) fun w0=> ?_;dsimp only[argSlots,Nat.reduceAdd]
  repeat(refine st ?_;intros)
  (refine Dn.post (Hr:=[]) Tryz.results16 (hR:= ?_);exact⟨rfl,rfl⟩)
 ·refine Ct.intro Tryz.func16 rfl Tryz.ntmps16 (nle rfl) fun w0=> ?_;dsimp only[argSlots,Nat.reduceAdd]
  repeat(refine st ?_;intros)
  (refine Dn.post (Hr:=[]) Tryz.results16 (hR:= ?_);exact⟨rfl,rfl⟩)
theorem Least_nil (vf qf:Fl) (hw3:vf.width=1) (hw2:qf.width=3):CtQ Tryz.prog 16 [.pointer none,flv vf,flv qf] [] (.tuple #[flv ⟨0,0,0,0⟩,.int .i64 1]):=by
 have hflv:∀f:Fl,flv f= .agg #[.int .i64 (f.first:Int),.int .i64 (f.blocks:Int),.int .i64 (f.width:Int),.int .i64 (f.count:Int)]:=fun _=>rfl
 rw[hflv,hflv]
 refine Ct.intro Tryz.func16 rfl Tryz.ntmps16 (nle rfl) fun w0=> ?_;dsimp only[argSlots,Nat.reduceAdd]
 repeat(refine st ?_;intros)
 refine R.call (hct:=Begin_nil _) (h:= ?_)
 rintro _ _ ⟨rfl,rfl⟩
 try dsimp only[List.cons_append,List.nil_append]
 repeat(refine st ?_;intros)
 (refine Dn.post (Hr:=[]) Tryz.results16 (hR:= ?_);exact⟨rfl,rfl⟩)
theorem Least_arg (bw bd ba bs:Nat) (cd ca cs:Chunk) (vf qf:Fl) (v3:Int) (hv3:vf.width=1) (hw2:qf.width=3) (hR:CtQ Tryz.prog 49 [pv bw,.agg #[.int .i64 (vf.first:Int),.int .i64 (vf.blocks:Int),.int .i64 (vf.width:Int),.int .i64 v3]] [wrow bw bd ba bs,cd,ca,cs] (.tuple #[.pointer none,.int .i64 1])):
  CtQ Tryz.prog 16 [pv bw,.agg #[.int .i64 (vf.first:Int),.int .i64 (vf.blocks:Int),.int .i64 (vf.width:Int),.int .i64 v3],flv qf] [wrow bw bd ba bs,cd,ca,cs] (.tuple #[flv ⟨0,0,0,0⟩,.int .i64 1]):=by
 have hflv:∀f:Fl,flv f= .agg #[.int .i64 (f.first:Int),.int .i64 (f.blocks:Int),.int .i64 (f.width:Int),.int .i64 (f.count:Int)]:=fun _=>rfl
 have hB:=fun b=>Begin_arg bw bd ba bs cd ca cs b 2 2 _ _ _ _ ([.int .i64 (vf.first:Int),.int .i64 (vf.blocks:Int),.int .i64 (vf.width:Int),.int .i64 v3]++fl4 qf) rfl (by omega) (by omega) hR
 simp only[fl4,List.cons_append,List.nil_append] at hB
 rw[hflv,hflv]
 refine Ct.intro Tryz.func16 rfl Tryz.ntmps16 (nle rfl) fun w0=> ?_;dsimp only[argSlots,Nat.reduceAdd]
 repeat(refine st ?_;intros)
 refine R.call (hct:=hB _) (h:= ?_)
 rintro _ _ ⟨rfl,rfl⟩
 try dsimp only[List.cons_append,List.nil_append]
 repeat(refine st ?_;intros)
 (refine Dn.post (Hr:=[wrow bw bd ba bs,cd,ca,cs]) Tryz.results16 (hR:= ?_);exact⟨rfl,rfl⟩)
abbrev leastA:Nat:=6180000
theorem Least_ct (bw bd ba bs:Nat) (W:Wk) (cd ca cs:Chunk) (h:Wc bd ba bs W cd ca cs) (vf qf:Fl) (vts qts:List T5) (hv:FileIn W (vf,vts)) (hq:FileIn W (qf,qts)) (hwv:vf.width=1) (hwq:qf.width=3)
  (c m:Nat) (hcq:qf.count≤c) (hcv:vf.count≤2*c) (hc:c≤250) (hT:sortT c≤m) (hm3:3*c≤m) (hroom:m*(W.live.length+3)+(2*c+total W.live)≤W.σ.n) (hac:W.δ.acts≤400000000):
  Ct Tryz.prog 16 [pv bw,flv vf,flv qf] [wrow bw bd ba bs,cd,ca,cs] (LayerQ bw bd ba bs W cd cs leastA leastA (errQ vts.length qts) (leastF vts qts) 2):=by
 have hflv:∀f:Fl,flv f= .agg #[.int .i64 (f.first:Int),.int .i64 (f.blocks:Int),.int .i64 (f.width:Int),.int .i64 (f.count:Int)]:=fun _=>rfl
 have hfl4:∀f:Fl,fl4 f=[.int .i64 (f.first:Int),.int .i64 (f.blocks:Int),.int .i64 (f.width:Int),.int .i64 (f.count:Int)]:=fun _=>rfl
 have hz:flv ⟨0,0,0,0⟩= .agg #[.int .i64 0,.int .i64 0,.int .i64 0,.int .i64 0]:=rfl
 have hto1:tv o1= .agg #[.int .i64 1,.int .i64 0,.int .i64 0,.int .i64 0,.int .i64 0]:=rfl
 have hto12:tv o12= .agg #[.int .i64 1,.int .i64 2,.int .i64 0,.int .i64 0,.int .i64 0]:=rfl
 have hB:=fun b=>Begin_ct bw bd ba bs W cd ca cs h [(vf,vts),(qf,qts)] (by simp only[List.mem_cons,List.not_mem_nil,or_false];rintro x (rfl|rfl);exact hv;exact hq) (by simp) (some ⟨b,0,none⟩) 2 _ (vec2 b vf qf)
 simp only[hfl4,List.cons_append,List.nil_append] at hB
 rw[hflv,hflv]
 refine Ct.intro Tryz.func16 rfl Tryz.ntmps16 (nle rfl) fun w0=> ?_;dsimp only[argSlots,Nat.reduceAdd]
 repeat(refine st ?_;intros)
 refine R.call (hct:=hB _) (h:= ?_)
 rintro _ _ ⟨ca1,α1,hW1,hg1,hr1,⟨hroom8,bj,rfl,rfl⟩|⟨hsmall,rfl,rfl⟩⟩
 rotate_left
 ·dsimp only[List.cons_append,List.nil_append]
  repeat(refine st ?_;intros)
  (refine Dn.post (Hr:=[wrow bw bd ba bs,cd,ca1,cs]) Tryz.results16 (hR:= ?_);exact .inr ⟨hsmall,rfl,ca1,α1,rfl,hW1,hg1,hr1⟩)
 dsimp only[List.cons_append,List.nil_append]
 obtain⟨hp,hJ⟩:=begun_job (bj:=bj) h hW1 hg1 hr1 hroom8
 have hv0:In0 (begP bw bd ba bs bj W) (vf,vts):=begun_in0 hv
 have hq0:In0 (begP bw bd ba bs bj W) (qf,qts):=begun_in0 hq
 have hbj:(begP bw bd ba bs bj W).bj=bj:=rfl
 have hL0:(begP bw bd ba bs bj W).L0=W.live:=rfl
 have hn0:(begP bw bd ba bs bj W).n=W.σ.n:=rfl
 obtain⟨hvl,hvfit,hvb,_,_⟩:=in0file hv0
 obtain⟨hql,hqfit,hqb,_,_⟩:=in0file hq0
 dsimp only at hvl hvfit hvb hql hqfit hqb
 have hR:Rm (begP bw bd ba bs bj W) c m 2 W.δ.acts:=⟨hp,by omega,by omega,by
  rw[hL0,hn0]
  have e:2+W.live.length+1=W.live.length+3:=by omega
  rw[e];exact hroom,by omega,by omega⟩
 have hJ0:JobS (begP bw bd ba bs bj W) c 2 W.δ.acts 0 0 none [] _:=⟨hJ.weak rfl rfl rfl (Nat.le_refl _) (Nat.le_refl _),Nat.zero_le _,by simp⟩
 have hH:=halves_ct hR hJ0 qf qts hq0 hwq (by omega) vf.count (by omega) c hcq (Nat.le_refl _) hT (by simp) (by omega)
 rw[hflv,hbj] at hH
 have hH:=Ct.convP (H:=[jrow bj bw 0 none 0 0,wrow bw bd ba bs,cd,ca1,cs]) hH (jobC_open (p:=begP bw bd ba bs bj W) (e:=0) (cd:=cd) (ca:=ca1) (cs:=cs)) (fun v H' hh=>⟨H',hh,.refl _⟩)
 repeat(refine st ?_;intros)
 refine R.callX (hct:=hH) (h:= ?_)
 rintro _ _ ⟨f1,C1,e1,rfl,rfl,hJ1,hF1,hE1⟩
 dsimp only[List.cons_append,List.nil_append]
 constructor
 ·(·(first|(intro _ _ h;cases h;done)|(repeat(first|exact qok_nil|(apply qok_cons;(·first|(intro hc;exact absurd hc (nmem rfl))|(intro _;apply CellPr.mk;(·repeat(first|exact Has.here|apply Has.there));(first|exact rfl|assumption))|(intro _;apply CellsPr.mk;(·repeat(first|exact Has.here|apply Has.there));(first|exact rfl|assumption))))))))
 try rw[hflv]
 have hok1:e1=0→okQs vf.count qts:=fun h0=>by
  have h1:=hJ1.er0 h0
  unfold errQ at h1
  split at h1
  ·assumption
  ·cases h1
 have hF1c:=hF1.cnt
 have hF1b:=hF1.blk
 have hRn:=fun b8 b10 b4=>SRun hR hJ1 41 inferInstance [pv b8,pv b10,pv b4] (lookH bj b8 b10 b4 f1 vf) fndA 20000 200 none ((partsF qts).map (foundT vts)) (by decide) (by decide) (b:=2*qf.count) (c:=c) (w:=2) (n:=2*qf.count) (fun he x y hx=>by
   subst he
   have hq1:=hok1 rfl
   have hc1:=(hF1.ok rfl).2
   refine(found_step hR hJ1.len hJ1.blk f1 vf vts qts (.inl List.mem_cons_self) (.inr hv0) hwv (by omega) (by omega) (fun x hx=>by
    obtain⟨q,hm,hh⟩:=partsF_mem.1 hx
    rw[hvl]
    exact halfT_ok (hq1.1 q hm) x hh) c (by omega) (by omega) (by omega) (by
     rw[hL0,hn0]
     have e1:c*([(f1,partsF qts)].length+W.live.length+3)=c*W.live.length+4*c:=by simp only[List.length_cons,List.length_nil];rw[Nat.mul_add,Nat.mul_add];omega
     have e2:3*c*(W.live.length+3)≤m*(W.live.length+3):=Nat.mul_le_mul_right _ hm3
     have e3:3*c*(W.live.length+3)=3*(c*W.live.length)+9*c:=by rw[Nat.mul_add,Nat.mul_assoc];omega
     rw[e1]
     simp only[List.length_cons,List.length_nil]
     omega) x y (by omega) b8 b10 b4).mono ?_
   rintro f e Hx' ⟨a1,a2⟩
   rw[hc1] at a2
   exact⟨a1,a2⟩) (Nat.le_refl _) (by simp)
 simp only[lookH,hfl4,hbj,or_none'] at hRn
 repeat(refine st ?_;intros)
 repeat(refine st ?_;intros)
 refine R.callX (hct:=hRn _ _ _) (h:= ?_)
 rintro _ _ ⟨f2,C2,e2,rfl,rfl,hJ2,hF2,hE2⟩
 dsimp only[List.cons_append,List.nil_append]
 constructor
 ·(·(first|(intro _ _ h;cases h;done)|(repeat(first|exact qok_nil|(apply qok_cons;(·first|(intro hc;exact absurd hc (nmem rfl))|(intro _;apply CellPr.mk;(·repeat(first|exact Has.here|apply Has.there));(first|exact rfl|assumption))|(intro _;apply CellsPr.mk;(·repeat(first|exact Has.here|apply Has.there));(first|exact rfl|assumption))))))))
 try rw[hflv]
 have hS3:=SSort hR hJ2 f2 _ _ o12 rfl false hF2 .here (by omega) (Nat.le_refl _) hT (by omega)
 rw[hflv,hbj,hto12] at hS3
 repeat(refine st ?_;intros)
 refine R.callX (hct:=hS3) (h:= ?_)
 rintro _ _ ⟨f3,C3,e3,rfl,rfl,hJ3,hF3,hE3⟩
 dsimp only[List.cons_append,List.nil_append]
 constructor
 ·(·(first|(intro _ _ h;cases h;done)|(repeat(first|exact qok_nil|(apply qok_cons;(·first|(intro hc;exact absurd hc (nmem rfl))|(intro _;apply CellPr.mk;(·repeat(first|exact Has.here|apply Has.there));(first|exact rfl|assumption))|(intro _;apply CellsPr.mk;(·repeat(first|exact Has.here|apply Has.there));(first|exact rfl|assumption))))))))
 try rw[hflv]
 have hS4:=SSort hR hJ3 f3 _ _ o1 rfl true hF3 .here (by omega) (Nat.le_refl _) hT (by omega)
 rw[hflv,hbj,hto1,show srt (ltO o1) true (srt (ltO o12) false ((partsF qts).map (foundT vts)))=leastF vts qts from rfl] at hS4
 repeat(refine st ?_;intros)
 refine R.callX (hct:=hS4) (h:= ?_)
 rintro _ _ ⟨f4,C4,e4,rfl,rfl,hJ4,hF4,hE4⟩
 dsimp only[List.cons_append,List.nil_append]
 constructor
 ·(·(first|(intro _ _ h;cases h;done)|(repeat(first|exact qok_nil|(apply qok_cons;(·first|(intro hc;exact absurd hc (nmem rfl))|(intro _;apply CellPr.mk;(·repeat(first|exact Has.here|apply Has.there));(first|exact rfl|assumption))|(intro _;apply CellsPr.mk;(·repeat(first|exact Has.here|apply Has.there));(first|exact rfl|assumption))))))))
 try rw[hflv]
 have hRs:=fun b=>SResult hR hJ4 f4 b
 simp only[hfl4,hbj] at hRs
 repeat(refine st ?_;intros)
 refine R.call (hct:=hRs _) (h:= ?_)
 rintro _ _ ⟨cd5,ca5,cs5,W5,rfl,rfl,hW5,hD⟩
 try dsimp only[List.cons_append,List.nil_append]
 have hSt:=done_stepped (A:=leastA) (T:=leastA) hD rfl (by dsimp only;unfold leastA;omega) (by dsimp only;unfold leastA;omega)
 dsimp only at hSt
 rw[←hvl] at hSt
 by_cases he:e4=0
 ·subst he
  rw[if_pos rfl] at hSt
  repeat(refine st ?_;intros)
  (refine Dn.post (Hr:=[wrow bw bd ba bs,cd5,ca5,cs5]) Tryz.results16 (hR:= ?_);exact .inl ⟨hroom8,f4,0,cd5,ca5,cs5,W5,rfl,rfl,hW5,hSt,fun _=>(hF4.ok rfl).1⟩)
 ·rw[if_neg he] at hSt
  repeat(refine st ?_;intros)
  (refine Dn.post (Hr:=[wrow bw bd ba bs,cd5,ca5,cs5]) Tryz.results16 (hR:= ?_);exact .inl ⟨hroom8,⟨0,0,0,0⟩,e4,cd5,ca5,cs5,W5,rfl,rfl,hW5,hSt,fun h=>absurd h he⟩)
theorem fl4len (f:Fl):(fl4 f).length=4:=rfl
def sumB (fs:List Fl):Nat:=(fs.map (·.blocks)).sum
theorem sumB_take {fs:List Fl} {i:Nat} {f:Fl} (h:fs[i]? =some f):sumB (fs.take (i+1))=sumB (fs.take i)+f.blocks:=by
 unfold sumB;rw[List.take_add_one,h];simp
theorem sumB_le (fs:List Fl) (i:Nat):sumB (fs.take i)≤sumB fs:=by
 have h:=congrArg sumB (List.take_append_drop i fs)
 unfold sumB at h⊢
 rw[List.map_append,List.sum_append] at h
 omega
theorem ar_peak {ba:Nat} {α:Ar} {c:Chunk} (h:IsAr ba α c):α.peak≤α.room:=by
 obtain⟨c0,⟨bm,ck,_,h1⟩,_⟩:=h
 omega
def Wk.flt (W:Wk) (n:Int):Wk:={W with δ:={W.δ with fault:=n}}
theorem Wc.flt {bd ba bs:Nat} {W:Wk} {cd ca cs cd':Chunk} {n:Int} (h:Wc bd ba bs W cd ca cs) (hd:IsDev bd {W.δ with fault:=n} cd'):Wc bd ba bs (W.flt n) cd' ca cs:=⟨hd,h.ar,h.sp,h.nn,h.live⟩
theorem free_sumN {bd ba bs:Nat} {W:Wk} {cd ca cs:Chunk} (h:Wc bd ba bs W cd ca cs) {fs:List Fl} (hl:W.live.Perm (addFs fs [])) {N:Nat} (hn:W.σ.n=N):total W.σ.free+sumB fs=N:=by
 have h1:=free_is h hl
 rw[total_addFs] at h1
 unfold sumB
 rw[show total []=0 from rfl] at h1
 omega
theorem free_sum {bd ba bs:Nat} {W:Wk} {cd ca cs:Chunk} (h:Wc bd ba bs W cd ca cs) {fs:List Fl} (hl:W.live.Perm (addFs fs [])) (hn:W.σ.n=9000):total W.σ.free+sumB fs=9000:=free_sumN h hl hn
theorem file_zero {W:Wk} {k:Nat} {bd:Nat} {cd:Chunk} (hd:IsDev bd W.δ cd) (h1:1≤k) (h2:k≤5):FileIn W (⟨0,0,k,0⟩,[]):=by
 obtain⟨⟨hs,_⟩,_⟩:=hd.num
 have hp:=holds_pos hs h1 h2
 refine⟨[],⟨h1,h2,rfl,Nat.zero_le _,?_,by simp,fun j hj=>absurd hj (Nat.not_lt_zero j),fun h=>absurd rfl h⟩,by simp⟩
 show 0=(0+holds W.δ.size k-1)/holds W.δ.size k
 rw[Nat.div_eq_of_lt (by omega)]
theorem work18ct (n:Nat) (hn:n≤1000):Ct Tryz.prog 15 [.int .i64 (n:Int)] [] fun v H'=>
  ∃bw bd ba bs cd ca cs,v=pv bw∧H'=[wrow bw bd ba bs,cd,ca,cs]∧Wc bd ba bs (wk0 10 9000 (10*n)) cd ca cs:=by
 have hDn:=DevNew_u 10 9000 (by omega) (by omega)
 have hAn:=ArenaNew_ct (10*n) (by omega)
 have hSn:=SpaceNew_ct 9000 (by omega) (by omega)
 have e1:IntKind.wrap .i64 ((10:Int)*(n:Int))=((10*n:Nat):Int):=by rw[wrap_i64 (by omega)];omega
 refine Ct.intro Tryz.func15 rfl Tryz.ntmps15 (nle rfl) fun w0=> ?_;dsimp only[argSlots,Nat.reduceAdd]
 repeat(refine st ?_;intros)
 refine R.call (hct:=hDn) (h:= ?_)
 rintro _ _ ⟨bd,cd,rfl,rfl,hdev⟩
 try dsimp only[List.cons_append,List.nil_append]
 repeat(refine st ?_;intros)
 refine R.call (hct:=hAn) (h:= ?_)
 rintro _ _ ⟨ba,ca,rfl,har,rfl⟩
 try dsimp only[List.cons_append,List.nil_append]
 repeat(refine st ?_;intros)
 refine R.call (hct:=hSn) (h:= ?_)
 rintro _ _ ⟨bs,cs,rfl,hsp,rfl⟩
 try dsimp only[List.cons_append,List.nil_append]
 have hFn:=FileNew_ct bd ba bs
 repeat(refine st ?_;intros)
 refine R.call (hct:=hFn) (h:= ?_)
 rintro _ _ ⟨bw,rfl,rfl⟩
 try dsimp only[List.cons_append,List.nil_append]
 repeat(refine st ?_;intros)
 (refine Dn.post (Hr:=[wrow bw bd ba bs,cd,ca,cs]) Tryz.results15 (hR:= ?_);exact⟨bw,bd,ba,bs,cd,ca,cs,rfl,rfl,wc0 (by omega) hdev har hsp⟩)
theorem clean18ct (bw bd ba bs:Nat) (W:Wk) (ca cs:Chunk) (har:IsAr ba W.α ca) (hsp:IsSpace bs W.σ cs) (p:Option Addr) (n cap:Nat) (fs:List Fl) (c:Chunk) (hv:Rw fl4 4 p n fs c) (hn:n≤100) (hu:W.α.used=0) (ht:total W.σ.free+sumB fs=9000):
  CtQ Tryz.prog 27 [pv bw,.slice p n cap] [wrow bw bd ba bs,ca,cs,c] (.bool true):=by
 have hl:=hv.1
 have hWA:=WArena_ct bw bd ba bs
 have hWS:=WSpace_ct bw bd ba bs
 have hUs:=aUsed ba W.α ca har
 have hPk:=aPeak ba W.α ca har
 have hRm:=aRoom ba W.α ca har
 have hFr:=SFree_ct bs W.σ cs hsp
 have hpk:=ar_peak har
 rw[hu] at hUs
 refine Ct.intro Tryz.func27 rfl Tryz.ntmps27 (nle rfl) fun w0=> ?_;dsimp only[argSlots,Nat.reduceAdd]
 repeat(first|(refine st ?_;intros)|(refine cq hWA ?_)|(refine cq hWS ?_)|(refine cq hUs ?_)|(refine cq hFr ?_)|(refine cq hPk ?_)|(refine cq hRm ?_))
 refine G.loop (X:=Nat) (fun i=>i≤n) (fun i=>[(6,.int .i64 (i:Int)),(5,.int .i64 (sumB (fs.take i):Int)),(1,.slice p n cap),(0,pv bw)])
  (fun _=>[wrow bw bd ba bs,ca,cs,c]) (fun i=>n-i) 0 (Nat.zero_le _) (body:= ?_)
 intro i hi
 have hsl:=sumB_le fs i
 by_cases hlt:i<n
 ·obtain⟨b,off,cc,T,fz,rfl,rfl,_,hget⟩:=hv.pos fl4len (by omega)
  have hit:fs[i]? =some fs[i]:=List.getElem?_eq_getElem (by omega)
  have q1:=hget i 1 _ _ hit rfl
  have hst:=sumB_take hit
  have hsl2:=sumB_le fs (i+1)
  generalize fs[i]=f at*
  have e1:IntKind.wrap .i64 ((sumB (fs.take i):Int)+(f.blocks:Int))=((sumB (fs.take (i+1)):Nat):Int):=by rw[wrap_i64 (by omega)];omega
  repeat(first|(refine st ?_;intros)|(refine cq hWA ?_)|(refine cq hWS ?_)|(refine cq hUs ?_)|(refine cq hFr ?_)|(refine cq hPk ?_)|(refine cq hRm ?_))
  refine Dn.round (i+1) (by omega) (by omega)
 ·obtain rfl:i=n:=by omega
  rw[List.take_of_length_le (by omega)]
  have e1:IntKind.wrap .i64 ((9000:Int)-(sumB fs:Int))=(total W.σ.free:Int):=by rw[wrap_i64 (by omega)];omega
  repeat(first|(refine st ?_;intros)|(refine cq hWA ?_)|(refine cq hWS ?_)|(refine cq hUs ?_)|(refine cq hFr ?_)|(refine cq hPk ?_)|(refine cq hRm ?_))
  (refine Dn.post (Hr:=[wrow bw bd ba bs,ca,cs,c]) Tryz.results27 (hR:= ?_);exact⟨congrArg Value.bool (dec_true (by omega)),rfl⟩)
def colT (xs:List Int):List T5:=xs.map fun x=>⟨x,0,0,0,0⟩
theorem colT_ok {xs:List Int} (h:∀x∈xs,inI64 x):∀t∈colT xs,okT 1 t:=by
 intro t ht
 obtain⟨x,hx,rfl⟩:=List.mem_map.1 ht
 exact okT1 (h x hx)
theorem colT_len (xs:List Int):(colT xs).length=xs.length:=by simp[colT]
structure Two (n ro wa wb:Nat) (W:Wk) (f g:Fl) (vts qts:List T5):Prop where
 inF:FileIn W (f,vts)
 inG:FileIn W (g,qts)
 fw:f.width=wa
 gw:g.width=wb
 fc:f.count=vts.length
 gc:g.count=qts.length
 fb:f.blocks=nblocks 10 wa vts.length
 gb:g.blocks=nblocks 10 wb qts.length
 size:W.δ.size=10
 room:W.α.room=ro
 used:W.α.used=0
 acts:W.δ.acts≤f.blocks+g.blocks
 n:W.σ.n=n
 live:W.live.Perm (addFs [f,g] [])
theorem two_lay {n ro wa wb na nb:Nat} {bd ba bs:Nat} {cd ca cs cd1 ca1 cs1 cd2 ca2 cs2:Chunk} {W1 W2:Wk} {f g:Fl} {vts qts:List T5} (hW:Wc bd ba bs (wk0 10 n ro) cd ca cs) (hW1:Wc bd ba bs W1 cd1 ca1 cs1) (hE1:Ev (wk0 10 n ro) W1 (nblocks 10 wa na) (nblocks 10 wa na)) (hg1:W1.α.gs.Perm (wk0 10 n ro).α.gs) (hl1:W1.live.Perm (addF f (wk0 10 n ro).live)) (hf1:f.width=wa) (hc1:f.count=na) (hb1:f.blocks=nblocks 10 wa na) (hfo1:FileOk W1.δ.disk 10 [f.ext] f vts)
  (hW2:Wc bd ba bs W2 cd2 ca2 cs2) (hE2:Ev W1 W2 (nblocks 10 wb nb) (nblocks 10 wb nb)) (hK2:Keep W1.live W1 W2) (hg2:W2.α.gs.Perm W1.α.gs) (hl2:W2.live.Perm (addF g W1.live)) (hf2:g.width=wb) (hc2:g.count=nb) (hb2:g.blocks=nblocks 10 wb nb) (hfo2:FileOk W2.δ.disk 10 [g.ext] g qts):Two n ro wa wb W2 f g vts qts∧W2.δ.fault= -1:=by
 have hsz1:W1.δ.size=10:=hE1.size
 have hsz2:W2.δ.size=10:=hE2.size.trans hsz1
 have a1:=hE1.acts.2
 have a2:=hE2.acts.2
 rw[show(wk0 10 n ro).δ.acts=0 from rfl] at a1
 have l1:=hfo1.len
 have l2:=hfo2.len
 refine⟨⟨(FileIn.new (by exact hfo1) hsz1 hl1).stay hE2.size hK2 (mem_addF hl2),FileIn.new hfo2 hsz2 hl2,hf1,hf2,l1.symm,l2.symm,by rw[hb1];congr 1;omega,by rw[hb2];congr 1;omega,hsz2,hE2.room.trans hE1.room,(used_eq hW1 hW2 hg2).trans (used_eq hW hW1 hg1),by omega,hE2.n.trans hE1.n,?_⟩,hE2.fault (hE1.fault rfl)⟩
 exact hl2.trans (addF_perm hl1)
theorem Two.flt {n ro wa wb:Nat} {W:Wk} {f g:Fl} {vts qts:List T5} (h:Two n ro wa wb W f g vts qts) (x:Int):Two n ro wa wb (W.flt x) f g vts qts:={h with}
theorem Least_two (bw bd ba bs:Nat) (ro:Nat) (hro:80≤ro) (W:Wk) (cd ca cs:Chunk) (h:Wc bd ba bs W cd ca cs) (f g:Fl) (vts qts:List T5) (h2:Two 9000 ro 1 3 W f g vts qts) (hv:vts.length≤200) (hq:qts.length≤201):
  Ct Tryz.prog 16 [pv bw,flv f,flv g] [wrow bw bd ba bs,cd,ca,cs] fun v H'=>∃x e cd' ca' cs' W',v= .tuple #[flv x,.int .i64 e]∧H'=[wrow bw bd ba bs,cd',ca',cs']∧Wc bd ba bs W' cd' ca' cs'∧W'.α.used=0∧W'.α.room=ro∧W'.σ.n=9000∧W'.δ.size=10∧W'.δ.acts≤10000000∧(W.δ.fault= -1→W'.δ.fault= -1)∧
   ((e=0∧okQs vts.length qts∧FileIn W' (x,leastF vts qts)∧x.width=2∧x.count=(leastF vts qts).length∧W'.live.Perm (addFs [f,g,x] []))∨
    (e≠0∧x=⟨0,0,0,0⟩∧W'.live.Perm (addFs [f,g] [])∧((e=6∧W.δ.fault≠-1)∨(e=3∧¬okQs vts.length qts)))):=by
 have hn1:f.blocks≤200:=by rw[h2.fb];exact Nat.le_trans (nblocks_le (holds_pos (by omega) (by omega) (by omega))) hv
 have hn2:g.blocks≤201:=by rw[h2.gb];exact Nat.le_trans (nblocks_le (holds_pos (by omega) (by omega) (by omega))) hq
 have hn1':f.blocks≤25:=by
  rw[h2.fb]
  have h1:nblocks 10 1 vts.length≤nblocks 10 1 200:=nblocks_mono hv
  have h3:nblocks 10 1 200=25:=by decide
  omega
 have hn2':g.blocks≤101:=by
  rw[h2.gb]
  have h1:nblocks 10 3 qts.length≤nblocks 10 3 201:=nblocks_mono hq
  have h3:nblocks 10 3 201=101:=by decide
  omega
 have hll:=h2.live.length_eq
 have hl3:=length_addFs [f,g] []
 have htt:total W.live=_:=(total_perm h2.live).trans (total_addFs _ _)
 simp only[List.length_cons,List.length_nil,List.map_cons,List.map_nil,List.sum_cons,List.sum_nil] at hl3 htt
 rw[show total []=0 from rfl] at htt
 have hfc:=h2.fc
 have hgc:=h2.gc
 have hact:=h2.acts
 have hsT:=sortT_le (b:=201) (m:=201) (l:=4) (by omega) (by decide)
 have hmul:1345*(W.live.length+3)≤1345*5:=Nat.mul_le_mul_left _ (by omega)
 refine(Least_ct bw bd ba bs W cd ca cs h f g vts qts h2.inF h2.inG h2.fw h2.gw 201 1345 (by omega) (by omega) (by omega) (by omega) (by omega) (by rw[h2.n];omega) (by omega)).mono ?_
 rintro v H' (⟨_,x,e,cd3,ca3,cs3,W3,rfl,rfl,hW3,hS3,hw3⟩|⟨hsm,_⟩)
 rotate_left
 ·exfalso
  have h3:=h2.room
  have h4:=h2.used
  have h5:=h2.size
  omega
 have hac3:=hS3.acts
 refine⟨x,e,cd3,ca3,cs3,W3,rfl,rfl,hW3,(used_eq h hW3 hS3.gs).trans h2.used,hS3.room.trans h2.room,hS3.n.trans h2.n,hS3.size.trans h2.size,by unfold leastA at hac3;omega,hS3.fault,?_⟩
 rcases hS3.res with⟨rfl,her,hl,hfo⟩|⟨he,rfl,hl,hr⟩
 ·have hok:okQs vts.length qts:=by
   unfold errQ at her
   split at her
   ·assumption
   ·cases her
  rw[h2.size] at hfo
  exact .inl ⟨rfl,hok,FileIn.new hfo (hS3.size.trans h2.size) hl,hw3 rfl,hfo.len.symm,(hl.trans (addF_perm h2.live)).trans (by rw[←addFs_app];exact .refl _)⟩
 ·refine .inr ⟨he,rfl,hl.trans h2.live,hr.imp id ?_⟩
  rintro⟨m,h1,rfl⟩
  unfold errQ at h1
  split at h1
  ·cases h1
  ·rename_i hn
   simp only[Option.some.injEq] at h1
   subst h1
   exact⟨rfl,hn⟩
structure ColX where
 i:Nat
 p:Option Addr
 cap:Nat
 ch:Chunk
theorem column18ct (p:Option Addr) (n cap:Nat) (xs:List Int) (c:Chunk) (hv:Rw icl 1 p n xs c) (hn:n≤1000000):
  Ct Tryz.prog 20 [.slice p n cap] [c] fun v H'=>∃q qc ch,v= .slice q n qc∧H'=[c,ch]∧Vec 38 5 q n qc (flat (colT xs)) ch:=by
 have hl:=hv.1
 refine Ct.intro Tryz.func20 rfl Tryz.ntmps20 (nle rfl) fun w0=> ?_;dsimp only[argSlots,Nat.reduceAdd]
 repeat(refine st ?_;intros)
 refine G.loop (X:=ColX) (fun x=>x.i≤n∧Vec 38 5 x.p x.i x.cap (flat ((colT xs).take x.i)) x.ch) (fun x=>[(4,.int .i64 (x.i:Int)),(3,.slice x.p x.i x.cap),(0,.slice p n cap)]) (fun x=>[x.ch,c]) (fun x=>n-x.i) ⟨0,none,0,[]⟩ ⟨Nat.zero_le _,Vec.nil _ _⟩ (by repeat(first|exact trivial|refine⟨rfl,?_⟩)) (by repeat(first|exact Split.nil|(apply Split.cons;·(first|exact Take.nil|(repeat(first|exact Take.here|apply Take.there)))))) ?_
 rintro⟨i,q,qc,ch⟩ ⟨hi,hV⟩
 dsimp only at hi hV⊢
 by_cases hlt:i<n
 ·obtain⟨b,off,cc,T,fz,rfl,rfl,_,hget⟩:=hv.pos icl_len (by omega)
  have hie:xs[i]? =some xs[i]:=List.getElem?_eq_getElem (by omega)
  have q0:=hget i 0 _ _ hie rfl
  rw[Nat.add_zero,Nat.mul_one] at q0
  have hmx:i+1≤maxLen:=by simp only[maxLen];omega
  have hsn:flat ((colT xs).take (i+1))=flat ((colT xs).take i)++[.int .i64 xs[i],.int .i64 0,.int .i64 0,.int .i64 0,.int .i64 0]:=by
   have h1:(colT xs)[i]? =some ⟨xs[i],0,0,0,0⟩:=by simp[colT,hie]
   rw[List.take_add_one,h1,flat_append];rfl
  generalize xs[i]=x at*
  repeat(refine st ?_;intros)
  rename_i p' cap' c' hV'
  have hV3:Vec 38 5 p' (i+1) cap' (flat ((colT xs).take (i+1))) c':=by rw[hsn];exact hV'
  refine Dn.round ⟨i+1,p',cap',c'⟩ ⟨hlt,hV3⟩ (by dsimp only;omega)
 ·obtain rfl:i=n:=by omega
  rw[List.take_of_length_le (by rw[colT_len];omega)] at hV
  repeat(refine st ?_;intros)
  (refine Dn.post (Hr:=[c,ch]) Tryz.results20 (hR:= ?_);exact⟨q,qc,ch,rfl,rfl,hV⟩)
theorem awake18ct:CtQ Tryz.prog 14 [] [] (.bool true):=by
 have hWk:Ct Tryz.prog 15 [.int .i64 9] [] fun v H'=>
  ∃bw bd ba bs cd ca cs,v=pv bw∧H'=[wrow bw bd ba bs,cd,ca,cs]∧Wc bd ba bs (wk0 10 9000 90) cd ca cs:=work18ct 9 (by omega)
 have hflv:∀f:Fl,flv f= .agg #[.int .i64 (f.first:Int),.int .i64 (f.blocks:Int),.int .i64 (f.width:Int),.int .i64 (f.count:Int)]:=fun _=>rfl
 refine Ct.intro Tryz.func14 rfl Tryz.ntmps14 (nle rfl) fun w0=> ?_;dsimp only[argSlots,Nat.reduceAdd]
 repeat(refine st ?_;intros)
 refine R.call (hct:=hWk) (h:= ?_)
 rintro _ _ ⟨bw,bd,ba,bs,cd,ca,cs,rfl,rfl,hW⟩
 try dsimp only[List.cons_append,List.nil_append]
 repeat(refine st ?_;intros)
 rename_i bl
 have hRV:RV (some ⟨bl,0,none⟩) 2 [⟨5,0,0,0,0⟩,⟨3,0,0,0,0⟩] [(bl,row [.int .i64 5,.int .i64 0,.int .i64 0,.int .i64 0,.int .i64 0,.int .i64 3,.int .i64 0,.int .i64 0,.int .i64 0,.int .i64 0] 38)]:=⟨rfl,.inr ⟨bl,0,_,_,_,rfl,rfl,rfl⟩⟩
 have hn1:nblocks 10 1 2=1:=by decide
 have hok1:∀t∈([⟨5,0,0,0,0⟩,⟨3,0,0,0,0⟩]:List T5),okT 1 t:=by
  intro t ht
  simp only[List.mem_cons,List.not_mem_nil,or_false] at ht
  rcases ht with rfl|rfl
  ·exact okT1 ⟨by decide,by decide⟩
  ·exact okT1 ⟨by decide,by decide⟩
 have hok2:∀t∈([⟨7,0,1,0,0⟩]:List T5),okT 3 t:=by
  intro t ht
  simp only[List.mem_singleton] at ht;subst ht
  exact okT3 ⟨by decide,by decide⟩ in_0 in_1
 have hLy:=Lay_k bw bd ba bs _ cd ca cs hW 1 (by omega) (by omega) _ 2 2 _ _ hRV (by omega) hok1 (by decide) rfl (by decide) (by rw[big0];decide)
 rw[show(wk0 10 9000 90).δ.size=10 from rfl] at hLy
 refine R.call (hct:=hLy) (h:= ?_)
 rintro _ _ ⟨cd1,ca1,cs1,W1,f,rfl,rfl,hW1,hE1,hK1,hg1,hl1,hf1,hc1,hb1,hfo1⟩
 try dsimp only[List.cons_append,List.nil_append]
 have hsz1:W1.δ.size=10:=hE1.size
 have hrm1:W1.α.room=90:=hE1.room
 have hus1:W1.α.used=0:=used_eq hW hW1 hg1
 have hbg1:=hE1.big
 have hac1:=hE1.acts.2
 rw[big0] at hbg1
 rw[show(wk0 10 9000 90).δ.acts=0 from rfl] at hac1
 rw[hflv]
 repeat(refine st ?_;intros)
 rename_i bl2
 have hRV2:RV (some ⟨bl2,0,none⟩) 1 [⟨7,0,1,0,0⟩] [(bl2,row [.int .i64 7,.int .i64 0,.int .i64 1,.int .i64 0,.int .i64 0] 38)]:=⟨rfl,.inr ⟨bl2,0,_,_,_,rfl,rfl,rfl⟩⟩
 have hn2:nblocks 10 3 1=1:=by decide
 have hLy2:=Lay_k bw bd ba bs W1 cd1 ca1 cs1 hW1 3 (by omega) (by omega) _ 1 1 _ _ hRV2 (by omega) hok2 (by omega) (hE1.fault rfl) (by omega) (by rw[hsz1];omega)
 rw[hsz1] at hLy2
 refine R.call (hct:=hLy2) (h:= ?_)
 rintro _ _ ⟨cd2,ca2,cs2,W2,g,rfl,rfl,hW2,hE2,hK2,hg2,hl2,hf2,hc2,hb2,hfo2⟩
 try dsimp only[List.cons_append,List.nil_append]
 obtain⟨h2,hf0⟩:=two_lay (wa:=1) (wb:=3) (na:=2) (nb:=1) hW hW1 hE1 hg1 hl1 hf1 hc1 hb1 hfo1 hW2 hE2 hK2 hg2 hl2 hf2 hc2 hb2 hfo2
 have hT:=Least_two bw bd ba bs 90 (by omega) W2 cd2 ca2 cs2 hW2 f g _ _ h2 (by decide) (by decide)
 rw[hflv,hflv] at hT
 rw[hflv]
 repeat(refine st ?_;intros)
 refine R.call (hct:=hT) (h:= ?_)
 rintro _ _ ⟨x,e,cd3,ca3,cs3,W3,rfl,rfl,hW3,_,_,_,_,_,_,hc⟩
 dsimp only[List.cons_append,List.nil_append]
 have hokq:okQs ([⟨5,0,0,0,0⟩,⟨3,0,0,0,0⟩]:List T5).length [⟨7,0,1,0,0⟩]:=by decide
 rcases hc with⟨rfl,_,_,hxw,hxc,_⟩|⟨_,_,_,⟨_,h6⟩|⟨_,h6⟩⟩
 ·have hxc1:(x.count:Int)=1:=by rw[hxc];decide+kernel
  have hxw1:(x.width:Int)=2:=by rw[hxw];rfl
  rw[hflv,hxc1,hxw1]
  repeat(refine st ?_;intros)
  (refine Dn.post (Hr:=[]) Tryz.results14 (hR:= ?_);exact⟨congrArg Value.bool (dec_true rfl),rfl⟩)
 ·exact absurd hf0 h6
 ·exact absurd hokq h6
end Go.Proofs.YtjoicjgfgkpdjaaGreat
namespace Go.Proofs.YtjoicjgfgkpdjaaGreat
open Go.SL Go.Tup
theorem vpos1 {E sz:Nat} {p:Option Addr} {m cap:Nat} {xs:List Value} {c:Chunk} (h:Vec E sz p m cap xs c) (hm:0<m):∃b rest,p=some ⟨b,0,none⟩∧c=[(b,row (xs++rest) E)]∧cap*sz≤xs.length+rest.length∧m≤cap∧cap≤maxLen:=by
 rcases h.2 with⟨_,e,_⟩|hh
 ·omega
 ·exact hh
theorem t_cut (A B:List T5) (t:T5) (r:List Value) {k:Nat} (hk:A.length=k):((flat (A++t::B)++r).drop (k*5)).take 5=[.int .i64 t.c0,.int .i64 t.c1,.int .i64 t.c2,.int .i64 t.c3,.int .i64 t.c4]:=by
 rw[flat_fm]
 exact fm_cutR (k:=5) tcells_len (l:=A++t::B) (i:=k) (a:=t) (by subst hk;simp) r
theorem t_set (A B:List T5) (t u:T5) (r:List Value) {k:Nat} (hk:A.length=k):setL (flat (A++t::B)++r) (k*5) [.int .i64 u.c0,.int .i64 u.c1,.int .i64 u.c2,.int .i64 u.c3,.int .i64 u.c4]=flat (A++u::B)++r:=by
 rw[flat_fm,flat_fm]
 have h:=fm_set (k:=5) tcells_len (A++t::B) k u r (by subst hk;simp)
 have h2:(A++t::B).set k u=A++u::B:=by subst hk;simp
 rw[h2] at h
 exact h
theorem flat_len5 (a:List T5):(flat a).length=a.length*5:=by rw[flat_fm,fm_len tcells_len]
end Go.Proofs.YtjoicjgfgkpdjaaGreat
namespace Go.Proofs.YtjoicjgfgkpdjaaGreat
open Go.SL Go.Spc Go.Tup Go.Srt
theorem rmin_succ (v:Nat→Int) (a k:Nat) (h:a≤k):rmin v a (k+1-1-a)=min (rmin v a (k-1-a)) (v k):=by
 by_cases hk:k=a
 ·subst hk
  have e1:k+1-1-k=0:=by omega
  have e2:k-1-k=0:=by omega
  rw[e1,e2];simp only[rmin];omega
 ·obtain⟨d,rfl⟩:∃d,k=a+d+1:=⟨k-a-1,by omega⟩
  have e1:a+d+1+1-1-a=d+1:=by omega
  have e2:a+d+1-1-a=d:=by omega
  rw[e1,e2];simp only[rmin]
theorem one_of {cs vs:List Value} {q m:Nat} (h:(cs.drop q).take m=vs) (j:Nat) (v:Value) (hv:vs[j]? =some v):cs[q+j]? =some v:=by
 rw[←h,List.getElem?_take] at hv
 split at hv
 ·rwa[List.getElem?_drop] at hv
 ·cases hv
structure RL18 where
 i:Nat
 p:Option Addr
 cap:Nat
 ch:Chunk
 us:List T5
structure RI18 where
 kz:Int
 A:List T5
 B:List T5
def AnsL (vts qts us:List T5):Prop:=us.Pairwise (fun a c=>a.c0<c.c0)∧∀z,z∈us↔∃q∈qts,z=ansQ vts q
theorem Least18ct (p:Option Addr) (n cap:Nat) (vts:List T5) (c:Chunk) (hv:RV p n vts c) (hn:n≤1000000) (p2:Option Addr) (n2 cap2:Nat) (qts:List T5) (c2:Chunk) (hq:RV p2 n2 qts c2) (hn2:n2≤1000000) (hqi:∀q∈qts,inI64 q.c0∧inI64 q.c1∧inI64 q.c2):
  Ct Tryz.prog 29 [.slice p n cap,.slice p2 n2 cap2] [c,c2] fun v H'=>
   (okQs n qts∧∃q qc ch us,v= .tuple #[.slice q n2 qc,.bool true]∧H'=[c,c2,ch]∧Vec 38 5 q n2 qc (flat us) ch∧AnsL vts qts us)∨(¬okQs n qts∧v= .tuple #[.slice none 0 0,.bool false]∧H'=[c,c2]):=by
 have hvl:=hv.1
 have hql:=hq.1
 refine Ct.intro Tryz.func29 rfl Tryz.ntmps29 (nle rfl) fun w0=> ?_;dsimp only[argSlots,Nat.reduceAdd]
 repeat(first|(refine st ?_;intros)|refine G.draw [] (h:= ?_))
 refine G.loop (X:=RL18) (fun x=>x.i≤n2∧Vec 38 5 x.p x.i x.cap (flat x.us) x.ch∧okQs n (qts.take x.i)∧AnsL vts (qts.take x.i) x.us) (fun x=>[(7,.int .i64 (x.i:Int)),(6,.slice x.p x.i x.cap),(0,.slice p n cap),(1,.slice p2 n2 cap2)]) (fun x=>[x.ch,c,c2]) (fun x=>n2-x.i) ⟨0,none,0,[],[]⟩
  ⟨Nat.zero_le _,Vec.nil _ _,⟨by simp,by simp⟩,by simp,by simp⟩ (by repeat(first|exact trivial|refine⟨rfl,?_⟩)) (by repeat(first|exact Split.nil|(apply Split.cons;·(first|exact Take.nil|(repeat(first|exact Take.here|apply Take.there)))))) ?_
 rintro⟨i,q,qc,ch,us⟩ ⟨hi,hV,hok,hA⟩
 dsimp only at hi hV hok hA⊢
 by_cases hlt:i<n2
 rotate_left
 ·obtain rfl:i=n2:=by omega
  rw[List.take_of_length_le (by omega)] at hok hA
  repeat(first|(refine st ?_;intros)|refine G.draw [] (h:= ?_))
  (refine Dn.post (Hr:=[c,c2,ch]) Tryz.results29 (hR:= ?_);exact .inl ⟨hok,q,qc,ch,us,rfl,rfl,hV,hA⟩)
 obtain⟨b2,off2,cc2,T2,fz2,rfl,rfl,hcut2,hget2⟩:=(RV.rw hq).pos tcells_len (by omega)
 have hqi':qts[i]? =some qts[i]:=List.getElem?_eq_getElem (by omega)
 have hcq:=hcut2 i _ hqi'
 have hmem:qts[i]∈qts:=List.getElem_mem _
 have htk:qts.take (i+1)=qts.take i++[qts[i]]:=by rw[List.take_add_one,hqi'];rfl
 have hii:=hqi _ hmem
 generalize qts[i]=t at*
 unfold tcells at hcq
 have hbad:¬okQ n t→¬okQs n qts:=fun h h2=>h (h2.1 t hmem)
 by_cases ht:okQ n t
 rotate_left
 ·have hb:=hbad ht
  unfold okQ at ht
  by_cases h0:t.c0<0
  ·repeat(first|(refine st ?_;intros)|refine G.draw [] (h:= ?_))
   (refine Dn.post (Hr:=[c,[(b2,rowf cc2 T2 fz2)]]) Tryz.results29 (hR:= ?_);exact .inr ⟨hb,rfl,rfl⟩)
  by_cases h1:t.c1<0
  ·repeat(first|(refine st ?_;intros)|refine G.draw [] (h:= ?_))
   (refine Dn.post (Hr:=[c,[(b2,rowf cc2 T2 fz2)]]) Tryz.results29 (hR:= ?_);exact .inr ⟨hb,rfl,rfl⟩)
  by_cases h2:t.c2<t.c1
  ·repeat(first|(refine st ?_;intros)|refine G.draw [] (h:= ?_))
   (refine Dn.post (Hr:=[c,[(b2,rowf cc2 T2 fz2)]]) Tryz.results29 (hR:= ?_);exact .inr ⟨hb,rfl,rfl⟩)
  have h3:(n:Int)≤t.c2:=by omega
  repeat(first|(refine st ?_;intros)|refine G.draw [] (h:= ?_))
  (refine Dn.post (Hr:=[c,[(b2,rowf cc2 T2 fz2)]]) Tryz.results29 (hR:= ?_);exact .inr ⟨hb,rfl,rfl⟩)
 have htq:=ht
 unfold okQ at ht
 obtain⟨h0,h1,h2,h3⟩:=ht
 obtain⟨b1,off1,cc1,T1,fz1,rfl,rfl,hcut1,hget1⟩:=(RV.rw hv).pos tcells_len (by omega)
 obtain⟨z,t1,t2,t3,t4⟩:=t
 dsimp only at h0 h1 h2 h3 hii hcq htq
 obtain⟨a,rfl⟩:∃a:Nat,t1=(a:Int):=⟨t1.toNat,by omega⟩
 obtain⟨d,rfl⟩:∃d:Nat,t2=(d:Int):=⟨t2.toNat,by omega⟩
 have hv0:∀k,k<n→cc1[off1+k*5]? =some (.int .i64 (at0 vts k)):=fun k hk=>by
  have h5:vts[k]? =some vts[k]:=List.getElem?_eq_getElem (by omega)
  have:=hget1 k 0 _ (.int .i64 (vts[k]).c0) h5 rfl
  rw[Nat.add_zero] at this
  rw[this,at0get h5]
 have hva:=hv0 a (by omega)
 repeat(first|(refine st ?_;intros)|refine G.draw [] (h:= ?_))
 rename_i b8
 refine G.loop (X:=Nat×Int) (fun x=>a≤x.1∧x.1≤d+1∧x.2=rmin (at0 vts) a (x.1-1-a)) (fun x=>[(10,.int .i64 (x.1:Int)),(9,.int .i64 x.2),(8,pv b8),(7,.int .i64 (i:Int)),(6,.slice q i qc),(0,.slice (some ⟨b1,off1,none⟩) n cap),(1,.slice (some ⟨b2,off2,none⟩) n2 cap2)])
  (fun _=>[[(b8,row [.int .i64 z,.int .i64 (a:Int),.int .i64 (d:Int),.int .i64 t3,.int .i64 t4] 38)],ch,[(b1,rowf cc1 T1 fz1)],[(b2,rowf cc2 T2 fz2)]]) (fun x=>d+1-x.1) (a,at0 vts a) ⟨Nat.le_refl _,by dsimp only;omega,by
   dsimp only
   have:a-1-a=0:=by omega
   rw[this];rfl⟩ (body:= ?_)
 rintro⟨k,lm⟩ ⟨hk1,hk2,hlm⟩
 dsimp only at hk1 hk2 hlm⊢
 by_cases hkd:k≤d
 ·have hvk:=hv0 k (by omega)
  have hs:=rmin_succ (at0 vts) a k hk1
  rw[←hlm] at hs
  have e1:IntKind.wrap .i64 ((k:Int)+1)=((k+1:Nat):Int):=by rw[wrap_i64 (by omega)];omega
  generalize at0 vts k=vk at*
  by_cases hlt2:vk<lm
  ·repeat(first|(refine st ?_;intros)|refine G.draw [] (h:= ?_))
   refine Dn.round (k+1,vk) ⟨by dsimp only;omega,by dsimp only;omega,by dsimp only;rw[hs];omega⟩ (by dsimp only;omega)
  ·repeat(first|(refine st ?_;intros)|refine G.draw [] (h:= ?_))
   refine Dn.round (k+1,lm) ⟨by dsimp only;omega,by dsimp only;omega,by dsimp only;rw[hs];omega⟩ (by dsimp only;omega)
 obtain rfl:k=d+1:=by omega
 have hlm2:lm=rmin (at0 vts) a (d-a):=by rw[hlm];congr 1
 have hans:ansQ vts ⟨z,(a:Int),(d:Int),t3,t4⟩=⟨z,lm,0,0,0⟩:=by
  unfold ansQ
  dsimp only
  rw[hlm2]
  congr 1
  rw[Int.toNat_natCast]
  congr 1
  omega
 have hlen:us.length=i:=by have:=hV.1;rw[flat_len5] at this;omega
 have hmx:i+1≤maxLen:=by simp only[maxLen];omega
 repeat(first|(refine st ?_;intros)|refine G.draw [] (h:= ?_))
 rename_i p' cap' c' hV'
 have hV2:Vec 38 5 p' (i+1) cap' (flat (us++[⟨z,lm,0,0,0⟩])) c':=by rw[flat_append];exact hV'
 obtain⟨rb,re,rfl,rfl,hre,hce,hcm⟩:=vpos1 hV2 (Nat.succ_pos _)
 clear hV'
 rw[flat_len5,List.length_append,List.length_singleton,hlen] at hre
 refine G.loop (X:=RI18) (fun x=>x.A++x.B=us∧x.kz=(x.A.length:Int)∧∀u∈x.B,z<u.c0)
  (fun x=>[(11,.int .i64 x.kz),(6,.slice (some ⟨rb,0,none⟩) (i+1) cap'),(7,.int .i64 (i:Int)),(0,.slice (some ⟨b1,off1,none⟩) n cap),(1,.slice (some ⟨b2,off2,none⟩) n2 cap2)])
  (fun x=>[[(rb,row (flat (x.A++⟨z,lm,0,0,0⟩::x.B)++re) 38)],[(b1,rowf cc1 T1 fz1)],[(b2,rowf cc2 T2 fz2)]]) (fun x=>x.A.length) ⟨((i+1:Nat):Int)-1,us,[]⟩ ⟨List.append_nil _,by dsimp only;omega,fun u hu=>by cases hu⟩ (body:= ?_)
 rintro⟨kz,A,B⟩ ⟨hAB,hkz,hB⟩
 dsimp only at hAB hkz hB⊢
 have hABl:A.length+B.length=i:=by rw[←hlen,←hAB,List.length_append]
 have hend:Vec 38 5 (some ⟨rb,0,none⟩) (i+1) cap' (flat (A++⟨z,lm,0,0,0⟩::B)) [(rb,row (flat (A++⟨z,lm,0,0,0⟩::B)++re) 38)]:=
  Vec.mk' rfl (by rw[flat_len5];simp;omega) (by rw[List.length_append,flat_len5];simp;omega) hce hcm
 have hfin:(∀x,A.getLast? =some x→x.c0<z)→okQs n (qts.take (i+1))∧AnsL vts (qts.take (i+1)) (A++⟨z,lm,0,0,0⟩::B):=by
  intro hx
  have hpw:=hA.1
  rw[←hAB] at hpw
  obtain⟨hpA,hpB,hpAB⟩:=List.pairwise_append.1 hpw
  have hAt:∀u∈A,u.c0<z:=by
   intro u hu
   rcases List.eq_nil_or_concat A with rfl|⟨A',x,rfl⟩
   ·cases hu
   ·rw[List.concat_eq_append] at*
    have h1:=hx x (by simp)
    rcases List.mem_append.1 hu with h|h
    ·have:=(List.pairwise_append.1 hpA).2.2 u h x (by simp)
     omega
    ·simp only[List.mem_singleton] at h;subst h;exact h1
  have hne:∀r∈qts.take i,r.c0≠z:=by
   intro r hr hz
   have h1:ansQ vts r∈us:=(hA.2 _).2 ⟨r,hr,rfl⟩
   rw[←hAB,List.mem_append] at h1
   rcases h1 with h|h
   ·have:=hAt _ h;unfold ansQ at this;dsimp only at this;omega
   ·have:=hB _ h;unfold ansQ at this;dsimp only at this;omega
  rw[htk]
  refine⟨⟨?_,?_⟩,?_,?_⟩
  ·intro r hr
   rcases List.mem_append.1 hr with h|h
   ·exact hok.1 r h
   ·simp only[List.mem_singleton] at h;subst h;exact htq
  ·rw[List.pairwise_append]
   exact⟨hok.2,by simp,fun r hr r2 hr2=>by
    simp only[List.mem_singleton] at hr2;subst hr2;exact hne r hr⟩
  ·rw[List.pairwise_append,List.pairwise_cons]
   exact⟨hpA,⟨fun u hu=>hB u hu,hpB⟩,fun u hu w hw=>by
    rcases List.mem_cons.1 hw with rfl|hw
    ·exact hAt u hu
    ·exact hpAB u hu w hw⟩
  ·intro w
   have h1:=hA.2 w
   rw[←hAB,List.mem_append] at h1
   rw[List.mem_append,List.mem_cons]
   constructor
   ·rintro(h|rfl|h)
    ·obtain⟨r,hr,h2⟩:=h1.1 (.inl h)
     exact⟨r,List.mem_append_left _ hr,h2⟩
    ·exact⟨_,List.mem_append_right _ (List.mem_singleton.2 rfl),hans.symm⟩
    ·obtain⟨r,hr,h2⟩:=h1.1 (.inr h)
     exact⟨r,List.mem_append_left _ hr,h2⟩
   ·rintro⟨r,hr,rfl⟩
    rcases List.mem_append.1 hr with h|h
    ·rcases h1.2 ⟨r,h,rfl⟩ with h2|h2
     ·exact .inl h2
     ·exact .inr (.inr h2)
    ·simp only[List.mem_singleton] at h;subst h
     exact .inr (.inl hans)
 rcases List.eq_nil_or_concat A with rfl|⟨A',x,rfl⟩
 ·have hk0:kz=0:=by simpa using hkz
  obtain⟨hf1,hf2⟩:=hfin (by simp)
  repeat(first|(refine st ?_;intros)|refine G.draw [] (h:= ?_))
  refine Dn.round ⟨i+1,some ⟨rb,0,none⟩,cap',[(rb,row (flat ([]++⟨z,lm,0,0,0⟩::B)++re) 38)],[]++⟨z,lm,0,0,0⟩::B⟩ ⟨hlt,hend,hf1,hf2⟩ (by dsimp only;omega)
 ·have hkA:kz=((A'.length+1:Nat):Int):=by simpa using hkz
  have ek:kz.toNat=A'.length+1:=by omega
  have ek1:(kz-1).toNat=A'.length:=by omega
  have hA1:A'.length+1+B.length=i:=by simpa using hABl
  have hform:∀u v:T5,(A'++[u])++v::B=A'++u::v::B:=fun u v=>by simp
  rw[List.concat_eq_append] at*
  rw[hform] at hend hfin⊢
  have hfin2:x.c0<z→_:=fun h=>hfin (fun y hy=>by simp at hy;subst hy;exact h)
  have hxe:x.c0=z→¬okQs n qts:=by
   intro hz hq2
   have h1:x∈us:=by rw[←hAB];simp
   obtain⟨r,hr,h2⟩:=(hA.2 x).1 h1
   have h3:r.c0=z:=by rw[h2] at hz;exact hz
   have h4:=hq2.2
   have h5:(qts.take (i+1)).Pairwise (fun a c=>a.c0≠c.c0):=h4.sublist (List.take_sublist _ _)
   rw[htk,List.pairwise_append] at h5
   exact h5.2.2 r hr _ (List.mem_singleton.2 rfl) h3
  have c1:=t_cut (A'++[x]) B ⟨z,lm,0,0,0⟩ re (k:=A'.length+1) (by simp)
  have c2:=t_cut A' (⟨z,lm,0,0,0⟩::B) x re rfl
  have s1:=t_set (A'++[x]) B ⟨z,lm,0,0,0⟩ x re (k:=A'.length+1) (by simp)
  have s2:=t_set A' (x::B) x ⟨z,lm,0,0,0⟩ re rfl
  simp only[hform] at c1 s1
  have l1:(A'.length+1)*5+5≤(flat (A'++x::⟨z,lm,0,0,0⟩::B)++re).length:=by rw[List.length_append,flat_len5];simp;omega
  have l2:(A'.length+1)*5+5≤(flat (A'++x::x::B)++re).length:=by rw[List.length_append,flat_len5];simp;omega
  have g1:=one_of c1 0 _ rfl
  have g2:=one_of c2 0 _ rfl
  rw[Nat.add_zero] at g1 g2
  have ez:(kz-1).toNat=A'.length:=ek1
  rcases Int.lt_trichotomy x.c0 z with hxz|hxz|hxz
  ·obtain⟨hf1,hf2⟩:=hfin2 hxz
   generalize hr0:flat (A'++x::⟨z,lm,0,0,0⟩::B)++re=r0 at*
   repeat(first|(refine st ?_;intros)|refine G.draw [] (h:= ?_))
   refine Dn.round ⟨i+1,some ⟨rb,0,none⟩,cap',[(rb,row r0 38)],A'++x::⟨z,lm,0,0,0⟩::B⟩ ⟨hlt,hend,hf1,hf2⟩ (by dsimp only;omega)
  ·have hb:=hxe hxz
   generalize hr0:flat (A'++x::⟨z,lm,0,0,0⟩::B)++re=r0 at*
   repeat(first|(refine st ?_;intros)|refine G.draw [] (h:= ?_))
   (refine Dn.post (Hr:=[[(b1,rowf cc1 T1 fz1)],[(b2,rowf cc2 T2 fz2)]]) Tryz.results29 (hR:= ?_);exact .inr ⟨hb,rfl,rfl⟩)
  ·generalize hr0:flat (A'++x::⟨z,lm,0,0,0⟩::B)++re=r0 at*
   generalize hr1:flat (A'++x::x::B)++re=r1 at*
   repeat(first|(refine st ?_;intros)|refine G.draw [] (h:= ?_))
   refine Dn.round ⟨kz-1,A',x::B⟩ ⟨by rw[←hAB];simp,by dsimp only;omega,fun u hu=> ?_⟩ (by simp)
   rcases List.mem_cons.1 hu with rfl|hu
   ·exact hxz
   ·exact hB u hu
end Go.Proofs.YtjoicjgfgkpdjaaGreat
namespace Go.Proofs.YtjoicjgfgkpdjaaGreat
open Go.ChangeShapes Go.WideShapes Go.ChangeAt Go.RowKit Go.SL Go.Tup Go.Spc
theorem rows_of {α:Type} {f:α→List Value} {k:Nat} (hk:∀a,(f a).length=k) {Pr:α→Prop} (cs:List Value):∀(len off:Nat),(∀i,i<len→∃a:α,Pr a∧∀j,j<k→cs[off+i*k+j]? =(f a)[j]?)→∃xs:List α,xs.length=len∧(∀x∈xs,Pr x)∧(cs.drop off).take (len*k)=xs.flatMap f
 |0,off,_=>⟨[],rfl,fun x hx=>(by cases hx),by simp⟩
 |len+1,off,h=>by
  obtain⟨t,hp,ht⟩:=h 0 (by omega)
  obtain⟨ts,hl,hin,he⟩:=rows_of hk cs len (off+k) (fun i hi=>by
   obtain⟨t,hp,ht⟩:=h (i+1) (by omega)
   exact⟨t,hp,fun j hj=>by
    rw[←ht j hj];congr 1
    rw[Nat.succ_mul];omega⟩)
  refine⟨t::ts,by simp[hl],fun x hx=>by
   rcases List.mem_cons.1 hx with rfl|hx
   ·exact hp
   ·exact hin x hx,?_⟩
  have hkt:=hk t
  have hd:cs.drop off=f t++cs.drop (off+k):=by
   apply List.ext_getElem?
   intro j
   rw[List.getElem?_drop]
   by_cases hj:j<k
   ·rw[List.getElem?_append_left (by omega),←ht j hj];simp
   ·rw[List.getElem?_append_right (by omega),List.getElem?_drop]
    congr 1
    omega
  rw[hd,List.flatMap_cons,←he,List.take_append,hkt,Nat.succ_mul]
  rw[List.take_of_length_le (by omega)]
  congr 2
  omega
def ChIn (w:World) (c:Chunk):Prop:=∀q∈c,w.heap[q.1]? =some q.2
def Ch1 (c:Chunk):Prop:=c=[]∨∃q,c=[q]
theorem Ch1.nodup {c:Chunk} (h:Ch1 c):(c.map (·.1)).Nodup:=by
 rcases h with rfl|⟨q,rfl⟩<;>simp
theorem Ch1.rw {α:Type} {f:α→List Value} {k:Nat} {p:Option Addr} {m:Nat} {xs:List α} {c:Chunk} (h:Rw f k p m xs c):Ch1 c:=by
 rcases h.2 with⟨_,h⟩|⟨b,off,cs,T,fz,_,h,_⟩
 ·exact .inl h
 ·exact .inr ⟨_,h⟩
theorem Ch1.rv {p:Option Addr} {n:Nat} {ts:List T5} {c:Chunk} (h:RV p n ts c):Ch1 c:=Ch1.rw (RV.rw h)
theorem open_rowsR {α:Type} {f:α→List Value} {k:Nat} (hk:∀a,(f a).length=k) (hk0:0<k) {Pr:α→Prop} {w:World} {ad:Addr} {len:Nat} (hlen:0<len) (each:∀i,i<len→∃a:α,Pr a∧∀j,j<k→w.cell? (ad.add (i*k+j))=(f a)[j]?):
  ∃xs c,Rw f k (some ad) len xs c∧(∀x∈xs,Pr x)∧ChIn w c∧Ch1 c:=by
 obtain⟨bk,off,spot⟩:=ad
 obtain⟨t0,_,ht0⟩:=each 0 (by omega)
 have hq0:=ht0 0 (by omega)
 have hsm:∃v,(f t0)[0]? =some v:=⟨_,List.getElem?_eq_getElem (by rw[hk];omega)⟩
 obtain⟨v0,hv0⟩:=hsm
 rw[hv0] at hq0
 have hs:spot=none:=by
  cases spot with
  |none=>rfl
  |some s=>
   exfalso
   simp only[Addr.add,World.cell?] at hq0
   revert hq0
   split<;>simp
 subst hs
 have hadd:∀i,((⟨bk,off,none⟩:Addr).add i)=⟨bk,off+i,none⟩:=fun i=>Addr.add_mk ..
 cases hbk:w.heap[bk]? with
 |none=>rw[hadd] at hq0;simp[World.cell?,hbk] at hq0
 |some ob=>
  cases ob with
  |cells arr T fz=>
   obtain⟨es,hes,hin,hflat⟩:=rows_of hk (Pr:=Pr) arr.toList len off (fun i hi=>by
    obtain⟨t,hp,ht⟩:=each i hi
    refine⟨t,hp,fun j hj=> ?_⟩
    rw[←ht j hj,hadd,cell_of_row w bk _ arr T fz hbk]
    simp[Nat.add_assoc])
   refine⟨es,[(bk,rowf arr.toList T fz)],⟨hes,.inr ⟨bk,off,arr.toList,T,fz,rfl,rfl,hflat⟩⟩,hin,?_,.inr ⟨_,rfl⟩⟩
   intro q hq
   simp only[List.mem_singleton] at hq
   subst hq
   simpa[rowf] using hbk
  |_=>rw[hadd] at hq0;simp[World.cell?,hbk] at hq0
theorem open_intsR {H:Type} {enc:TypeId×Value→H} {P:Program} {w:World} {base:Nat} {t E:TypeId} {v:Value} {d:DataW H} {ps:List MemPlace} (ht:P.underlying t=some (.slice E)) (he:P.underlying E=some (.int .i64)) (hcE:P.cellsOf E=1)
  (h:DataW.Trod enc P w 0 (fun _=>true) true t v d ps) (hok:Value.okWide P w .any base t v):
  ∃p n cap xs c,v= .slice p n cap∧Rw icl 1 p n xs c∧(∀x∈xs,inI64 x)∧n≤maxLen∧ChIn w c∧Ch1 c:=by
 obtain⟨a,len,cap,rfl⟩:=okWide_slice ht hok
 obtain⟨fuel,h⟩:=h
 rcases Deep.open_slice ht h with⟨h0,_⟩|⟨a',len',cap',m,n,D,Pl,h0,hb,hl,hm,hmm,_,hx⟩
 ·simp[Value.cells] at h0
  obtain⟨rfl,rfl,rfl⟩:=h0
  exact⟨none,0,0,[],[],rfl,⟨rfl,.inl ⟨rfl,rfl⟩⟩,by simp,by decide,by simp[ChIn],.inl rfl⟩
 ·simp[Value.cells] at h0
  obtain⟨rfl,rfl,rfl⟩:=h0
  by_cases hz:len=0
  ·subst hz
   exact⟨some a',0,cap,[],[],rfl,⟨rfl,.inl ⟨rfl,rfl⟩⟩,by simp,by decide,by simp[ChIn],.inl rfl⟩
  ·simp only[if_true] at hmm
   subst hmm
   obtain⟨xs,c,h1,h2,h3,h4⟩:=open_rowsR (f:=icl) (k:=1) icl_len (by omega) (Pr:=inI64) (w:=w) (ad:=a') (len:=len) (by omega) (fun i hi=>by
    obtain⟨cs',h1,h2⟩:=hx i (by omega)
    rw[hcE] at h1
    obtain⟨x,hx1,_,hx3⟩:=DataW.trod_int he h2
    refine⟨x,lit_i64 hx3,fun j hj=> ?_⟩
    obtain rfl:j=0:=by omega
    simp only[World.cells?,Nat.zero_le,if_true] at h1
    have h5:=mapM_some_get h1 0 0 (by simp)
    have h6:(a'.add (i*1)).add 0=a'.add (i*1+0):=by
     obtain⟨b,o,s⟩:=a'
     simp[Addr.add]
    rw[←h6,h5,hx1]
    rfl)
   exact⟨_,len,_,xs,c,rfl,h1,h2,by omega,h3,h4⟩
theorem two_ch {w:World} {c0 c1:Chunk} (h0:ChIn w c0) (h1:ChIn w c1) (s0:Ch1 c0) (s1:Ch1 c1):∃A,ChIn w A∧(A.map (·.1)).Nodup∧(∃r,A.Perm (c0++r))∧∃r,A.Perm (c1++r):=by
 rcases s0 with rfl|⟨q0,rfl⟩
 ·refine⟨c1,h1,?_,⟨c1,.refl _⟩,⟨[],by simp⟩⟩
  rcases s1 with rfl|⟨q1,rfl⟩<;>simp
 ·rcases s1 with rfl|⟨q1,rfl⟩
  ·exact⟨[q0],h0,by simp,⟨[],by simp⟩,⟨[q0],by simp⟩⟩
  ·by_cases hq:q0.1=q1.1
   ·have e0:=h0 q0 (by simp)
    have e1:=h1 q1 (by simp)
    rw[hq,e1,Option.some.injEq] at e0
    have:q0=q1:=by obtain⟨a,b⟩:=q0;obtain⟨a',b'⟩:=q1;simp only at hq e0;rw[hq,e0]
    subst this
    exact⟨[q0],h0,by simp,⟨[],by simp⟩,⟨[],by simp⟩⟩
   ·refine⟨[q0,q1],?_,by simp[hq],⟨[q1],.refl _⟩,⟨[q0],.swap _ _ _⟩⟩
    intro q hm
    simp only[List.mem_cons,List.not_mem_nil,or_false] at hm
    rcases hm with rfl|rfl
    ·exact h0 _ (by simp)
    ·exact h1 _ (by simp)
theorem Ct.inA {P:Program} {f:FuncId} {args:List Value} {c A r:Chunk} {H:Hp} {R:Value→Hp→Prop} (h:Ct P f args (c::H) fun v H'=>∃H1,H'=c::H1∧R v H1) (hA:A.Perm (c++r)):Ct P f args (A::H) fun v H'=>∃H1,H'=A::H1∧R v H1:=by
 have h2:= @Ct.frame P f args (c::H) [r] _ h
 have h3:Ct P f args (c::H++[r]) fun v H'=>∃H1,H'=c::H1++[r]∧R v H1:=by
  unfold Ct
  intro w hw
  refine(h2 hw).mono ?_
  rintro e w' ⟨v,H',h4,⟨H1,rfl,h5⟩,h6⟩
  exact⟨v,c::H1++[r],h4,⟨H1,rfl,h5⟩,h6⟩
 have hp:∀H1:Hp,(A::H1).flatten.Perm (c::H1++[r]).flatten:=fun H1=>by
  simp only[List.flatten_cons,List.flatten_append,List.flatten_nil,List.append_nil,List.cons_append]
  refine(hA.append_right _).trans ?_
  rw[List.append_assoc]
  exact List.Perm.append_left _ List.perm_append_comm
 refine Ct.convP h3 (hp H) ?_
 rintro v H' ⟨H1,rfl,h5⟩
 exact⟨A::H1,⟨H1,rfl,h5⟩,(hp H1).symm⟩
theorem CtQ.inA {P:Program} {f:FuncId} {args:List Value} {c A r:Chunk} {H:Hp} {v:Value} (h:CtQ P f args (c::H) v) (hA:A.Perm (c++r)):CtQ P f args (A::H) v:=by
 have h1:Ct P f args (c::H) fun v' H'=>∃H1,H'=c::H1∧(v'=v∧H1=H):=h.mono fun v' H' ⟨a,b⟩=>⟨H,b,a,rfl⟩
 exact(Ct.inA h1 hA).mono fun v' H' ⟨H1,a,b,c⟩=>⟨b,by rw[a,c]⟩
end Go.Proofs.YtjoicjgfgkpdjaaGreat
namespace Go.Proofs.YtjoicjgfgkpdjaaGreat
open Go.SL Go.Spc Go.Tup
theorem Read_neg (bw bd ba bs:Nat) (W:Wk) (cd ca cs:Chunk) (h:Wc bd ba bs W cd ca cs) (f b k:Nat) (h1:1≤k) (h2:k≤5):
  CtQ Tryz.prog 49 [pv bw,.agg #[.int .i64 (f:Int),.int .i64 (b:Int),.int .i64 (k:Int),.int .i64 (-1)]] [wrow bw bd ba bs,cd,ca,cs] (.tuple #[.pointer none,.int .i64 1]):=by
 have hH:=Holds_ct bw bd ba bs W.δ cd h.dev k h1 h2
 obtain⟨hs,_⟩:=h.dev.num
 have hp:=holds_pos hs.1 h1 h2
 generalize holds W.δ.size k=hk at*
 unfold wrow at hH⊢
 refine Ct.intro Tryz.func49 rfl Tryz.ntmps49 (nle rfl) fun w0=> ?_;dsimp only[argSlots,Nat.reduceAdd]
 repeat(first|(refine st ?_;intros)|refine G.draw (id:=1) [(3,.quiet),(23,.eff [17])] (h:= ?_)|refine G.draw (id:=3) [(8,.eff [3])] (h:= ?_)|(refine cq hH ?_))
 (refine Dn.post (Hr:=[[(bw,row [pv bd,pv ba,pv bs] 87)],cd,ca,cs]) Tryz.results49 (hR:= ?_);exact⟨rfl,rfl⟩)
end Go.Proofs.YtjoicjgfgkpdjaaGreat
