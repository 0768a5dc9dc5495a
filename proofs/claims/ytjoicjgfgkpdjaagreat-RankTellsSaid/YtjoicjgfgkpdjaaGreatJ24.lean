/-
  Parts of the proof, put together: Rank4, Rank5, RankL, It, RankP, RankP2, RankP3, RwT. No condition.
-/
import Derived.Test.YtjoicjgfgkpdjaaGreatJ23
set_option linter.unusedVariables false
set_option linter.unusedSimpArgs false
set_option linter.unnecessarySimpa false
set_option maxHeartbeats 4000000
namespace Go.Proofs.YtjoicjgfgkpdjaaGreat
open Go.SL Go.Spc Go.Tup Go.Srt
def bits (n:Nat):Nat:=if n=0 then 0 else Nat.log2 n+1
theorem bits_gt (n:Nat):n<2^bits n:=by
 unfold bits
 split
 ·omega
 ·exact Nat.lt_log2_self
theorem bits_le {n r:Nat} (h:r<bits n):2^r≤n:=by
 unfold bits at h
 split at h
 ·omega
 ·rename_i h0
  exact Nat.le_trans (Nat.pow_le_pow_right (by omega) (by omega)) (Nat.log2_self_le h0)
theorem bits_up {n r:Nat} (h:r≤bits n) (h2:n<2^r):r=bits n:=by
 by_cases hlt:r<bits n
 ·have:=bits_le hlt;omega
 ·omega
theorem bits_10 {n:Nat} (h:n≤1000):bits n≤10:=by
 by_cases hlt:10<bits n
 ·have:=bits_le hlt
  have e:2^10=1024:=rfl
  omega
 ·omega
def sJ (l:List T5):Nat→List T5
 |0=>begF l
 |j+1=>jumpF (sJ l j)
def errR (l:List T5):Option Nat:=(errB l).or (if openT (sJ l (bits l.length)) then some 3 else none)
def ranksF (l:List T5):List T5:=(sJ l (bits l.length)).map fun t=>⟨t.c0,t.c2,0,0,0⟩
theorem sJ_ok {l:List T5} (h:∀t∈l,okT 3 t):∀j,∀z∈sJ l j,okT 3 z
 |0=>begF_ok h
 |j+1=>jumpF_ok (sJ_ok h j)
theorem sJ_len (l:List T5):∀j,(sJ l j).length=l.length
 |0=>begF_len l
 |j+1=>(jumpF_len _).trans (sJ_len l j)
theorem fndO_c0 (t:T5):(fndO t).c0=t.c0:=by unfold fndO;split<;>rfl
theorem jmpF_c0 (t:T5):(jmpF t).c0=t.c0:=by unfold jmpF;split<;>rfl
theorem lookF_c0 (bs:List T5) (key value to:Nat) (hto:to≠0) (t:T5):(lookF bs key value to t).c0=t.c0:=by
 unfold lookF setc
 match to,hto with
 |1,_=>rfl
 |2,_=>rfl
 |3,_=>rfl
 |4,_=>rfl
 |n+5,_=>rfl
theorem begF_c0 (l:List T5):(begF l).map (·.c0)=(allF l).map (·.c0):=by
 unfold begF bothF aheadF
 rw[List.map_map,List.map_map,List.map_map]
 exact List.map_congr_left fun t _=>by
  simp only[Function.comp_apply,fndO_c0,lookF_c0 _ _ _ _ (by omega:(2:Nat)≠0),lookF_c0 _ _ _ _ (by omega:(1:Nat)≠0)]
theorem strict_map {a b:List T5} (h:a.map (·.c0)=b.map (·.c0)) (hb:b.Pairwise fun x y=>x.c0<y.c0):a.Pairwise fun x y=>x.c0<y.c0:=by
 have h1:(b.map (·.c0)).Pairwise (·<·):=List.pairwise_map.2 hb
 rw[←h] at h1
 exact List.pairwise_map.1 h1
theorem jumpF_c0 (s:List T5):((jumpF s).map (·.c0)).Perm (s.map (·.c0)):=by
 unfold jumpF sumsF farF
 refine((perm_srt _).map _).trans ?_
 rw[List.map_map,List.map_map,List.map_map]
 have e:((((fun x:T5=>x.c0)∘jmpF)∘lookF s 1 2 4)∘lookF s 1 1 3)=fun x=>x.c0:=by
  funext t
  simp only[Function.comp_apply,jmpF_c0,lookF_c0 _ _ _ _ (by omega:(4:Nat)≠0),lookF_c0 _ _ _ _ (by omega:(3:Nat)≠0)]
 rw[e]
 exact(perm_srt _).map _
theorem strict_of {a:List T5} (h:a.Pairwise fun x y=>x.c0≤y.c0) (hn:(a.map (·.c0)).Nodup):a.Pairwise fun x y=>x.c0<y.c0:=by
 have h1:a.Pairwise fun x y=>x.c0≠y.c0:=List.pairwise_map.1 hn
 exact(h.and h1).imp fun {x y} ⟨h2,h3⟩=>by omega
theorem jumpF_sr {s:List T5} (h:s.Pairwise fun x y=>x.c0<y.c0):(jumpF s).Pairwise fun x y=>x.c0<y.c0:=by
 refine strict_of (srt_o1 _) ?_
 refine(jumpF_c0 s).nodup_iff.2 ?_
 exact List.pairwise_map.2 (h.imp fun {x y} hh=>by omega)
theorem sJ_sr {l:List T5} (h:(allF l).Pairwise fun x y=>x.c0<y.c0):∀j,(sJ l j).Pairwise fun x y=>x.c0<y.c0
 |0=>strict_map (begF_c0 l) h
 |j+1=>jumpF_sr (sJ_sr h j)
theorem jumpF_shut {s:List T5} (hok:∀t∈s,okT 3 t) (hs:s.Pairwise fun x y=>x.c0<y.c0) (ho:openT s=false):jumpF s=s:=by
 have hno:∀t∈s,t.c1= -1:=fun t ht=>by
  by_cases h:t.c1= -1
  ·exact h
  ·have:openT s=true:=List.any_eq_true.2 ⟨t,ht,decide_eq_true h⟩
   rw[ho] at this;cases this
 have hperm:(jumpF s).Perm s:=by
  unfold jumpF sumsF farF
  refine(perm_srt _).trans ?_
  rw[List.map_map,List.map_map]
  have e:(srt (ltO o2) false s).map ((jmpF∘lookF s 1 2 4)∘lookF s 1 1 3)=srt (ltO o2) false s:=by
   refine(List.map_congr_left (g:=id) fun t ht=> ?_).trans (List.map_id _)
   have ht:=srt_sub ht
   have h1:=hno t ht
   have h2:=hok t ht
   have h3:=h2.2 3 (by omega)
   have h4:=h2.2 4 (by omega)
   obtain⟨a,b,c,d,f⟩:=t
   simp only[T5.col] at h1 h3 h4
   subst h1
   have e3:d=0:=h3
   have e4:f=0:=h4
   subst e3 e4
   rfl
  rw[e]
  exact perm_srt _
 refine hperm.eq_of_pairwise (le:=fun x y=>x.c0<y.c0) (fun x y _ _ h1 h2=>absurd h1 (by omega)) (jumpF_sr hs) hs
theorem sJ_shut {l:List T5} (hok:∀t∈l,okT 3 t) (h:(allF l).Pairwise fun x y=>x.c0<y.c0) {j:Nat} (ho:openT (sJ l j)=false):∀d,sJ l (j+d)=sJ l j
 |0=>rfl
 |d+1=>by
  show jumpF (sJ l (j+d))=_
  rw[sJ_shut hok h ho d]
  exact jumpF_shut (sJ_ok hok j) (sJ_sr h j) ho
theorem errB_none {l:List T5} (h:errB l=none):linkM.bad () l=none∧riseE (linksF l)=none∧riseE (allF l)=none∧cntB l=((linksF l).length:Int):=by
 unfold errB at h
 obtain⟨h1,h2⟩:=or_nil h
 obtain⟨h1,h3⟩:=or_nil h1
 obtain⟨h1,h4⟩:=or_nil h1
 refine⟨h1,h4,h3,?_⟩
 split at h2
 ·assumption
 ·cases h2
abbrev rankA:Nat:=3600000
theorem Stepped.other {p:Jp} {W W':Wk} {A T:Nat} {er:Option Nat} {ts ts':List T5} {f:Fl} {e:Int} (h:Stepped p W W' A T er ts f e) (he:e≠0):Stepped p W W' A T er ts' f e:=
 ⟨h.gs,h.room,h.size,h.n,h.acts,h.big,h.fault,h.keep,h.res.elim (fun h1=>absurd h1.1 he) .inr⟩
structure RkX where
 e:Int
 C:Chunk
 f:Fl
 j:Nat
structure RkY where
 e:Int
 C:Chunk
 f:Fl
 j:Nat
 o:Bool
 z:Int
 q:Nat
theorem Ranks_ct (bw bd ba bs:Nat) (W:Wk) (cd ca cs:Chunk) (h:Wc bd ba bs W cd ca cs) (lf:Fl) (l:List T5) (hl:FileIn W (lf,l)) (hw:lf.width=3)
  (n c m:Nat) (hcn:lf.count≤n) (hnc:n≤2*c) (hn:n≤1000) (hnm:n≤m) (hcn2:c≤n) (hT:sortT c≤m) (hroom:m*(W.live.length+6)+(5*n+total W.live)≤W.σ.n) (hac:W.δ.acts≤400000000):
  Ct Tryz.prog 24 [pv bw,flv lf] [wrow bw bd ba bs,cd,ca,cs] (LayerQ bw bd ba bs W cd cs rankA rankA (errR l) (ranksF l) 2):=by
 have hflv:∀f:Fl,flv f= .agg #[.int .i64 (f.first:Int),.int .i64 (f.blocks:Int),.int .i64 (f.width:Int),.int .i64 (f.count:Int)]:=fun _=>rfl
 have hfl4:∀f:Fl,fl4 f=[.int .i64 (f.first:Int),.int .i64 (f.blocks:Int),.int .i64 (f.width:Int),.int .i64 (f.count:Int)]:=fun _=>rfl
 have hz:flv ⟨0,0,0,0⟩= .agg #[.int .i64 0,.int .i64 0,.int .i64 0,.int .i64 0]:=rfl
 have hB:=fun b=>Begin_ct bw bd ba bs W cd ca cs h [(lf,l)] (by simp only[List.mem_cons,List.not_mem_nil,or_false];rintro x rfl;exact hl) (by simp) (some ⟨b,0,none⟩) 1 _ (vec1 b lf)
 simp only[hfl4,List.cons_append,List.nil_append] at hB
 rw[hflv]
 refine Ct.intro Tryz.func24 rfl Tryz.ntmps24 (nle rfl) fun w0=> ?_;dsimp only[argSlots,Nat.reduceAdd]
 repeat(refine st ?_;intros)
 rename_i b3 b4 bs0
 refine R.call (hct:=hB _) (h:= ?_)
 rintro _ _ ⟨ca1,α1,hW1,hg1,hr1,⟨hroom8,bj,rfl,rfl⟩|⟨hsmall,rfl,rfl⟩⟩
 rotate_left
 ·dsimp only[List.cons_append,List.nil_append]
  repeat(refine st ?_;intros)
  (refine Dn.post (Hr:=[wrow bw bd ba bs,cd,ca1,cs]) Tryz.results24 (hR:= ?_);exact .inr ⟨hsmall,rfl,ca1,α1,rfl,hW1,hg1,hr1⟩)
 dsimp only[List.cons_append,List.nil_append]
 obtain⟨hp,hJ⟩:=begun_job (bj:=bj) h hW1 hg1 hr1 hroom8
 have hl0:In0 (begP bw bd ba bs bj W) (lf,l):=begun_in0 hl
 have hbj:(begP bw bd ba bs bj W).bj=bj:=rfl
 have hbw:(begP bw bd ba bs bj W).bw=bw:=rfl
 have hL0:(begP bw bd ba bs bj W).L0=W.live:=rfl
 have hn0:(begP bw bd ba bs bj W).n=W.σ.n:=rfl
 obtain⟨hll,hlfit,hlb,_,_⟩:=in0file hl0
 dsimp only at hll hlfit hlb
 rw[hw] at hlfit
 have hR:Rm (begP bw bd ba bs bj W) n m 5 W.δ.acts:=⟨hp,by omega,by omega,by
  rw[hL0,hn0]
  have e:5+W.live.length+1=W.live.length+6:=by omega
  rw[e];exact hroom,by omega,by omega⟩
 have hJ0:JobS (begP bw bd ba bs bj W) n 5 W.δ.acts 0 0 none [] _:=⟨hJ.weak rfl rfl rfl (Nat.le_refl _) (Nat.le_refl _),Nat.zero_le _,by simp⟩
 have hH:=begun_ct hR hJ0 lf l hl0 hw (by omega) c (by omega) (by omega) hT (by simp) (by omega)
 rw[hflv,hbj] at hH
 have hH:=Ct.convP (H:=[jrow bj bw 0 none 0 0,wrow bw bd ba bs,cd,ca1,cs]) hH (jobC_open (p:=begP bw bd ba bs bj W) (e:=0) (cd:=cd) (ca:=ca1) (cs:=cs)) (fun v H' hh=>⟨H',hh,.refl _⟩)
 repeat(refine st ?_;intros)
 refine R.callX (hct:=hH) (h:= ?_)
 rintro _ _ ⟨f1,C1,e1,rfl,rfl,hJ1,hF1,hE1⟩
 dsimp only[List.cons_append,List.nil_append]
 constructor
 ·(·(first|(intro _ _ h;cases h;done)|(repeat(first|exact qok_nil|(apply qok_cons;(·first|(intro hc;exact absurd hc (nmem rfl))|(intro _;apply CellPr.mk;(·repeat(first|exact Has.here|apply Has.there));(first|exact rfl|assumption))|(intro _;apply CellsPr.mk;(·repeat(first|exact Has.here|apply Has.there));(first|exact rfl|assumption))))))))
 try rw[hflv]
 have hbn:bits l.length≤10:=bits_10 (by omega)
 have hcl:lf.count=l.length:=hll.symm
 repeat(refine stn ?_;intros)
 rename_i b8
 apply G.seq
 repeat(refine stn ?_;intros)
 refine G.cut (D':=[]) (X:=Nat) (fun r=>r≤10∧(e1=0→r=bits l.length)) (fun r=>[(9,.int .i64 (r:Int)),(8,pv b8),(6,pv bj),(4,pv b4),(3,pv b3)])
  (fun _=>[C1,fbox b8 f1,fbox b4 ⟨0,0,0,0⟩,fbox b3 lf]) ?_ ?_
 ·repeat(refine st ?_;intros)
  refine G.loop (X:=Nat×Nat) (fun x=>x.1≤bits l.length∧x.2=2^x.1) (fun x=>[(10,.int .i64 (x.2:Int)),(9,.int .i64 (x.1:Int)),(8,pv b8),(6,pv bj),(4,pv b4),(3,pv b3)]) (fun _=>[C1,fbox b8 f1,fbox b4 ⟨0,0,0,0⟩,fbox b3 lf]) (fun x=>bits l.length-x.1) (0,1) ⟨Nat.zero_le _,rfl⟩ (body:= ?_)
  rintro⟨r,x⟩ ⟨hr1,hx⟩
  dsimp only[fbox] at hr1 hx⊢
  by_cases hle:(x:Int)≤(lf.count:Int)
  rotate_left
  ·repeat(refine st ?_;intros)
   refine Dn.meet r ⟨by omega,fun _=>bits_up hr1 (by omega)⟩
  obtain⟨ph,nh,pc,rest,hrow⟩:=hJ1.row
  rw[hbj,hbw] at hrow
  by_cases he:e1=0
  rotate_left
  ·refine G.open hrow (by(repeat(first|exact Take.here|apply Take.there))) ?_
   repeat(refine st ?_;intros)
   refine Dn.close hrow (by(repeat(first|exact Take.here|apply Take.there))) (by(repeat(first|exact Take.here|apply Take.there))) ?_
   exact Dn.meet r ⟨by omega,fun h=>absurd h he⟩
  have hlt:r<bits l.length:=by
   by_cases hlt:r<bits l.length
   ·exact hlt
   ·have h1:=bits_gt l.length
    obtain rfl:r=bits l.length:=by omega
    omega
  have hxx:x*2=2^(r+1):=by rw[hx,Nat.pow_succ]
  have hw1:IntKind.wrap .i64 ((r:Int)+1)=((r+1:Nat):Int):=by rw[wrap_i64 (by omega)];omega
  have hw2:IntKind.wrap .i64 ((x:Int)*2)=((x*2:Nat):Int):=by rw[wrap_i64 (by omega)];omega
  refine G.open hrow (by(repeat(first|exact Take.here|apply Take.there))) ?_
  repeat(refine st ?_;intros)
  refine Dn.close hrow (by(repeat(first|exact Take.here|apply Take.there))) (by(repeat(first|exact Take.here|apply Take.there))) ?_
  exact Dn.round (r+1,x*2) ⟨by dsimp only;omega,hxx⟩ (by dsimp only;omega)
 rintro r0 ⟨hr0,hr1⟩
 dsimp only[fbox] at hr0 hr1⊢
 have hok:=sJ_ok hlfit
 refine G.cut (D':=[]) (X:=RkX) (fun x=>JobS (begP bw bd ba bs bj W) n 5 W.δ.acts 100 x.e (errR l) [(x.f,sJ l x.j)] x.C∧FB lf.count c 3 l.length x.e x.f∧(x.e=0→sJ l x.j=sJ l (bits l.length))) (fun _=>[(8,pv b8),(6,pv bj),(4,pv b4)])
  (fun x=>[x.C,fbox b8 x.f,fbox b4 ⟨0,0,0,0⟩]) ?_ ?_
 ·repeat(refine st ?_;intros)
  refine G.loop (X:=RkY) (fun x=>JobS (begP bw bd ba bs bj W) n 5 W.δ.acts x.q x.e (errB l) [(x.f,sJ l x.j)] x.C∧FB lf.count c 3 l.length x.e x.f∧x.q≤10+7*x.j∧(x.o=true→x.q≤9+7*x.j∧x.z=(r0:Int)-x.j∧x.j≤r0+1)∧(x.o=false→x.j≤r0)∧(x.o=false→x.e=0→openT (sJ l x.j)=false)∧(x.o=true→x.e=0→0<x.j→openT (sJ l (x.j-1))=true)∧(x.e=0→e1=0))
   (fun x=>[(11,.bool x.o),(9,.int .i64 x.z),(8,pv b8),(6,pv bj),(4,pv b4)]) (fun x=>[x.C,fbox b8 x.f,fbox b4 ⟨0,0,0,0⟩]) (fun x=>if x.o then r0+3-x.j else 0)
   ⟨e1,C1,f1,0,true,(r0:Int),9⟩ ⟨hJ1,hF1,by dsimp only;omega,fun _=>⟨by dsimp only;omega,by dsimp only;omega,by dsimp only;omega⟩,fun h=>(by cases h),fun h=>(by cases h),fun _ _ h=>absurd h (Nat.lt_irrefl 0),fun h=>h⟩ (body:= ?_)
  rintro⟨e,C,f,j,o,z,q⟩ ⟨hJ,hF,hq,hot,hof,hsh,hop,hee⟩
  dsimp only[fbox] at hJ hF hq hot hof hsh hop hee⊢
  have hsr:e=0→(allF l).Pairwise fun a b=>a.c0<b.c0:=fun h=>(riseE_none.1 (errB_none (hJ.er0 h)).2.2.1).1
  obtain⟨x3,hx3⟩:∃x3:Option Nat,x3=if openT (sJ l (bits l.length)) then some 3 else none:=⟨_,rfl⟩
  have herr:(errB l).or x3=errR l:=by rw[hx3];rfl
  cases o with
  |false=>
   have hj:=hof rfl
   have hlast:e=0→sJ l (bits l.length)=sJ l j:=fun h=>by
    have h1:=hr1 (hee h)
    have h2:=sJ_shut hlfit (hsr h) (hsh rfl h) (bits l.length-j)
    rw[←h1] at h2⊢
    rwa[show j+(r0-j)=r0 by omega] at h2
   repeat(refine st ?_;intros)
   refine Dn.meet ⟨e,C,f,j⟩ ⟨?_,hF,fun h=>(hlast h).symm⟩
   have h3:=hJ.orE x3 (fun h=>by rw[hx3,hlast h,hsh rfl h];rfl)
   rw[herr] at h3
   exact⟨h3.job.weak rfl rfl rfl (by dsimp only;omega) (by dsimp only;omega),h3.len,h3.blk⟩
  |true=>
  obtain⟨hq1,rfl,hj⟩:=hot rfl
  obtain⟨ph,nh,pc,rest,hrow⟩:=hJ.row
  rw[hbj,hbw] at hrow
  by_cases he:e=0
  rotate_left
  ·refine G.open hrow (by(repeat(first|exact Take.here|apply Take.there))) ?_
   repeat(refine st ?_;intros)
   refine Dn.close hrow (by(repeat(first|exact Take.here|apply Take.there))) (by(repeat(first|exact Take.here|apply Take.there))) ?_
   refine Dn.meet ⟨e,C,f,j⟩ ⟨?_,hF,fun h=>absurd h he⟩
   have h3:=hJ.orE x3 (fun h=>absurd h he)
   rw[herr] at h3
   exact⟨h3.job.weak rfl rfl rfl (by dsimp only;omega) (by dsimp only;omega),h3.len,h3.blk⟩
  subst he
  by_cases hz0:(r0:Int)-j<0
  ·have hx33:x3=some 3:=by
    have h1:=hr1 (hee rfl)
    have h2:=hop rfl rfl (by omega)
    rw[show j-1=bits l.length by omega] at h2
    rw[hx3,h2];rfl
   have hFl:=SFail hJ 3 (by decide) (by decide) x3 (fun _=>hx33)
   rw[hbj] at hFl
   refine G.open hrow (by(repeat(first|exact Take.here|apply Take.there))) ?_
   repeat(refine st ?_;intros)
   refine R1.close hrow (by(repeat(first|exact Take.here|apply Take.there))) (by(repeat(first|exact Take.here|apply Take.there))) ?_
   refine R.callX (hct:=hFl) (h:= ?_)
   rintro _ _ ⟨e3,C3,rfl,rfl,hJ3,he3⟩
   dsimp only[List.cons_append,List.nil_append]
   constructor
   ·(·(first|(intro _ _ h;cases h;done)|(repeat(first|exact qok_nil|(apply qok_cons;(·first|(intro hc;exact absurd hc (nmem rfl))|(intro _;apply CellPr.mk;(·repeat(first|exact Has.here|apply Has.there));(first|exact rfl|assumption))|(intro _;apply CellsPr.mk;(·repeat(first|exact Has.here|apply Has.there));(first|exact rfl|assumption))))))))
   repeat(refine st ?_;intros)
   refine Dn.meet ⟨e3,C3,f,j⟩ ⟨?_,hF.mono fun h=>absurd h he3,fun h=>absurd h he3⟩
   rw[herr] at hJ3
   exact⟨hJ3.job.weak rfl rfl rfl (by dsimp only;omega) (by dsimp only;omega),hJ3.len,hJ3.blk⟩
  have hjr:j≤r0:=by omega
  have hwz:IntKind.wrap .i64 ((r0:Int)-j-1)=(r0:Int)-((j+1:Nat):Int):=by rw[wrap_i64 (by omega)];omega
  have hju:=jump_ct hR f (sJ l j) hJ lf.count c (by rw[sJ_len];exact hF) (by omega) (by omega) (by omega) (by omega) hT (by simp) (by omega) (hok j) (fun h=>sJ_sr (hsr h) j)
  rw[hflv,hbj] at hju
  refine G.open hrow (by(repeat(first|exact Take.here|apply Take.there))) ?_
  repeat(refine st ?_;intros)
  refine R1.close hrow (by(repeat(first|exact Take.here|apply Take.there))) (by(repeat(first|exact Take.here|apply Take.there))) ?_
  refine R.callX (hct:=hju) (h:= ?_)
  rintro _ _ ⟨f4,o4,C4,e4,rfl,rfl,⟨rfl,rfl,hJ4,hE4⟩|⟨rfl,hJ4,hF4,hE4⟩⟩
  ·dsimp only[List.cons_append,List.nil_append]
   rw[hflv]
   constructor
   ·(·(first|(intro _ _ h;cases h;done)|(repeat(first|exact qok_nil|(apply qok_cons;(·first|(intro hc;exact absurd hc (nmem rfl))|(intro _;apply CellPr.mk;(·repeat(first|exact Has.here|apply Has.there));(first|exact rfl|assumption))|(intro _;apply CellsPr.mk;(·repeat(first|exact Has.here|apply Has.there));(first|exact rfl|assumption))))))))
   repeat(refine st ?_;intros)
   exact Dn.round ⟨e4,C4,f4,j,false,(r0:Int)-((j+1:Nat):Int),q+1⟩ ⟨hJ4,hF.mono fun h=>(hE4 h).1,by dsimp only;omega,fun h=>(by cases h),fun _=>hjr,fun _ h=>(hE4 h).2,fun h=>(by cases h),fun h=>hee rfl⟩ (by dsimp only;simp only[Bool.false_eq_true,if_false,if_true];omega)
  ·dsimp only[List.cons_append,List.nil_append]
   rw[hflv]
   constructor
   ·(·(first|(intro _ _ h;cases h;done)|(repeat(first|exact qok_nil|(apply qok_cons;(·first|(intro hc;exact absurd hc (nmem rfl))|(intro _;apply CellPr.mk;(·repeat(first|exact Has.here|apply Has.there));(first|exact rfl|assumption))|(intro _;apply CellsPr.mk;(·repeat(first|exact Has.here|apply Has.there));(first|exact rfl|assumption))))))))
   repeat(refine st ?_;intros)
   exact Dn.round ⟨e4,C4,f4,j+1,true,(r0:Int)-((j+1:Nat):Int),q+7⟩ ⟨hJ4,by rw[sJ_len] at hF4;exact hF4,by dsimp only;omega,fun h=>⟨by dsimp only;omega,rfl,by dsimp only;omega⟩,fun h=>(by cases h),fun h=>(by cases h),fun _ h _=>(hE4 h).2,fun h=>hee rfl⟩ (by dsimp only;simp only[Bool.false_eq_true,if_false,if_true];omega)
 rintro⟨e2,C2,f2,j2⟩ ⟨hJ2,hF2,hE2⟩
 dsimp only[fbox] at hJ2 hF2 hE2⊢
 have hF2c:=hF2.cnt
 have hF2b:=hF2.blk
 have hM3:=fun b=>SMap1 hR hJ2 (fun t=>⟨t.c0,t.c2,0,0,0⟩) 2 f2.count c (by omega) 56 inferInstance (okT 3) rankOut_mk (fun t h=>okT2 (okT_cols h).1 (okT_cols h).2.2.1) f2 (sJ l j2) (by first|exact .inr (by assumption)|exact .inl (by repeat(first|exact List.mem_cons_self|apply List.mem_cons_of_mem))) (by omega) (fun _=>hok j2) (fun h=>by have:=(hF2.ok h).2;rw[sJ_len];omega) (.inr ⟨by omega,by omega⟩) (by omega) (by simp only[List.length_cons,List.length_nil];omega) (by omega) b
 simp only[hfl4,hbj] at hM3
 repeat(refine st ?_;intros)
 refine R.callX (hct:=hM3 _) (h:= ?_)
 rintro _ _ ⟨f3,C3,e3,rfl,rfl,hJ3,hF3,hE3⟩
 dsimp only[List.cons_append,List.nil_append]
 constructor
 ·(·(first|(intro _ _ h;cases h;done)|(repeat(first|exact qok_nil|(apply qok_cons;(·first|(intro hc;exact absurd hc (nmem rfl))|(intro _;apply CellPr.mk;(·repeat(first|exact Has.here|apply Has.there));(first|exact rfl|assumption))|(intro _;apply CellsPr.mk;(·repeat(first|exact Has.here|apply Has.there));(first|exact rfl|assumption))))))))
 try rw[hflv]
 have hRs:=fun b=>SResult hR hJ3 f3 b
 simp only[hfl4,hbj] at hRs
 repeat(refine st ?_;intros)
 refine R.call (hct:=hRs _) (h:= ?_)
 rintro _ _ ⟨cd5,ca5,cs5,W5,rfl,rfl,hW5,hD⟩
 try dsimp only[List.cons_append,List.nil_append]
 have hSt:=done_stepped (A:=rankA) (T:=rankA) hD rfl (by dsimp only;unfold rankA;omega) (by dsimp only;unfold rankA;omega)
 dsimp only at hSt
 by_cases he:e3=0
 ·subst he
  rw[if_pos rfl,hE2 (hE3 rfl)] at hSt
  repeat(refine st ?_;intros)
  (refine Dn.post (Hr:=[wrow bw bd ba bs,cd5,ca5,cs5]) Tryz.results24 (hR:= ?_);exact .inl ⟨hroom8,f3,0,cd5,ca5,cs5,W5,rfl,rfl,hW5,hSt,fun _=>(hF3.ok rfl).1⟩)
 ·rw[if_neg he] at hSt
  have hSt:=hSt.other (ts':=ranksF l) he
  repeat(refine st ?_;intros)
  (refine Dn.post (Hr:=[wrow bw bd ba bs,cd5,ca5,cs5]) Tryz.results24 (hR:= ?_);exact .inl ⟨hroom8,⟨0,0,0,0⟩,e3,cd5,ca5,cs5,W5,rfl,rfl,hW5,hSt,fun h=>absurd h he⟩)
structure Ons (n ro:Nat) (W:Wk) (fs:List Fl):Prop where
 size:W.δ.size=10
 room:W.α.room=ro
 used:W.α.used=0
 acts:W.δ.acts≤100000000
 n:W.σ.n=n
 live:W.live.Perm (addFs fs [])
theorem Ons.flt {n ro:Nat} {W:Wk} {fs:List Fl} (h:Ons n ro W fs) (x:Int):Ons n ro (W.flt x) fs:={h with}
theorem Ons.fresh (n ro:Nat):Ons n ro (wk0 10 n ro) []:=⟨rfl,rfl,rfl,Nat.zero_le _,rfl,.refl _⟩
theorem Ons.lay {n ro k m:Nat} {bd ba bs:Nat} {cd ca cs cd1 ca1 cs1:Chunk} {W W1:Wk} {f:Fl} {fs:List Fl} {ts:List T5} (h:Ons n ro W fs) (hW:Wc bd ba bs W cd ca cs) (hW1:Wc bd ba bs W1 cd1 ca1 cs1) (hE:Ev W W1 (nblocks 10 k m) (nblocks 10 k m)) (hg:W1.α.gs.Perm W.α.gs) (hl:W1.live.Perm (addF f W.live)) (hfo:FileOk W1.δ.disk 10 [f.ext] f ts) (ha:W.δ.acts+nblocks 10 k m≤100000000):
  Ons n ro W1 (fs++[f])∧FileIn W1 (f,ts):=by
 have h1:W1.δ.size=10:=hE.size.trans h.size
 have h2:=hE.acts.2
 exact⟨⟨h1,hE.room.trans h.room,(used_eq hW hW1 hg).trans h.used,by omega,hE.n.trans h.n,(hl.trans (addF_perm h.live)).trans (by rw[←addFs_app])⟩,FileIn.new hfo h1 hl⟩
theorem nb3 {n:Nat}:nblocks 10 3 n≤(n+1)/2:=by
 unfold nblocks
 have:holds 10 3=2:=by decide
 rw[this];omega
theorem Ranks_ons (bw bd ba bs:Nat) (ro:Nat) (hro:80≤ro) (W:Wk) (cd ca cs:Chunk) (h:Wc bd ba bs W cd ca cs) (f:Fl) (l:List T5) (fs:List Fl) (hin:FileIn W (f,l)) (hfw:f.width=3) (hfc:f.count=l.length) (hO:Ons 6000 ro W fs) (n c m:Nat) (hn:l.length≤n) (hnc:n≤2*c) (hcn:c≤n) (hn5:n≤1000) (hT:sortT c≤m) (hnm:n≤m) (hroom:m*(fs.length+6)+(5*n+sumB fs)≤6000) (hac:W.δ.acts≤90000000):
  Ct Tryz.prog 24 [pv bw,flv f] [wrow bw bd ba bs,cd,ca,cs] fun v H'=>∃x e cd' ca' cs' W',v= .tuple #[flv x,.int .i64 e]∧H'=[wrow bw bd ba bs,cd',ca',cs']∧Wc bd ba bs W' cd' ca' cs'∧W'.δ.acts≤W.δ.acts+rankA∧(W.δ.fault= -1→W'.δ.fault= -1)∧big W.σ.free≤big W'.σ.free+rankA∧Keep W.live W W'∧
   ((e=0∧errR l=none∧FileIn W' (x,ranksF l)∧x.width=2∧x.count=(ranksF l).length∧Ons 6000 ro W' (fs++[x]))∨
    (e≠0∧x=⟨0,0,0,0⟩∧Ons 6000 ro W' fs∧((e=6∧W.δ.fault≠-1)∨∃k:Nat,errR l=some k∧e=(k:Int)))):=by
 have hll:=hO.live.length_eq
 have hl3:=length_addFs fs []
 have htt:total W.live=_:=(total_perm hO.live).trans (total_addFs _ _)
 rw[show total []=0 from rfl] at htt
 rw[show([]:List Ext).length=0 from rfl] at hl3
 have hmul:m*(W.live.length+6)≤m*(fs.length+6):=Nat.mul_le_mul_left _ (by omega)
 refine(Ranks_ct bw bd ba bs W cd ca cs h f l hin hfw n c m (by omega) hnc hn5 hnm hcn hT (by rw[hO.n,htt];unfold sumB at hroom;omega) (by omega)).mono ?_
 rintro v H' (⟨_,x,e,cd3,ca3,cs3,W3,rfl,rfl,hW3,hS3,hw3⟩|⟨hsm,_⟩)
 rotate_left
 ·exfalso
  have h3:=hO.room
  have h4:=hO.used
  have h5:=hO.size
  omega
 have hac3:=hS3.acts
 have hac4:W3.δ.acts≤100000000:=by unfold rankA at hac3;omega
 refine⟨x,e,cd3,ca3,cs3,W3,rfl,rfl,hW3,hac3,hS3.fault,hS3.big,hS3.keep,?_⟩
 have hOn:∀gs,W3.live.Perm (addFs gs [])→Ons 6000 ro W3 gs:=fun gs hl=>⟨hS3.size.trans hO.size,hS3.room.trans hO.room,(used_eq h hW3 hS3.gs).trans hO.used,hac4,hS3.n.trans hO.n,hl⟩
 rcases hS3.res with⟨rfl,her,hl,hfo⟩|⟨he,rfl,hl,hr⟩
 ·rw[hO.size] at hfo
  exact .inl ⟨rfl,her,FileIn.new hfo (hS3.size.trans hO.size) hl,hw3 rfl,hfo.len.symm,hOn _ ((hl.trans (addF_perm hO.live)).trans (by rw[←addFs_app]))⟩
 ·exact .inr ⟨he,rfl,hOn _ (hl.trans hO.live),hr⟩
theorem awake14ct:CtQ Tryz.prog 22 [] [] (.bool true):=by
 have hWk:Ct Tryz.prog 23 [.int .i64 9] [] fun v H'=>
  ∃bw bd ba bs cd ca cs,v=pv bw∧H'=[wrow bw bd ba bs,cd,ca,cs]∧Wc bd ba bs (wk0 10 6000 90) cd ca cs:=work14ct 9 (by omega)
 have hflv:∀f:Fl,flv f= .agg #[.int .i64 (f.first:Int),.int .i64 (f.blocks:Int),.int .i64 (f.width:Int),.int .i64 (f.count:Int)]:=fun _=>rfl
 refine Ct.intro Tryz.func22 rfl Tryz.ntmps22 (nle rfl) fun w0=> ?_;dsimp only[argSlots,Nat.reduceAdd]
 repeat(refine st ?_;intros)
 refine R.call (hct:=hWk) (h:= ?_)
 rintro _ _ ⟨bw,bd,ba,bs,cd,ca,cs,rfl,rfl,hW⟩
 try dsimp only[List.cons_append,List.nil_append]
 repeat(refine st ?_;intros)
 rename_i bl
 have hRV:RV (some ⟨bl,0,none⟩) 1 [⟨5,-1,2,0,0⟩] [(bl,row [.int .i64 5,.int .i64 (-1),.int .i64 2,.int .i64 0,.int .i64 0] 38)]:=⟨rfl,.inr ⟨bl,0,_,_,_,rfl,rfl,rfl⟩⟩
 have hok1:∀t∈([⟨5,-1,2,0,0⟩]:List T5),okT 3 t:=by
  intro t ht
  simp only[List.mem_singleton] at ht;subst ht
  exact okT3 ⟨by decide,by decide⟩ ⟨by decide,by decide⟩ ⟨by decide,by decide⟩
 have hLy:=Lay_k bw bd ba bs _ cd ca cs hW 3 (by omega) (by omega) _ 1 1 _ _ hRV (by omega) hok1 (by decide) rfl (by decide) (by rw[big0];decide)
 rw[show(wk0 10 6000 90).δ.size=10 from rfl] at hLy
 refine R.call (hct:=hLy) (h:= ?_)
 rintro _ _ ⟨cd1,ca1,cs1,W1,f,rfl,rfl,hW1,hE1,hK1,hg1,hl1,hf1,hc1,hb1,hfo1⟩
 try dsimp only[List.cons_append,List.nil_append]
 obtain⟨hO,hin⟩:=(Ons.fresh 6000 90).lay hW hW1 hE1 hg1 hl1 hfo1 (by decide)
 have hac1:=hE1.acts.2
 have hn1:nblocks 10 3 1=1:=by decide
 rw[show(wk0 10 6000 90).δ.acts=0 from rfl] at hac1
 rw[hflv]
 have hT:=Ranks_ons bw bd ba bs 90 (by omega) W1 cd1 ca1 cs1 hW1 f _ _ hin hf1 hc1 hO 1 1 10 (by decide) (by decide) (by decide) (by decide) (by decide+kernel) (by decide) (by simp[sumB,hb1,hn1]) (by omega)
 rw[hflv] at hT
 repeat(refine st ?_;intros)
 refine R.call (hct:=hT) (h:= ?_)
 rintro _ _ ⟨x,e,cd3,ca3,cs3,W3,rfl,rfl,hW3,_,_,_,_,hc⟩
 dsimp only[List.cons_append,List.nil_append]
 have her:errR [⟨5,-1,2,0,0⟩]=none:=by decide+kernel
 rcases hc with⟨rfl,_,_,hxw,hxc,_⟩|⟨_,_,_,⟨_,h6⟩|⟨k,h6,_⟩⟩
 ·have hxc1:(x.count:Int)=1:=by rw[hxc];decide+kernel
  have hxw1:(x.width:Int)=2:=by rw[hxw];rfl
  rw[hflv,hxc1,hxw1]
  repeat(refine st ?_;intros)
  (refine Dn.post (Hr:=[]) Tryz.results22 (hR:= ?_);exact⟨congrArg Value.bool (dec_true rfl),rfl⟩)
 ·exact absurd (hE1.fault rfl) h6
 ·rw[her] at h6;cases h6
end Go.Proofs.YtjoicjgfgkpdjaaGreat
namespace Go.Proofs.YtjoicjgfgkpdjaaGreat
def itA (p:Int→Int):Nat→Int→Int
 |0,x=>x
 |k+1,x=>itA p k (p x)
theorem itA_add (p:Int→Int):∀(a b:Nat) (x:Int),itA p (a+b) x=itA p b (itA p a x)
 |0,b,x=>by rw[Nat.zero_add];rfl
 |a+1,b,x=>by
  rw[Nat.add_right_comm]
  exact itA_add p a b (p x)
theorem itA_end {p:Int→Int} (h:p (-1)= -1):∀k,itA p k (-1)= -1
 |0=>rfl
 |k+1=>by show itA p k (p (-1))= -1;rw[h];exact itA_end h k
theorem itA_succ (p:Int→Int) (m:Nat) (x:Int):itA p (m+1) x=p (itA p m x):=by
 rw[itA_add];rfl
end Go.Proofs.YtjoicjgfgkpdjaaGreat
namespace Go.Proofs.YtjoicjgfgkpdjaaGreat
open Go.SL Go.Spc Go.Tup Go.Srt
def aheadT (l:List T5) (x:Int):Option T5:=if x= -1 then none else l.find? fun t=>decide (t.c1=x)
def paT (l:List T5) (x:Int):Int:=match aheadT l x with|some t=>t.c0|none=> -1
def waT (l:List T5) (x:Int):Int:=match aheadT l x with|some t=>t.c2|none=>0
structure PreL (l:List T5):Prop where
 el:∀t∈l,okE t
 nd:l.Pairwise fun a c=>a.c0≠c.c0
 nx:l.Pairwise fun a c=>a.c1≠-1→a.c1≠c.c1
structure OkL (l:List T5):Prop extends PreL l where
 im:∀t∈l,t.c1≠-1→∃u∈l,u.c0=t.c1
theorem uniq_of {f:T5→Int}:∀{l:List T5},(l.Pairwise fun a c=>f a≠f c)→∀{t u:T5},t∈l→u∈l→f t=f u→t=u
 |[],_,t,_,ht,_,_=>by cases ht
 |a::l,h,t,u,ht,hu,he=>by
  rw[List.pairwise_cons] at h
  rcases List.mem_cons.1 ht with rfl|ht2<;>rcases List.mem_cons.1 hu with rfl|hu2
  ·rfl
  ·exact absurd he (h.1 u hu2)
  ·exact absurd he.symm (h.1 t ht2)
  ·exact uniq_of h.2 ht2 hu2 he
theorem uniq_nx:∀{l:List T5},(l.Pairwise fun a c=>a.c1≠-1→a.c1≠c.c1)→∀{t u:T5},t∈l→u∈l→t.c1≠-1→t.c1=u.c1→t=u
 |[],_,t,_,ht,_,_,_=>by cases ht
 |a::l,h,t,u,ht,hu,hn,he=>by
  rw[List.pairwise_cons] at h
  rcases List.mem_cons.1 ht with rfl|ht2<;>rcases List.mem_cons.1 hu with rfl|hu2
  ·rfl
  ·exact absurd he (h.1 u hu2 hn)
  ·exact absurd he.symm (h.1 t ht2 (by omega))
  ·exact uniq_nx h.2 ht2 hu2 hn he
theorem aheadT_some {l:List T5} (h:PreL l) {t:T5} (ht:t∈l) (hn:t.c1≠-1):aheadT l t.c1=some t:=by
 unfold aheadT
 rw[if_neg hn]
 cases hf:l.find? fun u=>decide (u.c1=t.c1) with
 |none=>rw[List.find?_eq_none] at hf;exact absurd (decide_eq_true rfl) (hf t ht)
 |some u=>
  have h1:u.c1=t.c1:=by simpa using List.find?_some hf
  rw[uniq_nx h.nx ht (List.mem_of_find?_eq_some hf) hn h1.symm]
theorem aheadT_of {l:List T5} {x:Int} {t:T5} (h:aheadT l x=some t):t∈l∧t.c1=x∧x≠-1:=by
 unfold aheadT at h
 split at h
 ·cases h
 ·rename_i hn
  exact⟨List.mem_of_find?_eq_some h,by simpa using List.find?_some h,hn⟩
theorem aheadT_none {l:List T5} {x:Int} (hx:x≠-1) (h:aheadT l x=none):∀t∈l,t.c1≠x:=by
 unfold aheadT at h
 rw[if_neg hx,List.find?_eq_none] at h
 intro t ht h1
 exact h t ht (by simpa using h1)
def stT (p v:Int→Int) (e:T5):T5:=⟨e.c0,p e.c0,v e.c0,0,0⟩
theorem srt_is {m E:List T5} (hp:m.Perm E) (hE:E.Pairwise fun a c=>a.c0<c.c0):srt (ltO o1) false m=E:=by
 have h1:(srt (ltO o1) false m).Perm E:=(perm_srt _).trans hp
 refine h1.eq_of_pairwise (le:=fun x y=>x.c0<y.c0) (fun x y _ _ h1 h2=>absurd h1 (by omega)) (strict_of (srt_o1 _) ?_) hE
 refine(h1.map (·.c0)).nodup_iff.2 ?_
 exact List.pairwise_map.2 (hE.imp fun {x y} hh=>by omega)
theorem st_strict {p v:Int→Int} {E:List T5} (hE:E.Pairwise fun a c=>a.c0<c.c0):(E.map (stT p v)).Pairwise fun a c=>a.c0<c.c0:=List.pairwise_map.2 (hE.imp fun {x y} h=>h)
def pJ (p:Int→Int) (x:Int):Int:=if p x= -1 then-1 else p (p x)
def vJ (p v:Int→Int) (x:Int):Int:=if p x= -1 then v x else IntKind.wrap .i64 (v x+v (p x))
theorem jumpF_st {E:List T5} {p v:Int→Int} (hE:E.Pairwise fun a c=>a.c0<c.c0) (h0:∀e∈E,0≤e.c0) (hp:∀e∈E,p e.c0= -1∨∃u∈E,u.c0=p e.c0):jumpF (E.map (stT p v))=E.map (stT (pJ p) (vJ p v)):=by
 have hs:=st_strict (p:=p) (v:=v) hE
 unfold jumpF sumsF farF
 refine srt_is ?_ (st_strict hE)
 rw[List.map_map,List.map_map]
 refine((perm_srt _).map _).trans ?_
 rw[List.map_map]
 refine List.Perm.of_eq (List.map_congr_left fun e he=> ?_)
 have hlk:∀c,lkV (E.map (stT p v)) (p e.c0) c=if p e.c0= -1 then-1 else(⟨p e.c0,p (p e.c0),v (p e.c0),0,0⟩:T5).col c:=by
  intro c
  split
  ·rename_i h1
   rw[h1]
   refine lkV_none fun u hu=> ?_
   obtain⟨w,hw,rfl⟩:=List.mem_map.1 hu
   have:=h0 w hw
   show w.c0≠-1
   omega
  ·rename_i h1
   rcases hp e he with h2|⟨u,hu,h2⟩
   ·exact absurd h2 h1
   ·rw[lkV_some hs (List.mem_map_of_mem hu) (by show u.c0=_;exact h2)]
    unfold stT;rw[h2]
 simp only[Function.comp_apply]
 show jmpF (setc (setc (stT p v e) 3 (lkV _ (p e.c0) 1)) 4 (lkV _ (p e.c0) 2))=_
 rw[hlk 1,hlk 2]
 unfold jmpF
 show(if p e.c0= -1 then _ else _)=_
 unfold stT pJ vJ
 by_cases h1:p e.c0= -1
 ·rw[if_pos h1,if_pos h1,if_pos h1,if_pos h1]
  simp only[h1]
  rfl
 ·rw[if_neg h1,if_neg h1,if_neg h1,if_neg h1]
  simp only[if_neg h1]
  rfl
def smA (p w:Int→Int):Nat→Int→Int
 |0,_=>0
 |k+1,x=>w x+smA p w k (p x)
theorem smA_add (p w:Int→Int):∀(a b:Nat) (x:Int),smA p w (a+b) x=smA p w a x+smA p w b (itA p a x)
 |0,b,x=>by rw[Nat.zero_add];simp[smA,itA]
 |a+1,b,x=>by
  rw[Nat.add_right_comm]
  show w x+smA p w (a+b) (p x)=w x+smA p w a (p x)+smA p w b (itA p a (p x))
  rw[smA_add p w a b (p x)];omega
theorem smA_end {p w:Int→Int} (h:p (-1)= -1) (hw:w (-1)=0):∀k,smA p w k (-1)=0
 |0=>rfl
 |k+1=>by show w (-1)+smA p w k (p (-1))=0;rw[h,hw,smA_end h hw k];rfl
theorem wrap_sum (a b:Int):IntKind.wrap .i64 (IntKind.wrap .i64 a+IntKind.wrap .i64 b)=IntKind.wrap .i64 (a+b):=by
 have e:∀n:Int,IntKind.wrap .i64 n=if n%18446744073709551616≥9223372036854775808 then n%18446744073709551616-18446744073709551616 else n%18446744073709551616:=fun n=>by
  unfold IntKind.wrap
  simp[IntKind.bits,IntKind.signed]
 rw[e,e a,e b,e (a+b)]
 split<;>split<;>split<;>split<;>omega
theorem sJ_it {l E:List T5} {p w:Int→Int} (hE:E.Pairwise fun a c=>a.c0<c.c0) (h0:∀e∈E,0≤e.c0) (hp:∀e∈E,p e.c0= -1∨∃u∈E,u.c0=p e.c0) (hpe:p (-1)= -1) (hwe:w (-1)=0) (hb:begF l=E.map (stT p fun x=>IntKind.wrap .i64 (w x))):∀j,sJ l j=E.map (stT (itA p (2^j)) fun x=>IntKind.wrap .i64 (smA p w (2^j) x))
 |0=>by
  show begF l=_
  rw[hb]
  refine List.map_congr_left fun e _=> ?_
  show stT p _ e=stT (itA p 1) (fun x=>IntKind.wrap .i64 (smA p w 1 x)) e
  unfold stT
  simp only[itA,smA,Int.add_zero]
 |j+1=>by
  show jumpF (sJ l j)=_
  rw[sJ_it hE h0 hp hpe hwe hb j]
  have hin:∀k e,e∈E→itA p k e.c0= -1∨∃u∈E,u.c0=itA p k e.c0:=by
   intro k
   induction k with
   |zero=>exact fun e he=> .inr ⟨e,he,rfl⟩
   |succ k ih=>
    intro e he
    show itA p k (p e.c0)= -1∨_
    rcases hp e he with h1|⟨u,hu,h1⟩
    ·exact .inl (by rw[h1];exact itA_end hpe k)
    ·show itA p k (p e.c0)= -1∨∃u∈E,u.c0=itA p k (p e.c0)
     rw[←h1]
     exact ih u hu
  rw[jumpF_st hE h0 fun e he=>hin _ e he]
  have e2:2^(j+1)=2^j+2^j:=by rw[Nat.pow_succ];omega
  refine List.map_congr_left fun e _=> ?_
  unfold stT pJ vJ
  dsimp only
  rw[e2,itA_add,smA_add]
  by_cases h1:itA p (2^j) e.c0= -1
  ·rw[if_pos h1,if_pos h1,h1,itA_end hpe,smA_end hpe hwe,Int.add_zero]
  ·rw[if_neg h1,if_neg h1,wrap_sum]
theorem linkM_mem {k:Unit}:∀{l:List T5} {z:T5},z∈linkM.all k l↔∃t∈l,t.c1≠-1∧z=⟨t.c1,t.c0,t.c2,0,0⟩
 |[],z=>by simp[Maker.all]
 |t::l,z=>by
  simp only[Maker.all,List.mem_append]
  rw[linkM_mem,show(∃u∈t::l,u.c1≠-1∧z=(⟨u.c1,u.c0,u.c2,0,0⟩:T5))↔(t.c1≠-1∧z=(⟨t.c1,t.c0,t.c2,0,0⟩:T5))∨∃u∈l,u.c1≠-1∧z=(⟨u.c1,u.c0,u.c2,0,0⟩:T5) from by simp only[List.mem_cons,or_and_right,exists_or,exists_eq_left]]
  refine or_congr ?_ Iff.rfl
  show z∈linkO t↔_
  unfold linkO
  by_cases h:t.c1= -1
  ·rw[if_pos h];simp[h]
  ·rw[if_neg h];simp[h]
theorem linkM_nd {k:Unit}:∀{l:List T5},(l.Pairwise fun a c=>a.c1≠-1→a.c1≠c.c1)↔(linkM.all k l).Pairwise fun a c=>a.c0≠c.c0
 |[]=>by simp[Maker.all]
 |t::l=>by
  simp only[Maker.all,List.pairwise_cons]
  rw[List.pairwise_append]
  show _↔(linkO t).Pairwise _∧(linkM.all () l).Pairwise _∧∀a∈linkO t,∀b∈linkM.all () l,a.c0≠b.c0
  unfold linkO
  by_cases h:t.c1= -1
  ·rw[if_pos h,linkM_nd (k:=())]
   simp[h]
  ·rw[if_neg h,linkM_nd (k:=())]
   constructor
   ·rintro⟨h1,h2⟩
    refine⟨by simp,h2,fun a ha b hb=> ?_⟩
    simp only[List.mem_singleton] at ha;subst ha
    obtain⟨u,hu,_,rfl⟩:=linkM_mem.1 hb
    exact h1 u hu h
   ·rintro⟨_,h2,h3⟩
    refine⟨fun u hu _ he=> ?_,h2⟩
    exact h3 _ (List.mem_singleton.2 rfl) ⟨u.c1,u.c0,u.c2,0,0⟩ (linkM_mem.2 ⟨u,hu,by rw[←he];exact h,rfl⟩) he
theorem linkM_bad {k:Unit}:∀{l:List T5},linkM.bad k l=none↔∀t∈l,okE t
 |[]=>by simp[Maker.bad]
 |t::l=>by
  simp only[Maker.bad]
  by_cases h:okE t
  ·rw[show linkM.err k t=none from if_pos h]
   dsimp only
   rw[linkM_bad]
   simp[h]
  ·rw[show linkM.err k t=some 3 from if_neg h]
   simp[h]
theorem bad_3 {K:Type} {M:Maker K} (h:∀k t,M.err k t=none∨M.err k t=some 3):∀(l:List T5) (k:K),M.bad k l=none∨M.bad k l=some 3
 |[],_=> .inl rfl
 |t::l,k=>by
  simp only[Maker.bad]
  rcases h k t with h1|h1
  ·rw[h1];exact bad_3 h l _
  ·rw[h1];exact .inr rfl
theorem or_3 {a b:Option Nat} (ha:a=none∨a=some 3) (hb:b=none∨b=some 3):a.or b=none∨a.or b=some 3:=by
 rcases ha with rfl|rfl
 ·exact hb
 ·exact .inr rfl
theorem errR_3 (l:List T5):errR l=none∨errR l=some 3:=by
 unfold errR errB riseE
 refine or_3 (or_3 (or_3 (or_3 ?_ ?_) ?_) ?_) ?_
 ·exact bad_3 (fun k t=>by unfold linkM;dsimp only;split;exact .inl rfl;exact .inr rfl) l ()
 ·exact bad_3 (fun k t=>by unfold riseM;dsimp only;split;exact .inr rfl;exact .inl rfl) _ _
 ·exact bad_3 (fun k t=>by unfold riseM;dsimp only;split;exact .inr rfl;exact .inl rfl) _ _
 ·split;exact .inl rfl;exact .inr rfl
 ·split;exact .inr rfl;exact .inl rfl
theorem allF_mem {l:List T5} {e:T5}:e∈allF l↔∃t∈l,e=⟨t.c0,0,0,0,0⟩:=by
 unfold allF
 rw[(perm_srt _).mem_iff,List.mem_map]
 exact⟨fun ⟨t,h1,h2⟩=>⟨t,h1,h2.symm⟩,fun ⟨t,h1,h2⟩=>⟨t,h1,h2.symm⟩⟩
theorem linksF_mem {l:List T5} {z:T5}:z∈linksF l↔∃t∈l,t.c1≠-1∧z=⟨t.c1,t.c0,t.c2,0,0⟩:=by
 unfold linksF
 rw[(perm_srt _).mem_iff,linkM_mem]
theorem strict_srt {m:List T5} (h:m.Pairwise fun a c=>a.c0≠c.c0):(srt (ltO o1) false m).Pairwise fun a c=>a.c0<c.c0:=
 strict_of (srt_o1 _) (((perm_srt m).map fun t:T5=>t.c0).nodup_iff.2 (List.pairwise_map.2 h))
theorem ne_of_strict {m:List T5} (h:(srt (ltO o1) false m).Pairwise fun a c=>a.c0<c.c0):m.Pairwise fun a c=>a.c0≠c.c0:=by
 have h1:((srt (ltO o1) false m).map (·.c0)).Nodup:=List.pairwise_map.2 (h.imp fun {x y} hh=>by omega)
 exact List.pairwise_map.1 (((perm_srt m).map fun t:T5=>t.c0).nodup_iff.1 h1)
theorem PreL.all {l:List T5} (h:PreL l):(allF l).Pairwise fun a c=>a.c0<c.c0:=strict_srt (List.pairwise_map.2 (h.nd.imp fun {x y} hh=>hh))
theorem PreL.links {l:List T5} (h:PreL l):(linksF l).Pairwise fun a c=>a.c0<c.c0:=strict_srt (linkM_nd.1 h.nx)
theorem PreL.pos {l:List T5} (h:PreL l):∀e∈allF l,0≤e.c0:=fun e he=>by
 obtain⟨t,ht,rfl⟩:=allF_mem.1 he
 exact(h.el t ht).1
theorem pre_iff {l:List T5}:PreL l↔linkM.bad () l=none∧riseE (linksF l)=none∧riseE (allF l)=none:=by
 rw[linkM_bad,riseE_none,riseE_none]
 constructor
 ·intro h
  refine⟨h.el,⟨h.links,fun z hz=> ?_⟩,h.all,h.pos⟩
  obtain⟨t,ht,hn,rfl⟩:=linksF_mem.1 hz
  have:=(h.el t ht).2
  show 0≤t.c1
  omega
 ·rintro⟨h1,⟨h2,_⟩,h3,_⟩
  exact⟨h1,(List.pairwise_map.1 (ne_of_strict h3)).imp fun {x y} hh=>hh,linkM_nd.2 (ne_of_strict h2)⟩
def bothT (l:List T5) (e:T5):T5:=⟨e.c0,paT l e.c0,(match aheadT l e.c0 with|some t=>t.c2|none=> -1),0,0⟩
theorem lk_links {l:List T5} (h:PreL l) {x:Int} (hx:x≠-1):lkV (linksF l) x 1=paT l x∧lkV (linksF l) x 2=(match aheadT l x with|some t=>t.c2|none=> -1):=by
 unfold paT
 cases ha:aheadT l x with
 |none=>
  have hno:∀u∈linksF l,u.c0≠x:=fun u hu=>by
   obtain⟨t,ht,_,rfl⟩:=linksF_mem.1 hu
   exact aheadT_none hx ha t ht
  exact⟨lkV_none hno,lkV_none hno⟩
 |some t=>
  obtain⟨ht,hc,_⟩:=aheadT_of ha
  have hm:(⟨t.c1,t.c0,t.c2,0,0⟩:T5)∈linksF l:=linksF_mem.2 ⟨t,ht,by rw[hc];exact hx,rfl⟩
  exact⟨lkV_some (v:=1) h.links hm hc,lkV_some (t:=⟨t.c1,t.c0,t.c2,0,0⟩) (v:=2) h.links hm hc⟩
theorem bothF_is {l:List T5} (h:PreL l):bothF l=(allF l).map (bothT l):=by
 unfold bothF aheadF
 rw[List.map_map]
 refine List.map_congr_left fun e he=> ?_
 have hp:=h.pos e he
 obtain⟨t,ht,rfl⟩:=allF_mem.1 he
 obtain⟨h1,h2⟩:=lk_links h (x:=t.c0) (by dsimp only at hp;omega)
 show setc (setc _ 1 (lkV (linksF l) t.c0 1)) 2 (lkV (linksF l) t.c0 2)=_
 rw[h1,h2]
 rfl
theorem paT_pos {l:List T5} (h:PreL l) {x:Int}:paT l x= -1↔aheadT l x=none:=by
 unfold paT
 cases ha:aheadT l x with
 |none=>simp
 |some t=>
  have:=(h.el t (aheadT_of ha).1).1
  simp only[reduceCtorEq,iff_false]
  omega
theorem waT_in {l:List T5} (hok:∀t∈l,okT 3 t) (x:Int):inI64 (waT l x):=by
 unfold waT
 cases ha:aheadT l x with
 |none=>exact in_0
 |some t=>exact(okT_cols (hok t (aheadT_of ha).1)).2.2.1
theorem begF_is {l:List T5} (h:PreL l) (hok:∀t∈l,okT 3 t):begF l=(allF l).map (stT (paT l) fun x=>IntKind.wrap .i64 (waT l x)):=by
 unfold begF
 rw[bothF_is h,List.map_map]
 refine List.map_congr_left fun e _=> ?_
 have hw:=waT_in hok e.c0
 show fndO (bothT l e)=_
 unfold stT
 dsimp only
 rw[wrap_i64 hw]
 unfold fndO
 have hp:=paT_pos h (x:=e.c0)
 show(if paT l e.c0= -1 then _ else _)=_
 unfold bothT waT
 cases ha:aheadT l e.c0 with
 |none=>rw[if_pos (hp.2 ha)]
 |some t=>rw[if_neg fun hc=>by rw[hp.1 hc] at ha;cases ha]
theorem fnd_cnt (b:Nat):∀(ts:List T5) (k:Nat),k+ts.length<9000000000000000000→(fndM b).st (k:Int) ts=((k+ts.countP fun t=>decide (t.c1≠-1):Nat):Int)
 |[],k,_=>by simp[Maker.st]
 |t::ts,k,h=>by
  rw[List.length_cons] at h
  simp only[Maker.st,List.countP_cons]
  by_cases h1:t.c1= -1
  ·rw[show(fndM b).next (k:Int) t=k from if_pos h1,fnd_cnt b ts k (by omega)]
   simp[h1]
  ·have e:IntKind.wrap .i64 ((k:Int)+1)=((k+1:Nat):Int):=by rw[wrap_i64 ⟨by omega,by omega⟩];omega
   rw[show(fndM b).next (k:Int) t=IntKind.wrap .i64 ((k:Int)+1) from if_neg h1,e,fnd_cnt b ts (k+1) (by omega)]
   rw[if_pos (decide_eq_true h1)]
   congr 1
   omega
theorem cntB_is {l:List T5} (h:PreL l) (hl:l.length<1000000):cntB l=(((allF l).filter fun e=>(aheadT l e.c0).isSome).length:Int):=by
 unfold cntB
 have h1:=fnd_cnt 0 (bothF l) 0 (by rw[bothF_len];omega)
 rw[Nat.zero_add] at h1
 rw[show((0:Nat):Int)=0 from rfl] at h1
 rw[h1,bothF_is h,List.countP_map,List.countP_eq_length_filter]
 congr 2
 refine List.filter_congr fun e _=> ?_
 show decide (paT l e.c0≠-1)=_
 have hp:=paT_pos h (x:=e.c0)
 cases ha:aheadT l e.c0 with
 |none=>simp[hp.2 ha]
 |some t=>exact decide_eq_true fun hc=>by rw[hp.1 hc] at ha;cases ha
theorem errB_iff {l:List T5} (hl:l.length<1000000):errB l=none↔OkL l:=by
 have hcnt:PreL l→(cntB l=((linksF l).length:Int)↔∀t∈l,t.c1≠-1→∃u∈l,u.c0=t.c1):=by
  intro h
  rw[cntB_is h hl]
  have hA:(((allF l).filter fun e=>(aheadT l e.c0).isSome).map (·.c0)).Nodup:=List.pairwise_map.2 ((h.all.sublist List.filter_sublist).imp fun {x y} hh=>by omega)
  have hN:((linksF l).map (·.c0)).Nodup:=List.pairwise_map.2 (h.links.imp fun {x y} hh=>by omega)
  have hAm:∀x,x∈((allF l).filter fun e=>(aheadT l e.c0).isSome).map (·.c0)→∃t∈l,t.c1=x∧x≠-1∧∃u∈l,u.c0=x:=by
   intro x hx
   obtain⟨e,he,rfl⟩:=List.mem_map.1 hx
   obtain⟨h1,h2⟩:=List.mem_filter.1 he
   obtain⟨t,ht⟩:=Option.isSome_iff_exists.1 h2
   obtain⟨h3,h4,h5⟩:=aheadT_of ht
   obtain⟨u,hu,h6⟩:=allF_mem.1 h1
   exact⟨t,h3,h4,h5,u,hu,by rw[h6]⟩
  have hNm:∀x,x∈(linksF l).map (·.c0)↔∃t∈l,t.c1=x∧x≠-1:=by
   intro x
   rw[List.mem_map]
   constructor
   ·rintro⟨z,hz,rfl⟩
    obtain⟨t,ht,hn,rfl⟩:=linksF_mem.1 hz
    exact⟨t,ht,rfl,hn⟩
   ·rintro⟨t,ht,rfl,hn⟩
    exact⟨_,linksF_mem.2 ⟨t,ht,hn,rfl⟩,rfl⟩
  have hAN:((allF l).filter fun e=>(aheadT l e.c0).isSome).map (·.c0)⊆(linksF l).map (·.c0):=fun x hx=>by
   obtain⟨t,ht,h1,h2,_⟩:=hAm x hx
   exact(hNm x).2 ⟨t,ht,h1,h2⟩
  constructor
  ·intro hc t ht hn
   by_cases hin:t.c1∈((allF l).filter fun e=>(aheadT l e.c0).isSome).map (·.c0)
   ·obtain⟨_,_,_,_,h6⟩:=hAm _ hin
    exact h6
   ·have h1:(t.c1::((allF l).filter fun e=>(aheadT l e.c0).isSome).map (·.c0)).Nodup:=List.nodup_cons.2 ⟨hin,hA⟩
    have h2:=h1.length_le_of_subset (l₂:=(linksF l).map (·.c0)) (fun x hx=>by
     rcases List.mem_cons.1 hx with rfl|hx
     ·exact(hNm _).2 ⟨t,ht,rfl,hn⟩
     ·exact hAN hx)
    simp only[List.length_cons,List.length_map] at h2
    omega
  ·intro him
   have h1:=hA.length_le_of_subset hAN
   have h2:=hN.length_le_of_subset (l₂:=((allF l).filter fun e=>(aheadT l e.c0).isSome).map (·.c0)) (fun x hx=>by
    obtain⟨t,ht,rfl,hn⟩:=(hNm x).1 hx
    obtain⟨u,hu,h3⟩:=him t ht hn
    refine List.mem_map.2 ⟨⟨u.c0,0,0,0,0⟩,List.mem_filter.2 ⟨allF_mem.2 ⟨u,hu,rfl⟩,?_⟩,h3⟩
    show(aheadT l u.c0).isSome=true
    rw[h3,aheadT_some h ht hn];rfl)
   simp only[List.length_map] at h1 h2
   omega
 constructor
 ·intro he
  obtain⟨h1,h2,h3,h4⟩:=errB_none he
  have hp:=pre_iff.2 ⟨h1,h2,h3⟩
  exact{hp with im:=(hcnt hp).1 h4}
 ·intro h
  obtain⟨h1,h2,h3⟩:=pre_iff.1 h.toPreL
  unfold errB
  rw[h1,h2,h3,if_pos ((hcnt h.toPreL).2 h.im)]
  rfl
def Ends (l:List T5):Prop:=∀t∈l,∃k,itA (paT l) k t.c0= -1
def rkV (l:List T5) (x:Int):Int:=IntKind.wrap .i64 (smA (paT l) (waT l) (2^bits l.length) x)
theorem paT_end (l:List T5):paT l (-1)= -1:=by unfold paT aheadT;simp
theorem waT_end (l:List T5):waT l (-1)=0:=by unfold waT aheadT;simp
theorem paT_in {l:List T5} (x:Int):paT l x= -1∨∃u∈l,u.c0=paT l x:=by
 unfold paT
 cases ha:aheadT l x with
 |none=>exact .inl rfl
 |some t=>exact .inr ⟨t,(aheadT_of ha).1,rfl⟩
theorem itA_in {l:List T5}:∀(k:Nat) {x:Int},(x= -1∨∃u∈l,u.c0=x)→itA (paT l) k x= -1∨∃u∈l,u.c0=itA (paT l) k x
 |0,_,h=>h
 |k+1,x,_=>itA_in k (paT_in x)
theorem sJ_is {l:List T5} (h:PreL l) (hok:∀t∈l,okT 3 t) (j:Nat):sJ l j=(allF l).map (stT (itA (paT l) (2^j)) fun x=>IntKind.wrap .i64 (smA (paT l) (waT l) (2^j) x)):=
 sJ_it h.all h.pos (fun e _=>(paT_in e.c0).imp id fun ⟨u,hu,he⟩=>⟨⟨u.c0,0,0,0,0⟩,allF_mem.2 ⟨u,hu,rfl⟩,he⟩) (paT_end l) (waT_end l) (begF_is h hok) j
theorem open_iff {l:List T5} (h:PreL l) (hok:∀t∈l,okT 3 t) (j:Nat):openT (sJ l j)=false↔∀t∈l,itA (paT l) (2^j) t.c0= -1:=by
 rw[sJ_is h hok j]
 unfold openT
 rw[List.any_eq_false]
 constructor
 ·intro h1 t ht
  have h2:=h1 _ (List.mem_map_of_mem (f:=stT (itA (paT l) (2^j)) fun x=>IntKind.wrap .i64 (smA (paT l) (waT l) (2^j) x)) (allF_mem.2 ⟨t,ht,rfl⟩))
  by_cases h3:itA (paT l) (2^j) t.c0= -1
  ·exact h3
  ·exact absurd (decide_eq_true h3) h2
 ·intro h1 z hz
  obtain⟨e,he,rfl⟩:=List.mem_map.1 hz
  obtain⟨t,ht,rfl⟩:=allF_mem.1 he
  have:=h1 t ht
  show¬decide (itA (paT l) (2^j) t.c0≠-1)=true
  simp[this]
theorem ends_len {l:List T5} {x:Int} (hx:x= -1∨∃u∈l,u.c0=x):∀{k:Nat},itA (paT l) k x= -1→∃j,j≤l.length∧itA (paT l) j x= -1
 |k,hk=>by
  by_cases hle:k≤l.length
  ·exact⟨k,hle,hk⟩
  ·by_cases hex:∃j,j<k∧itA (paT l) j x= -1
   ·obtain⟨j,hj,h1⟩:=hex
    exact ends_len hx h1
   ·exfalso
    have hno:∀j,j<k→itA (paT l) j x≠-1:=fun j hj h=>hex ⟨j,hj,h⟩
    have hnd:((List.range k).map fun i=>itA (paT l) i x).Nodup:=by
     refine List.pairwise_map.2 ?_
     rw[List.pairwise_iff_getElem]
     intro i j hi hj hij he
     rw[List.length_range] at hi hj
     simp only[List.getElem_range] at he
     have h1:itA (paT l) (i+(k-j)) x= -1:=by
      rw[itA_add,he,←itA_add,show j+(k-j)=k by omega];exact hk
     exact hno (i+(k-j)) (by omega) h1
    have h2:=hnd.length_le_of_subset (l₂:=l.map fun u=>u.c0) (fun z hz=>by
     obtain⟨i,hi,rfl⟩:=List.mem_map.1 hz
     rcases itA_in (l:=l) i hx with h3|⟨u,hu,h3⟩
     ·exact absurd h3 (hno i (List.mem_range.1 hi))
     ·exact List.mem_map.2 ⟨u,hu,h3⟩)
    simp only[List.length_map,List.length_range] at h2
    omega
theorem ends_it {l:List T5} {x:Int} (hx:x= -1∨∃u∈l,u.c0=x) {k:Nat} (hk:itA (paT l) k x= -1) {n:Nat} (hn:l.length≤n):itA (paT l) n x= -1:=by
 obtain⟨j,hj,h1⟩:=ends_len hx hk
 rw[show n=j+(n-j) by omega,itA_add,h1]
 exact itA_end (paT_end l) _
theorem errR_iff {l:List T5} (hl:l.length<1000000) (hok:∀t∈l,okT 3 t):errR l=none↔OkL l∧Ends l:=by
 unfold errR
 have hb:=bits_gt l.length
 constructor
 ·intro h
  obtain⟨h1,h2⟩:=or_nil h
  have h3:=(errB_iff hl).1 h1
  refine⟨h3,fun t ht=>⟨_,(open_iff h3.toPreL hok (bits l.length)).1 ?_ t ht⟩⟩
  cases ho:openT (sJ l (bits l.length)) with
  |false=>rfl
  |true=>rw[ho] at h2;cases h2
 ·rintro⟨h1,h2⟩
  rw[(errB_iff hl).2 h1,(open_iff h1.toPreL hok (bits l.length)).2 fun t ht=>by
   obtain⟨k,hk⟩:=h2 t ht
   exact ends_it (.inr ⟨t,ht,rfl⟩) hk (Nat.le_of_lt hb)]
  rfl
theorem ranksF_is {l:List T5} (h:OkL l) (hok:∀t∈l,okT 3 t):ranksF l=(allF l).map fun e=>⟨e.c0,rkV l e.c0,0,0,0⟩:=by
 unfold ranksF
 rw[sJ_is h.toPreL hok,List.map_map]
 rfl
theorem ranksF_len {l:List T5}:(ranksF l).length=l.length:=by unfold ranksF;rw[List.length_map,sJ_len]
theorem rk_first {l:List T5} {x:Int} (ha:aheadT l x=none):rkV l x=0:=by
 unfold rkV
 have hz:∀k,smA (paT l) (waT l) k x=0:=by
  intro k
  cases k with
  |zero=>rfl
  |succ k=>
   show waT l x+smA (paT l) (waT l) k (paT l x)=0
   have h1:paT l x= -1:=by unfold paT;rw[ha]
   have h2:waT l x=0:=by unfold waT;rw[ha]
   rw[h1,h2,smA_end (paT_end l) (waT_end l)];rfl
 rw[hz];decide
theorem rk_next {l:List T5} (h:OkL l) (he:Ends l) (hok:∀t∈l,okT 3 t) {t:T5} (ht:t∈l) (hn:t.c1≠-1):rkV l t.c1=IntKind.wrap .i64 (rkV l t.c0+t.c2):=by
 unfold rkV
 obtain⟨u,hu,hux⟩:=h.im t ht hn
 have hb:=bits_gt l.length
 generalize 2^bits l.length=N at*
 have ha:=aheadT_some h.toPreL ht hn
 have hp:paT l t.c1=t.c0:=by unfold paT;rw[ha]
 have hw:waT l t.c1=t.c2:=by unfold waT;rw[ha]
 have hend:itA (paT l) N t.c1= -1:=by
  rw[←hux]
  obtain⟨k,hk⟩:=he u hu
  exact ends_it (.inr ⟨u,hu,rfl⟩) hk (Nat.le_of_lt hb)
 have h1:smA (paT l) (waT l) (N+1) t.c1=smA (paT l) (waT l) N t.c1:=by
  rw[smA_add,hend,smA_end (paT_end l) (waT_end l),Int.add_zero]
 have h2:smA (paT l) (waT l) (N+1) t.c1=t.c2+smA (paT l) (waT l) N t.c0:=by
  show waT l t.c1+smA (paT l) (waT l) N (paT l t.c1)=_
  rw[hp,hw]
 rw[←h1,h2,Int.add_comm]
 have hc:=(okT_cols (hok t ht)).2.2.1
 have h3:=wrap_sum (smA (paT l) (waT l) N t.c0) t.c2
 rw[wrap_i64 hc] at h3
 exact h3.symm
end Go.Proofs.YtjoicjgfgkpdjaaGreat
namespace Go.Proofs.YtjoicjgfgkpdjaaGreat
open Go.SL Go.Tup
theorem vpos1 {E sz:Nat} {p:Option Addr} {m cap:Nat} {xs:List Value} {c:Chunk} (h:Vec E sz p m cap xs c) (hm:0<m):∃b rest,p=some ⟨b,0,none⟩∧c=[(b,row (xs++rest) E)]∧cap*sz≤xs.length+rest.length∧m≤cap∧cap≤maxLen:=by
 rcases h.2 with⟨_,e,_⟩|hh
 ·omega
 ·exact hh
theorem t_cut (A B:List T5) (t:T5) (r:List Value) {k:Nat} (hk:A.length=k):((flat (A++t::B)++r).drop (k*5)).take 5=[.int .i64 t.c0,.int .i64 t.c1,.int .i64 t.c2,.int .i64 t.c3,.int .i64 t.c4]:=by
 rw[flat_fm]
 exact fm_cutR (k:=5) tcells_len (l:=A++t::B) (i:=k) (a:=t) (by subst hk;simp) r
theorem t_set (A B:List T5) (t u:T5) (r:List Value) {k:Nat} (hk:A.length=k):setL (flat (A++t::B)++r) (k*5) [.int .i64 u.c0,.int .i64 u.c1,.int .i64 u.c2,.int .i64 u.c3,.int .i64 u.c4]=flat (A++u::B)++r:=by
 rw[flat_fm,flat_fm]
 have h:=fm_set (k:=5) tcells_len (A++t::B) k u r (by subst hk;simp)
 have h2:(A++t::B).set k u=A++u::B:=by subst hk;simp
 rw[h2] at h
 exact h
theorem flat_len5 (a:List T5):(flat a).length=a.length*5:=by rw[flat_fm,fm_len tcells_len]
end Go.Proofs.YtjoicjgfgkpdjaaGreat
