/-
  Parts of the proof, put together (12). No condition.
-/
import Derived.Test.YtammjnjpheobaaaGreatL11
set_option linter.unusedVariables false
set_option linter.unusedSimpArgs false
set_option linter.unnecessarySimpa false
set_option maxHeartbeats 4000000
open Bool renaming false_eq_true→CN
open Go.IntKind renaming wrap→AH
open Go.Proofs.Tryz renaming prog→AC
open List renaming cons_append→AA,nil_append→AB,getElem?_eq_getElem→AE,length_append→AF,mem_cons_self→AI,mem_cons_of_mem→AJ,getElem?_eq_some_iff→AK,length_cons→AL,mem_cons→AM,mem_append→AO,append_nil→AQ,mem_map→AT,length_nil→AU,length_map→AX,mem_of_getElem?→AZ,map_cons→A0,take_of_length_le→A4,flatMap_cons→A6,getElem?_append_right→BB,range→BE,length_take→BK,drop_eq_getElem_cons→BM,take_add_one→BN,getElem?_map→BP,pairwise_iff_getElem→BQ,getElem?_drop→BS,take_append_drop→BT,getElem?_take→BV,replicate→BW,flatMap_append→B9,pairwise_append→CG,not_mem_nil→CJ,length_singleton→CM,getElem_of_mem→CQ,getElem?_set_ne→CR,getElem?_set_self→DG,length_set→DJ,set_append_right→DW
open List.Pairwise renaming nil→DU
open Nat renaming reduceAdd→AD,le_refl→AG,zero_le→AS,mul_le_mul_right→A5,succ_mul→BD,mul_le_mul_left→BU,add_zero→B6,lt_trichotomy→CV,sub_self→DF,not_lt_zero→D2
open Option.some renaming injEq→A9
namespace Go.Proofs.YtammjnjpheobaaaGreat
open Go.SL Go.Spc Go.Tup Go.Srt
theorem bBq {p:Jp} {B m k a:Nat} (hR:Rm p B m k a) {er:Option Nat} {Gf:List (Fl×List T5)} (hlen:Gf.length≤k) (hblk:∀x∈Gf,x.1.blocks≤B) (pf vf:Fl) (vts qts:List T5) (hsp:(pf,aAx qts)∈Gf∨In0 p (pf,aAx qts)) (hsv:(vf,vts)∈Gf∨In0 p (vf,vts)) (hwv:vf.width=1) (hcv:vf.count≤500) (hcp:pf.count≤500) (hpp:∀x∈aAx qts,okP vts.length x)
  (c:Nat) (hc:c≤1000) (hc2:pf.count≤2*c) (hc1:vf.count≤2*c) (hk:c*(Gf.length+p.L0.length+3)+(Gf.length*B+aBb p.L0+2*c)≤p.n) (x y:Nat) (hx:x≤900000000) (b8 b10 b4:Nat):
  aFy p ⟨0,er,Gf,x,y⟩ 117 [pv b8,pv b10,pv b4] (aFz p.bj b8 b10 b4 pf vf) bCl 20000 none ((aAx qts).map (aCt vts)) fun f e Hx'=>Hx'=aFz p.bj b8 b10 b4 pf vf∧FB pf.count c 2 pf.count e f:=by
 intro W cd ca cs held ph capj hW hJW
 have hll:=hJW.lives rfl
 dsimp only at hll
 have hsum:=aQt (B:=B) (l:=Gf.map (·.1.blocks)) (by intro y hy;obtain⟨x,hx,rfl⟩:=AT.1 hy;exact hblk x hx)
 rw[AX] at hsum
 have hus:=hJW.used hR.ok hW
 have hja:=hJW.acts
 dsimp only at hja
 have hs8:=hR.ok.size.1
 have hsz:=hJW.size
 have hF:=bJj p p.bw p.bd p.ba p.bs p.bj rfl W cd ca cs hW pf vf vts qts (hJW.file (hsp.imp (fun h=>(hJW.ok rfl).1.mem_iff.2 h) id)) (hJW.file (hsv.imp (fun h=>(hJW.ok rfl).1.mem_iff.2 h) id)) hwv hcv hcp hpp c
  (by rw[hsz];exact nbS hs8 (by omega) (by omega) (.inr ⟨by omega,hc2⟩)) (by rw[hsz];exact nbS hs8 (by omega) (by omega) (.inr ⟨by omega,hc1⟩)) hc (by
   rw[hJW.n]
   have h1:c*(W.live.length+3)≤c*(Gf.length+p.L0.length+3):=BU _ (by omega)
   omega) (by omega) (by omega) ph held.length capj
 have hflv:∀f:Fl,flv f= .agg #[.int .i64 (f.first:Int),.int .i64 (f.blocks:Int),.int .i64 (f.width:Int),.int .i64 (f.count:Int)]:=fun _=>rfl
 have hfl4:∀f:Fl,fl4 f=[.int .i64 (f.first:Int),.int .i64 (f.blocks:Int),.int .i64 (f.width:Int),.int .i64 (f.count:Int)]:=fun _=>rfl
 have hnb:aAb W.δ.size 2 pf.count≤c:=by rw[hsz];exact nbS hs8 (by omega) (by omega) (.inr ⟨by omega,hc2⟩)
 rw[hflv pf,hflv vf] at hF
 unfold aFa aFz at*
 rw[hfl4 pf,hfl4 vf]
 refine Ct.intro Tryz.func117 rfl Tryz.ntmps117 (nle rfl) fun w0=> ?_;dsimp only[aAa,AD]
 repeat(refine st ?_;intros)
 refine R.callX (hct:=hF) (h:= ?_)
 rintro _ _ ⟨f,e,cd',ca',cs',W',rfl,rfl,hW',hS,h1,h2,h3⟩
 dsimp only[AA,AB]
 refine nx ?_
 rw[hflv]
 repeat(refine st ?_;intros)
 (refine Dn.post (Hr:=[[(p.bj,row [pv p.bw,.int .i64 0,.slice ph held.length capj] 95)],aAh p.bw p.bd p.ba p.bs,cd',ca',cs',[(b8,row [pv p.bj] 82)],[(b10,row [.int .i64 (pf.first:Int),.int .i64 (pf.blocks:Int),.int .i64 (pf.width:Int),.int .i64 (pf.count:Int)] 27)],[(b4,row [.int .i64 (vf.first:Int),.int .i64 (vf.blocks:Int),.int .i64 (vf.width:Int),.int .i64 (vf.count:Int)] 27)]]) Tryz.results117 (hR:= ?_);exact⟨f,e,cd',ca',cs',W',_,rfl,rfl,hW',hS,rfl,h1,Nat.le_trans h2 hnb,h3⟩)
abbrev aEp:Nat:=6180000
theorem aZz (bw bd ba bs:Nat) (W:Wk) (cd ca cs:aAc) (h:Wc bd ba bs W cd ca cs) (vf qf:Fl) (vts qts:List T5) (hv:aBx W (vf,vts)) (hq:aBx W (qf,qts)) (hwv:vf.width=1) (hwq:qf.width=3)
  (c m:Nat) (hcq:qf.count≤c) (hcv:vf.count≤2*c) (hc:c≤250) (hT:aEi c≤m) (hm3:3*c≤m) (hroom:m*(W.live.length+3)+(2*c+aBb W.live)≤W.σ.n) (hac:W.δ.acts≤400000000):
  Ct AC 65 [pv bw,flv vf,flv qf] [aAh bw bd ba bs,cd,ca,cs] (bKw bw bd ba bs W cd cs aEp aEp (aSk vts.length qts) (aBn vts qts) 2):=by
 have hflv:∀f:Fl,flv f= .agg #[.int .i64 (f.first:Int),.int .i64 (f.blocks:Int),.int .i64 (f.width:Int),.int .i64 (f.count:Int)]:=fun _=>rfl
 have hfl4:∀f:Fl,fl4 f=[.int .i64 (f.first:Int),.int .i64 (f.blocks:Int),.int .i64 (f.width:Int),.int .i64 (f.count:Int)]:=fun _=>rfl
 have hz:flv ⟨0,0,0,0⟩= .agg #[.int .i64 0,.int .i64 0,.int .i64 0,.int .i64 0]:=rfl
 have hto1:tv o1= .agg #[.int .i64 1,.int .i64 0,.int .i64 0,.int .i64 0,.int .i64 0]:=rfl
 have hto12:tv o12= .agg #[.int .i64 1,.int .i64 2,.int .i64 0,.int .i64 0,.int .i64 0]:=rfl
 have hB:=fun b=>aZn bw bd ba bs W cd ca cs h [(vf,vts),(qf,qts)] (by simp only[AM,CJ,or_false];rintro x (rfl|rfl);exact hv;exact hq) (by simp) (some ⟨b,0,none⟩) 2 _ (vec2 b vf qf)
 simp only[hfl4,AA,AB] at hB
 rw[hflv,hflv]
 refine Ct.intro Tryz.func65 rfl Tryz.ntmps65 (nle rfl) fun w0=> ?_;dsimp only[aAa,AD]
 repeat(refine st ?_;intros)
 refine R.call (hct:=hB _) (h:= ?_)
 rintro _ _ ⟨ca1,α1,hW1,hg1,hr1,⟨hroom8,bj,rfl,rfl⟩|⟨hsmall,rfl,rfl⟩⟩
 rotate_left
 ·dsimp only[AA,AB]
  repeat(refine st ?_;intros)
  (refine Dn.post (Hr:=[aAh bw bd ba bs,cd,ca1,cs]) Tryz.results65 (hR:= ?_);exact .inr ⟨hsmall,rfl,ca1,α1,rfl,hW1,hg1,hr1⟩)
 dsimp only[AA,AB]
 obtain⟨hp,hJ⟩:=aVb (bj:=bj) h hW1 hg1 hr1 hroom8
 have hv0:In0 (aLx bw bd ba bs bj W) (vf,vts):=aIn hv
 have hq0:In0 (aLx bw bd ba bs bj W) (qf,qts):=aIn hq
 have hbj:(aLx bw bd ba bs bj W).bj=bj:=rfl
 have hL0:(aLx bw bd ba bs bj W).L0=W.live:=rfl
 have hn0:(aLx bw bd ba bs bj W).n=W.σ.n:=rfl
 obtain⟨hvl,hvfit,hvb,_,_⟩:=aGl hv0
 obtain⟨hql,hqfit,hqb,_,_⟩:=aGl hq0
 dsimp only at hvl hvfit hvb hql hqfit hqb
 have hR:Rm (aLx bw bd ba bs bj W) c m 2 W.δ.acts:=⟨hp,by omega,by omega,by
  rw[hL0,hn0]
  have e:2+W.live.length+1=W.live.length+3:=by omega
  rw[e];exact hroom,by omega,by omega⟩
 have hJ0:aHf (aLx bw bd ba bs bj W) c 2 W.δ.acts 0 0 none [] _:=⟨hJ.weak rfl rfl rfl (AG _) (AG _),AS _,by simp⟩
 have hH:=bFu hR hJ0 qf qts hq0 hwq (by omega) vf.count (by omega) c hcq (AG _) hT (by simp) (by omega)
 rw[hflv,hbj] at hH
 have hH:=Ct.convP (H:=[aFa bj bw 0 none 0 0,aAh bw bd ba bs,cd,ca1,cs]) hH (aVd (p:=aLx bw bd ba bs bj W) (e:=0) (cd:=cd) (ca:=ca1) (cs:=cs)) (fun v H' hh=>⟨H',hh,.refl _⟩)
 repeat(refine st ?_;intros)
 refine R.callX (hct:=hH) (h:= ?_)
 rintro _ _ ⟨f1,C1,e1,rfl,rfl,hJ1,hF1,hE1⟩
 dsimp only[AA,AB]
 refine nx ?_
 try rw[hflv]
 have hok1:e1=0→bHn vf.count qts:=fun h0=>by
  have h1:=hJ1.er0 h0
  unfold aSk at h1
  split at h1
  ·assumption
  ·cases h1
 have hF1c:=hF1.cnt
 have hF1b:=hF1.blk
 have hRn:=fun b8 b10 b4=>SRun hR hJ1 117 inferInstance [pv b8,pv b10,pv b4] (aFz bj b8 b10 b4 f1 vf) bCl 20000 200 none ((aAx qts).map (aCt vts)) (by decide) (by decide) (b:=2*qf.count) (c:=c) (w:=2) (n:=2*qf.count) (fun he x y hx=>by
   subst he
   have hq1:=hok1 rfl
   have hc1:=(hF1.ok rfl).2
   refine(bBq hR hJ1.len hJ1.blk f1 vf vts qts (.inl AI) (.inr hv0) hwv (by omega) (by omega) (fun x hx=>by
    obtain⟨q,hm,hh⟩:=aJg.1 hx
    rw[hvl]
    exact bJf (hq1.1 q hm) x hh) c (by omega) (by omega) (by omega) (by
     rw[hL0,hn0]
     have e1:c*([(f1,aAx qts)].length+W.live.length+3)=c*W.live.length+4*c:=by simp only[AL,AU];rw[Nat.mul_add,Nat.mul_add];omega
     have e2:3*c*(W.live.length+3)≤m*(W.live.length+3):=A5 _ hm3
     have e3:3*c*(W.live.length+3)=3*(c*W.live.length)+9*c:=by rw[Nat.mul_add,Nat.mul_assoc];omega
     rw[e1]
     simp only[AL,AU]
     omega) x y (by omega) b8 b10 b4).mono ?_
   rintro f e Hx' ⟨a1,a2⟩
   rw[hc1] at a2
   exact⟨a1,a2⟩) (AG _) (by simp)
 simp only[aFz,hfl4,hbj,aNf] at hRn
 repeat(refine st ?_;intros)
 repeat(refine st ?_;intros)
 refine R.callX (hct:=hRn _ _ _) (h:= ?_)
 rintro _ _ ⟨f2,C2,e2,rfl,rfl,hJ2,hF2,hE2⟩
 dsimp only[AA,AB]
 refine nx ?_
 try rw[hflv]
 have hS3:=aXo hR hJ2 f2 _ _ o12 rfl false hF2 .here (by omega) (AG _) hT (by omega)
 rw[hflv,hbj,hto12] at hS3
 repeat(refine st ?_;intros)
 refine R.callX (hct:=hS3) (h:= ?_)
 rintro _ _ ⟨f3,C3,e3,rfl,rfl,hJ3,hF3,hE3⟩
 dsimp only[AA,AB]
 refine nx ?_
 try rw[hflv]
 have hS4:=aXo hR hJ3 f3 _ _ o1 rfl true hF3 .here (by omega) (AG _) hT (by omega)
 rw[hflv,hbj,hto1,show srt (ltO o1) true (srt (ltO o12) false ((aAx qts).map (aCt vts)))=aBn vts qts from rfl] at hS4
 repeat(refine st ?_;intros)
 refine R.callX (hct:=hS4) (h:= ?_)
 rintro _ _ ⟨f4,C4,e4,rfl,rfl,hJ4,hF4,hE4⟩
 dsimp only[AA,AB]
 refine nx ?_
 try rw[hflv]
 have hRs:=fun b=>bFj hR hJ4 f4 b
 simp only[hfl4,hbj] at hRs
 repeat(refine st ?_;intros)
 refine R.call (hct:=hRs _) (h:= ?_)
 rintro _ _ ⟨cd5,ca5,cs5,W5,rfl,rfl,hW5,hD⟩
 try dsimp only[AA,AB]
 have hSt:=aMm (A:=aEp) (T:=aEp) hD rfl (by dsimp only;unfold aEp;omega) (by dsimp only;unfold aEp;omega)
 dsimp only at hSt
 rw[←hvl] at hSt
 by_cases he:e4=0
 ·subst he
  rw[if_pos rfl] at hSt
  repeat(refine st ?_;intros)
  (refine Dn.post (Hr:=[aAh bw bd ba bs,cd5,ca5,cs5]) Tryz.results65 (hR:= ?_);exact .inl ⟨hroom8,f4,0,cd5,ca5,cs5,W5,rfl,rfl,hW5,hSt,fun _=>(hF4.ok rfl).1⟩)
 ·rw[if_neg he] at hSt
  repeat(refine st ?_;intros)
  (refine Dn.post (Hr:=[aAh bw bd ba bs,cd5,ca5,cs5]) Tryz.results65 (hR:= ?_);exact .inl ⟨hroom8,⟨0,0,0,0⟩,e4,cd5,ca5,cs5,W5,rfl,rfl,hW5,hSt,fun h=>absurd h he⟩)
theorem bFy {vts qts:List T5} (h:∀t∈vts,aBa t.c0) (hq:∀t∈qts,aBa t.c0):∀t∈aBn vts qts,okT 2 t:=by
 intro t ht
 unfold aBn at ht
 obtain⟨q,hm,rfl|rfl⟩:=aGa.1 (aGk (aGk ht))
 ·exact bBm (hq q hm) (aGy h _ _)
 ·exact bBm (hq q hm) (aGy h _ _)
theorem bFz (vts qts:List T5):(aBn vts qts).length≤2*qts.length:=by
 have h1:=aXj (lt:=ltO o1) (once:=true) (srt (ltO o12) false ((aAx qts).map (aCt vts)))
 have h2:=(aEj (lt:=ltO o12) ((aAx qts).map (aCt vts))).length_eq
 have h3:=aQv qts
 rw[AX] at h2
 unfold aBn;omega
theorem aXv {p:Jp} {B m k a:Nat} (hR:Rm p B m k a) {er:Option Nat} {Gf:List (Fl×List T5)} (hlen:Gf.length≤k) (hblk:∀x∈Gf,x.1.blocks≤B) (vf qf:Fl) (vts qts:List T5) (hv:(vf,vts)∈Gf) (hq:(qf,qts)∈Gf) (hwv:vf.width=1) (hwq:qf.width=3)
  (c m2:Nat) (hcq:qf.count≤c) (hcv:vf.count≤2*c) (hc:c≤250) (hT:aEi c≤m2) (hm3:3*c≤m2) (hroom:m2*(k+p.L0.length+3)+(2*c+(k*B+aBb p.L0))≤p.n) (x y:Nat) (hx:x≤390000000) (b8 b4 b5:Nat):
  aFy p ⟨0,er,Gf,x,y⟩ 64 [pv b8,pv b4,pv b5] (aFz p.bj b8 b4 b5 vf qf) aEp aEp (aSk vts.length qts) (aBn vts qts) fun g e Hx'=>Hx'=aFz p.bj b8 b4 b5 vf qf∧(e=0→g.width=2∧g.count=(aBn vts qts).length)∧g.count≤(aBn vts qts).length∧g.blocks≤(g.count+1)/2:=by
 intro W cd ca cs held ph capj hW hJW
 obtain⟨Lv,hfo,hsub⟩:=hJW.file (.inl ((hJW.ok rfl).1.mem_iff.2 hv))
 obtain⟨Lq,hqo,hsuq⟩:=hJW.file (.inl ((hJW.ok rfl).1.mem_iff.2 hq))
 have hll:=hJW.lives rfl
 dsimp only at hll
 have hsum:=aQt (B:=B) (l:=Gf.map (·.1.blocks)) (by intro y hy;obtain⟨x,hx,rfl⟩:=AT.1 hy;exact hblk x hx)
 rw[AX] at hsum
 have hus:=hJW.used hR.ok hW
 have hja:=hJW.acts
 dsimp only at hja
 have hGB:Gf.length*B≤k*B:=A5 _ hlen
 have hml:m2*(W.live.length+3)≤m2*(k+p.L0.length+3):=BU _ (by omega)
 have hn0:=hJW.n
 have hRk:=aZz p.bw p.bd p.ba p.bs W cd ca cs hW vf qf vts qts ⟨Lv,hfo,hsub⟩ ⟨Lq,hqo,hsuq⟩ hwv hwq c m2 hcq hcv hc hT hm3 (by rw[hn0];omega) (by omega)
 have hflv:∀f:Fl,flv f= .agg #[.int .i64 (f.first:Int),.int .i64 (f.blocks:Int),.int .i64 (f.width:Int),.int .i64 (f.count:Int)]:=fun _=>rfl
 have hfl4:∀f:Fl,fl4 f=[.int .i64 (f.first:Int),.int .i64 (f.blocks:Int),.int .i64 (f.width:Int),.int .i64 (f.count:Int)]:=fun _=>rfl
 rw[hflv,hflv] at hRk
 unfold aFa aFz
 rw[hfl4,hfl4]
 refine Ct.intro Tryz.func64 rfl Tryz.ntmps64 (nle rfl) fun w0=> ?_;dsimp only[aAa,AD]
 repeat(first|(refine st ?_;intros)|refine G.draw [] (h:= ?_))
 refine R.callX (hct:=hRk) (h:= ?_)
 rintro _ _ (⟨_,g,e,cd3,ca3,cs3,W3,rfl,rfl,hW3,hS3,hw3⟩|⟨hsm,_⟩)
 rotate_left
 ·exact absurd hus (by omega)
 dsimp only[AA,AB]
 rw[hflv]
 refine nx ?_
 repeat(first|(refine st ?_;intros)|refine G.draw [] (h:= ?_))
 have hg:(e=0→g.width=2∧g.count=(aBn vts qts).length)∧g.count≤(aBn vts qts).length∧g.blocks≤(g.count+1)/2:=by
  rcases hS3.res with⟨he,_,_,hfo3⟩|⟨he,rfl,_⟩
  ·have h1:=hfo3.len
   have h2:=hfo3.blk
   have h5:aAb W.δ.size g.width g.count≤(g.count+1)/2:=by rw[hw3 he];exact nbS hW.dev.num.1.1 (by omega) (by omega) (.inr ⟨by omega,by omega⟩)
   exact⟨fun h=>⟨hw3 h,h1.symm⟩,by omega,by omega⟩
  ·exact⟨fun h=>absurd h he,AS _,AS _⟩
 have hS4:aDp p W W3 aEp aEp (aSk vts.length qts) (aBn vts qts) g e:=⟨hS3.gs,hS3.room,hS3.size,hS3.n,hS3.acts,hS3.big,hS3.fault,hS3.keep,hS3.res⟩
 (refine Dn.post (Hr:=[[(p.bj,row [pv p.bw,.int .i64 0,.slice ph held.length capj] 95)],aAh p.bw p.bd p.ba p.bs,cd3,ca3,cs3,[(b8,row [pv p.bj] 82)],[(b4,row [.int .i64 (vf.first:Int),.int .i64 (vf.blocks:Int),.int .i64 (vf.width:Int),.int .i64 (vf.count:Int)] 27)],[(b5,row [.int .i64 (qf.first:Int),.int .i64 (qf.blocks:Int),.int .i64 (qf.width:Int),.int .i64 (qf.count:Int)] 27)]]) Tryz.results64 (hR:= ?_);exact⟨g,e,cd3,ca3,cs3,W3,_,rfl,rfl,hW3,hS4,rfl,hg⟩)
theorem aXw {p:Jp} {B m k a:Nat} (hR:Rm p B m k a) {er:Option Nat} {Gf:List (Fl×List T5)} (hlen:Gf.length≤k) (hblk:∀x∈Gf,x.1.blocks≤B) (vf qf:Fl) (vts qts:List T5) (hv:(vf,vts)∈Gf) (hq:(qf,qts)∈Gf) (hwv:vf.width=1) (hwq:qf.width=3)
  (c m2:Nat) (hcq:qf.count≤c) (hcv:vf.count≤2*c) (hc:c≤250) (hT:aEi c≤m2) (hm3:3*c≤m2) (hroom:m2*(k+p.L0.length+3)+(2*c+(k*B+aBb p.L0))≤p.n) (x y:Nat) (hx:x≤390000000) (b8 b4 b5:Nat):
  aFy p ⟨0,er,Gf,x,y⟩ 66 [pv b8,pv b4,pv b5] (aFz p.bj b8 b4 b5 vf qf) aEp aEp (aSk vts.length qts) (aBn vts qts) fun g e Hx'=>Hx'=aFz p.bj b8 b4 b5 vf qf∧(e=0→g.width=2∧g.count=(aBn vts qts).length)∧g.count≤(aBn vts qts).length∧g.blocks≤(g.count+1)/2:=by
 intro W cd ca cs held ph capj hW hJW
 obtain⟨Lv,hfo,hsub⟩:=hJW.file (.inl ((hJW.ok rfl).1.mem_iff.2 hv))
 obtain⟨Lq,hqo,hsuq⟩:=hJW.file (.inl ((hJW.ok rfl).1.mem_iff.2 hq))
 have hll:=hJW.lives rfl
 dsimp only at hll
 have hsum:=aQt (B:=B) (l:=Gf.map (·.1.blocks)) (by intro y hy;obtain⟨x,hx,rfl⟩:=AT.1 hy;exact hblk x hx)
 rw[AX] at hsum
 have hus:=hJW.used hR.ok hW
 have hja:=hJW.acts
 dsimp only at hja
 have hGB:Gf.length*B≤k*B:=A5 _ hlen
 have hml:m2*(W.live.length+3)≤m2*(k+p.L0.length+3):=BU _ (by omega)
 have hn0:=hJW.n
 have hRk:=aZz p.bw p.bd p.ba p.bs W cd ca cs hW vf qf vts qts ⟨Lv,hfo,hsub⟩ ⟨Lq,hqo,hsuq⟩ hwv hwq c m2 hcq hcv hc hT hm3 (by rw[hn0];omega) (by omega)
 have hflv:∀f:Fl,flv f= .agg #[.int .i64 (f.first:Int),.int .i64 (f.blocks:Int),.int .i64 (f.width:Int),.int .i64 (f.count:Int)]:=fun _=>rfl
 have hfl4:∀f:Fl,fl4 f=[.int .i64 (f.first:Int),.int .i64 (f.blocks:Int),.int .i64 (f.width:Int),.int .i64 (f.count:Int)]:=fun _=>rfl
 rw[hflv,hflv] at hRk
 unfold aFa aFz
 rw[hfl4,hfl4]
 refine Ct.intro Tryz.func66 rfl Tryz.ntmps66 (nle rfl) fun w0=> ?_;dsimp only[aAa,AD]
 repeat(first|(refine st ?_;intros)|refine G.draw [] (h:= ?_))
 refine R.callX (hct:=hRk) (h:= ?_)
 rintro _ _ (⟨_,g,e,cd3,ca3,cs3,W3,rfl,rfl,hW3,hS3,hw3⟩|⟨hsm,_⟩)
 rotate_left
 ·exact absurd hus (by omega)
 dsimp only[AA,AB]
 rw[hflv]
 refine nx ?_
 repeat(first|(refine st ?_;intros)|refine G.draw [] (h:= ?_))
 have hg:(e=0→g.width=2∧g.count=(aBn vts qts).length)∧g.count≤(aBn vts qts).length∧g.blocks≤(g.count+1)/2:=by
  rcases hS3.res with⟨he,_,_,hfo3⟩|⟨he,rfl,_⟩
  ·have h1:=hfo3.len
   have h2:=hfo3.blk
   have h5:aAb W.δ.size g.width g.count≤(g.count+1)/2:=by rw[hw3 he];exact nbS hW.dev.num.1.1 (by omega) (by omega) (.inr ⟨by omega,by omega⟩)
   exact⟨fun h=>⟨hw3 h,h1.symm⟩,by omega,by omega⟩
  ·exact⟨fun h=>absurd h he,AS _,AS _⟩
 have hS4:aDp p W W3 aEp aEp (aSk vts.length qts) (aBn vts qts) g e:=⟨hS3.gs,hS3.room,hS3.size,hS3.n,hS3.acts,hS3.big,hS3.fault,hS3.keep,hS3.res⟩
 (refine Dn.post (Hr:=[[(p.bj,row [pv p.bw,.int .i64 0,.slice ph held.length capj] 95)],aAh p.bw p.bd p.ba p.bs,cd3,ca3,cs3,[(b8,row [pv p.bj] 82)],[(b4,row [.int .i64 (vf.first:Int),.int .i64 (vf.blocks:Int),.int .i64 (vf.width:Int),.int .i64 (vf.count:Int)] 27)],[(b5,row [.int .i64 (qf.first:Int),.int .i64 (qf.blocks:Int),.int .i64 (qf.width:Int),.int .i64 (qf.count:Int)] 27)]]) Tryz.results66 (hR:= ?_);exact⟨g,e,cd3,ca3,cs3,W3,_,rfl,rfl,hW3,hS4,rfl,hg⟩)
def aDa (tt:List T5):List T5:=tt.map fun t=>⟨t.c2,t.c2,AH .i64 (AH .i64 (t.c2+t.c3)-1),0,0⟩
def aSm (oth tt:List T5):List T5:=(aBn (aCp 1 oth tt) (aDa tt)).map (aEv (aBn (aCp (-1) oth tt) (aDa tt)) 0 1 2)
def aVl (tt fl ed:List T5):List T5:=(aSm (aBg tt fl ed) tt).map fun t=>⟨t.c0,t.c1,AH .i64 (-t.c2),0,0⟩
def bOi (tt fl ed:List T5):Option Nat:=(aSk (aCp 1 (aBg tt fl ed) tt).length (aDa tt)).or (aSk (aCp (-1) (aBg tt fl ed) tt).length (aDa tt))
abbrev bLb:Nat:=13020000
theorem bJk {tt:List T5} (h:∀t∈tt,okT 5 t):∀t∈aDa tt,okT 3 t:=by
 intro t ht
 unfold aDa at ht
 obtain⟨u,hu,rfl⟩:=AT.1 ht
 have ti:=aBm (h u hu)
 exact bKv ti.2.2.1 ti.2.2.1 (aCb _)
theorem aXx (bw bd ba bs:Nat) (W:Wk) (cd ca cs:aAc) (h:Wc bd ba bs W cd ca cs) (tf ff ef:Fl) (tt fl ed:List T5) (hlt:aBx W (tf,tt)) (hlf:aBx W (ff,fl)) (hle:aBx W (ef,ed)) (hwt:tf.width=5) (hwf:ff.width=3) (hwe:ef.width=3)
  (hrt:tt.Pairwise fun a c=>a.c0<c.c0) (hrf:fl.Pairwise fun a c=>a.c0<c.c0) (hre:ed.Pairwise fun a c=>a.c0≤c.c0)
  (c m c2 m2:Nat) (hnc:tf.count≤c) (hcf:ff.count≤2*c) (hce:2*ef.count+tf.count≤2*c) (hc:c≤250) (hcm:c≤m) (hT:aEi c≤m) (hn2:tf.count≤c2) (hl1:(aCp 1 (aBg tt fl ed) tt).length≤2*c2) (hl2:(aCp (-1) (aBg tt fl ed) tt).length≤2*c2) (hc2:c2≤250) (hT2:aEi c2≤m2) (hm2:3*c2≤m2)
  (hroom:m*(W.live.length+9)+(8*c+aBb W.live)≤W.σ.n) (hroom2:m2*(W.live.length+11)+(2*c2+(8*c+aBb W.live))≤W.σ.n) (hac:W.δ.acts≤350000000):
  Ct AC 29 [pv bw,flv tf,flv ff,flv ef] [aAh bw bd ba bs,cd,ca,cs] (bKw bw bd ba bs W cd cs bLb bLb (bOi tt fl ed) (aVl tt fl ed) 3):=by
 have hflv:∀f:Fl,flv f= .agg #[.int .i64 (f.first:Int),.int .i64 (f.blocks:Int),.int .i64 (f.width:Int),.int .i64 (f.count:Int)]:=fun _=>rfl
 have hfl4:∀f:Fl,fl4 f=[.int .i64 (f.first:Int),.int .i64 (f.blocks:Int),.int .i64 (f.width:Int),.int .i64 (f.count:Int)]:=fun _=>rfl
 have hz:flv ⟨0,0,0,0⟩= .agg #[.int .i64 0,.int .i64 0,.int .i64 0,.int .i64 0]:=rfl
 have hB:=fun b=>aZn bw bd ba bs W cd ca cs h [(tf,tt),(ff,fl),(ef,ed)] (by simp only[AM,CJ,or_false];rintro x (rfl|rfl|rfl);exact hlt;exact hlf;exact hle) (by simp) (some ⟨b,0,none⟩) 3 _ (vec3 b tf ff ef)
 simp only[hfl4,AA,AB] at hB
 have hwi:(tf.width:Int)=5:=by rw[hwt];rfl
 have hwj:(ff.width:Int)=3:=by rw[hwf];rfl
 have hwk:(ef.width:Int)=3:=by rw[hwe];rfl
 rw[hflv tf,hflv ff,hflv ef]
 refine Ct.intro Tryz.func29 rfl Tryz.ntmps29 (nle rfl) fun w0=> ?_;dsimp only[aAa,AD]
 repeat(refine st ?_;intros)
 refine R.call (hct:=hB _) (h:= ?_)
 rintro _ _ ⟨ca1,α1,hW1,hg1,hr1,⟨hroom8,bj,rfl,rfl⟩|⟨hsmall,rfl,rfl⟩⟩
 rotate_left
 ·dsimp only[AA,AB]
  repeat(refine st ?_;intros)
  (refine Dn.post (Hr:=[aAh bw bd ba bs,cd,ca1,cs]) Tryz.results29 (hR:= ?_);exact .inr ⟨hsmall,rfl,ca1,α1,rfl,hW1,hg1,hr1⟩)
 dsimp only[AA,AB]
 obtain⟨hp,hJ⟩:=aVb (bj:=bj) h hW1 hg1 hr1 hroom8
 have hq1:In0 (aLx bw bd ba bs bj W) (tf,tt):=aIn hlt
 have hq2:In0 (aLx bw bd ba bs bj W) (ff,fl):=aIn hlf
 have hq3:In0 (aLx bw bd ba bs bj W) (ef,ed):=aIn hle
 have hbj:(aLx bw bd ba bs bj W).bj=bj:=rfl
 have hbw:(aLx bw bd ba bs bj W).bw=bw:=rfl
 have hL0:(aLx bw bd ba bs bj W).L0=W.live:=rfl
 have hn0:(aLx bw bd ba bs bj W).n=W.σ.n:=rfl
 obtain⟨t1,t2,t3,t4,t5⟩:=aGl hq1
 obtain⟨f1,f2,f3,f4,f5⟩:=aGl hq2
 obtain⟨d1,d2,d3,d4,d5⟩:=aGl hq3
 dsimp only at t1 t2 t3 t4 t5 f1 f2 f3 f4 f5 d1 d2 d3 d4 d5
 have htb:tf.blocks≤tf.count:=by rw[t3];exact aAv (aAj hp.size.1 t4 t5)
 rw[hwt] at t2
 rw[hwf] at f2
 rw[hwe] at d2
 have hR:Rm (aLx bw bd ba bs bj W) c m 8 W.δ.acts:=⟨hp,by omega,by omega,by
  rw[hL0,hn0]
  have e:8+W.live.length+1=W.live.length+9:=by omega
  rw[e];exact hroom,by omega,by omega⟩
 have hJ0:aHf (aLx bw bd ba bs bj W) c 8 W.δ.acts 0 0 none [] _:=⟨hJ.weak rfl rfl rfl (AG _) (AG _),AS _,by simp⟩
 have hO1:=bFs hR hJ0 tf ff ef tt fl ed hq1 hq2 hq3 hwt hwf hwe c hcf (by omega) (by omega) (by omega) (AG _) hT hrt hrf hre (by omega) (by simp) (by omega)
 rw[hflv tf,hflv ff,hflv ef,hbj] at hO1
 have hO1:=Ct.convP (H:=[aFa bj bw 0 none 0 0,aAh bw bd ba bs,cd,ca1,cs]) hO1 (aVd (p:=aLx bw bd ba bs bj W) (e:=0) (cd:=cd) (ca:=ca1) (cs:=cs)) (fun v H' hh=>⟨H',hh,.refl _⟩)
 repeat(refine st ?_;intros)
 refine R.callX (hct:=hO1) (h:= ?_)
 rintro _ _ ⟨g1,C1,e1,rfl,rfl,hJ1,hF1,hE1⟩
 dsimp only[AA,AB]
 refine nx ?_
 try rw[hflv]
 have hoo:=aLz t2 f2 d2
 have hol:=aXt tt fl ed
 generalize hoe:aBg tt fl ed=oth at*
 have hF1c:=hF1.cnt
 have hF1b:=hF1.blk
 have hM2:=fun b=>bNr hR hJ1 [] bNz 3 tf.count c 1 (by omega) 62 inferInstance [] (okT 5) lwQ (fun t _=>AG _) (by omega) tf tt (.inr hq1) (by omega) (fun _=>t2)
  (fun h=>by rw[aDw (f:=bNz) (g:=fun t=>⟨t.c2,t.c2,AH .i64 (AH .i64 (t.c2+t.c3)-1),0,0⟩) (fun _=>rfl),AX];omega) (.inl hnc) (AG _) (by simp only[AL,AU];omega) (by omega) b
 simp only[hfl4,hbj] at hM2
 rw[aDw (f:=bNz) (g:=fun t=>⟨t.c2,t.c2,AH .i64 (AH .i64 (t.c2+t.c3)-1),0,0⟩) (fun _=>rfl)] at hM2
 rw[show tt.map (fun t=>(⟨t.c2,t.c2,AH .i64 (AH .i64 (t.c2+t.c3)-1),0,0⟩:T5))=aDa tt from rfl] at hM2
 repeat(refine st ?_;intros)
 refine R.callX (hct:=hM2 _) (h:= ?_)
 rintro _ _ ⟨g2,C2,e2,rfl,rfl,hJ2,hF2,hE2⟩
 dsimp only[AA,AB]
 refine nx ?_
 try rw[hflv]
 have hF2c:=hF2.cnt
 have hF2b:=hF2.blk
 have hrl:(aDa tt).length=tt.length:=by unfold aDa;rw[AX]
 have hro:∀t∈aDa tt,aBa t.c0:=fun t h=>(aBm (bJk t2 t h)).1
 have hno:∀s,∀t∈aCp s oth tt,aBa t.c0:=fun s t h=>(aBm (aZv hoo t2 t h)).1
 have hleo:∀s,∀t∈aBn (aCp s oth tt) (aDa tt),okT 2 t:=fun s=>bFy (hno s) hro
 have hlel:∀s,(aBn (aCp s oth tt) (aDa tt)).length≤2*tf.count:=fun s=>by have:=bFz (aCp s oth tt) (aDa tt);omega
 have hN3:=aQy hR hJ2 g1 tf oth tt (AJ _ AI) hq1 hwt hoo (hF1.mono hE2) c (by omega) (by omega) (by omega) (AG _) hT (by simp only[AL,AU];omega) (by omega) 1
 rw[hflv g1,hflv tf,hbj] at hN3
 repeat(refine st ?_;intros)
 refine R.callX (hct:=hN3) (h:= ?_)
 rintro _ _ ⟨g3,C3,e3,rfl,rfl,hJ3,hF3,hE3⟩
 dsimp only[AA,AB]
 refine nx ?_
 try rw[hflv]
 have hF3c:=hF3.cnt
 have hF3b:=hF3.blk
 have hR4:=fun b8 b4 b5=>SRun hR hJ3 64 inferInstance [pv b8,pv b4,pv b5] (aFz bj b8 b4 b5 g3 g2) aEp aEp 206 (aSk (aCp 1 oth tt).length (aDa tt)) (aBn (aCp 1 oth tt) (aDa tt)) (by decide) (by decide) (b:=2*tf.count) (c:=c) (w:=2) (n:=(aBn (aCp 1 oth tt) (aDa tt)).length) (fun he x y hx=>by
  subst he
  have h3:=hF3.ok rfl
  have h2:=hF2.ok (hE3 rfl)
  have hS:=aXv hR (er:=none) hJ3.len hJ3.blk g3 g2 (aCp 1 oth tt) (aDa tt) (by repeat(first|exact AI|apply AJ)) (by repeat(first|exact AI|apply AJ)) h3.1 h2.1 c2 m2 (by omega) (by omega) hc2 hT2 hm2 (by rw[hL0,hn0,show 8+W.live.length+3=W.live.length+11 by omega];omega) x y (by omega) b8 b4 b5
  refine aFy.mono hS ?_
  rintro g e' Hx' ⟨a1,a2,a3,a4⟩
  have:=hlel 1
  exact⟨a1,by omega,by omega,a2⟩) (AG _) (by simp only[AL,AU];omega)
 simp only[aFz,hfl4,hbj,show∀x:Option Nat,(none:Option Nat).or x=x from fun _=>rfl] at hR4
 repeat(refine st ?_;intros)
 refine R.callX (hct:=hR4 _ _ _) (h:= ?_)
 rintro _ _ ⟨g4,C4,e4,rfl,rfl,hJ4,hF4,hE4⟩
 dsimp only[AA,AB]
 refine nx ?_
 try rw[hflv]
 have hF4c:=hF4.cnt
 have hF4b:=hF4.blk
 have hN5:=aQy hR hJ4 g1 tf oth tt (by repeat(first|exact AI|apply AJ)) hq1 hwt hoo (hF1.mono fun h=>hE2 (hE3 (hE4 h))) c (by omega) (by omega) (by omega) (AG _) hT (by simp only[AL,AU];omega) (by omega) (-1)
 rw[hflv g1,hflv tf,hbj] at hN5
 repeat(refine st ?_;intros)
 refine R.callX (hct:=hN5) (h:= ?_)
 rintro _ _ ⟨g5,C5,e5,rfl,rfl,hJ5,hF5,hE5⟩
 dsimp only[AA,AB]
 refine nx ?_
 try rw[hflv]
 have hF5c:=hF5.cnt
 have hF5b:=hF5.blk
 have hR6:=fun b8 b4 b5=>SRun hR hJ5 66 inferInstance [pv b8,pv b4,pv b5] (aFz bj b8 b4 b5 g5 g2) aEp aEp 206 (aSk (aCp (-1) oth tt).length (aDa tt)) (aBn (aCp (-1) oth tt) (aDa tt)) (by decide) (by decide) (b:=2*tf.count) (c:=c) (w:=2) (n:=(aBn (aCp (-1) oth tt) (aDa tt)).length) (fun he x y hx=>by
  subst he
  have h3:=hF5.ok rfl
  have h2:=hF2.ok (hE3 (hE4 (hE5 rfl)))
  have hS:=aXw hR (er:=aSk (aCp 1 oth tt).length (aDa tt)) hJ5.len hJ5.blk g5 g2 (aCp (-1) oth tt) (aDa tt) (by repeat(first|exact AI|apply AJ)) (by repeat(first|exact AI|apply AJ)) h3.1 h2.1 c2 m2 (by omega) (by omega) hc2 hT2 hm2 (by rw[hL0,hn0,show 8+W.live.length+3=W.live.length+11 by omega];omega) x y (by omega) b8 b4 b5
  refine aFy.mono hS ?_
  rintro g e' Hx' ⟨a1,a2,a3,a4⟩
  have:=hlel (-1)
  exact⟨a1,by omega,by omega,a2⟩) (AG _) (by simp only[AL,AU];omega)
 simp only[aFz,hfl4,hbj] at hR6
 rw[show(aSk (aCp 1 oth tt).length (aDa tt)).or (aSk (aCp (-1) oth tt).length (aDa tt))=bOi tt fl ed by unfold bOi;rw[hoe]] at hR6
 repeat(refine st ?_;intros)
 refine R.callX (hct:=hR6 _ _ _) (h:= ?_)
 rintro _ _ ⟨g6,C6,e6,rfl,rfl,hJ6,hF6,hE6⟩
 dsimp only[AA,AB]
 refine nx ?_
 try rw[hflv]
 have hF6c:=hF6.cnt
 have hF6b:=hF6.blk
 have hR7:=fun b8 b4 b5=>aSg hR hJ6 67 inferInstance g4 g6 (aBn (aCp 1 oth tt) (aDa tt)) (aBn (aCp (-1) oth tt) (aDa tt)) 0 1 2 3 c (by first|exact .inr (by assumption)|exact .inl (by repeat(first|exact AI|apply AJ))) (by first|exact .inr (by assumption)|exact .inl (by repeat(first|exact AI|apply AJ))) (lwB _ g4 g6 b8 b4 b5) (hF4.mono fun h=>hE5 (hE6 h)) hF6 (by omega) (by omega) (by omega) (by omega) (by omega) (by omega)
  (fun _=>(aHq _ _).imp fun {x y} hh=>Int.le_of_lt hh) (fun _=>aHq _ _) (.inr ⟨by omega,by omega⟩) (AG _) (by simp only[AL,AU];omega) (by omega)
 simp only[aFz,hfl4,hbj] at hR7
 rw[show(aBn (aCp 1 oth tt) (aDa tt)).map (aEv (aBn (aCp (-1) oth tt) (aDa tt)) 0 1 2)=aSm oth tt from rfl] at hR7
 repeat(refine st ?_;intros)
 refine R.callX (hct:=hR7 _ _ _) (h:= ?_)
 rintro _ _ ⟨g7,C7,e7,rfl,rfl,hJ7,hF7,hE7⟩
 dsimp only[AA,AB]
 refine nx ?_
 try rw[hflv]
 have hF7c:=hF7.cnt
 have hF7b:=hF7.blk
 have hbl:(aSm oth tt).length=(aBn (aCp 1 oth tt) (aDa tt)).length:=by unfold aSm;rw[AX]
 have hM8:=fun b=>bNr hR hJ7 [] bOa 3 g7.count c 1 (by omega) 68 inferInstance [] (okT 3) lwN (fun t _=>AG _) (by omega) g7 (aSm oth tt) (by first|exact .inr (by assumption)|exact .inl (by repeat(first|exact AI|apply AJ))) (by omega) (fun _ t ht=>by
   unfold aSm at ht
   obtain⟨u,hu,rfl⟩:=AT.1 ht
   exact aNh (hleo (-1)) 0 1 2 (by omega) (hleo 1 u hu))
  (fun h=>by rw[aDw (f:=bOa) (g:=fun t=>⟨t.c0,t.c1,AH .i64 (-t.c2),0,0⟩) (fun _=>rfl),AX,(hF7.ok h).2,hbl];exact AG _) (.inr ⟨by omega,by omega⟩) (AG _) (by simp only[AL,AU];omega) (by omega) b
 simp only[hfl4,hbj] at hM8
 rw[aDw (f:=bOa) (g:=fun t=>⟨t.c0,t.c1,AH .i64 (-t.c2),0,0⟩) (fun _=>rfl)] at hM8
 rw[show(aSm oth tt).map (fun t=>(⟨t.c0,t.c1,AH .i64 (-t.c2),0,0⟩:T5))=aVl tt fl ed by unfold aVl;rw[hoe]] at hM8
 repeat(refine st ?_;intros)
 refine R.callX (hct:=hM8 _) (h:= ?_)
 rintro _ _ ⟨g8,C8,e8,rfl,rfl,hJ8,hF8,hE8⟩
 dsimp only[AA,AB]
 refine nx ?_
 try rw[hflv]
 have hRs:=fun b=>bFj hR hJ8 g8 b
 simp only[hfl4,hbj] at hRs
 repeat(refine st ?_;intros)
 refine R.call (hct:=hRs _) (h:= ?_)
 rintro _ _ ⟨cd5,ca5,cs5,W5,rfl,rfl,hW5,hD⟩
 try dsimp only[AA,AB]
 have hSt:=aMm (A:=bLb) (T:=bLb) hD rfl (by dsimp only;unfold bLb;omega) (by dsimp only;unfold bLb;omega)
 dsimp only at hSt
 by_cases he:e8=0
 ·subst he
  rw[if_pos rfl] at hSt
  repeat(refine st ?_;intros)
  (refine Dn.post (Hr:=[aAh bw bd ba bs,cd5,ca5,cs5]) Tryz.results29 (hR:= ?_);exact .inl ⟨hroom8,g8,0,cd5,ca5,cs5,W5,rfl,rfl,hW5,hSt,fun _=>(hF8.ok rfl).1⟩)
 ·rw[if_neg he] at hSt
  repeat(refine st ?_;intros)
  (refine Dn.post (Hr:=[aAh bw bd ba bs,cd5,ca5,cs5]) Tryz.results29 (hR:= ?_);exact .inl ⟨hroom8,⟨0,0,0,0⟩,e8,cd5,ca5,cs5,W5,rfl,rfl,hW5,hSt,fun h=>absurd h he⟩)
end Go.Proofs.YtammjnjpheobaaaGreat
namespace Go.Gr
abbrev Ed:=Nat×Nat
def Jn (g:Nat→Ed) (S:Nat→Prop) (x y:Nat):Prop:=∃i,S i∧((g i).1=x∧(g i).2=y∨(g i).1=y∧(g i).2=x)
inductive Cn (g:Nat→Ed) (S:Nat→Prop):Nat→Nat→Prop
 |refl (a:Nat):Cn g S a a
 |step {a b c:Nat}:Cn g S a b→Jn g S b c→Cn g S a c
variable {g:Nat→Ed} {S S':Nat→Prop}
theorem Jn.symm {x y:Nat} (h:Jn g S x y):Jn g S y x:=let ⟨i,h1,h2⟩:=h;⟨i,h1,h2.symm⟩
theorem Jn.mono {x y:Nat} (h:Jn g S x y) (hs:∀i,S i→S' i):Jn g S' x y:=let ⟨i,h1,h2⟩:=h;⟨i,hs i h1,h2⟩
theorem Cn.one {x y:Nat} (h:Jn g S x y):Cn g S x y:= .step (.refl x) h
theorem Cn.trans {a b c:Nat} (h:Cn g S a b) (h2:Cn g S b c):Cn g S a c:=by
 induction h2 with
 |refl=>exact h
 |step _ hj ih=>exact .step ih hj
theorem Cn.symm {a b:Nat} (h:Cn g S a b):Cn g S b a:=by
 induction h with
 |refl=>exact .refl _
 |step _ hj ih=>exact(Cn.one hj.symm).trans ih
theorem Cn.mono {a b:Nat} (h:Cn g S a b) (hs:∀i,S i→S' i):Cn g S' a b:=by
 induction h with
 |refl=>exact .refl _
 |step _ hj ih=>exact .step ih (hj.mono hs)
theorem Cn.edge {i:Nat} (h:S i):Cn g S (g i).1 (g i).2:= .one ⟨i,h,.inl ⟨rfl,rfl⟩⟩
theorem Cn.sub {a b:Nat} (h:Cn g S a b) (hs:∀i,S i→Cn g S' (g i).1 (g i).2):Cn g S' a b:=by
 induction h with
 |refl=>exact .refl _
 |step _ hj ih=>
  obtain⟨i,h1,⟨rfl,rfl⟩|⟨rfl,rfl⟩⟩:=hj
  ·exact ih.trans (hs i h1)
  ·exact ih.trans (hs i h1).symm
theorem Cn.congr {a b:Nat} (hs:∀i,S i↔S' i):Cn g S a b↔Cn g S' a b:=⟨fun h=>h.mono fun i=>(hs i).1,fun h=>h.mono fun i=>(hs i).2⟩
theorem Cn.stay {a b:Nat} (h:Cn g S a b) {X:Nat→Prop} (ha:X a) (hx:∀i,S i→(X (g i).1↔X (g i).2)):X b:=by
 induction h with
 |refl=>exact ha
 |step _ hj ih=>
  obtain⟨i,h1,⟨rfl,rfl⟩|⟨rfl,rfl⟩⟩:=hj
  ·exact(hx i h1).1 ih
  ·exact(hx i h1).2 ih
theorem Cn.add {i a b:Nat} (h:Cn g (fun j=>S j∨j=i) a b):Cn g S a b∨(Cn g S a (g i).1∧Cn g S (g i).2 b)∨(Cn g S a (g i).2∧Cn g S (g i).1 b):=by
 induction h with
 |refl=>exact .inl (.refl _)
 |step _ hj ih=>
  obtain⟨j,h1|rfl,h2⟩:=hj
  ·have hj:Cn g S _ _:= .one ⟨j,h1,h2⟩
   rcases ih with ih|⟨i1,i2⟩|⟨i1,i2⟩
   ·exact .inl (ih.trans hj)
   ·exact .inr (.inl ⟨i1,i2.trans hj⟩)
   ·exact .inr (.inr ⟨i1,i2.trans hj⟩)
  ·rcases h2 with⟨rfl,rfl⟩|⟨rfl,rfl⟩
   ·rcases ih with ih|⟨i1,i2⟩|⟨i1,i2⟩
    ·exact .inr (.inl ⟨ih,.refl _⟩)
    ·exact .inr (.inl ⟨i1,.refl _⟩)
    ·exact .inl i1
   ·rcases ih with ih|⟨i1,i2⟩|⟨i1,i2⟩
    ·exact .inr (.inr ⟨ih,.refl _⟩)
    ·exact .inl i1
    ·exact .inr (.inr ⟨i1,.refl _⟩)
theorem Cn.bound {a b:Nat} (h:Cn g S a b):∃n,Cn g (fun j=>S j∧j<n) a b:=by
 induction h with
 |refl=>exact⟨0,.refl _⟩
 |step _ hj ih=>
  obtain⟨n,ih⟩:=ih
  obtain⟨i,h1,h2⟩:=hj
  exact⟨max n (i+1),.step (ih.mono fun j ⟨a,b⟩=>⟨a,by omega⟩) ⟨i,⟨h1,by omega⟩,h2⟩⟩
def Kr (g:Nat→Ed) (S:Nat→Prop) (i:Nat):Prop:=S i∧¬Cn g (fun j=>S j∧j<i) (g i).1 (g i).2
theorem Kr.conn_lt:∀(n:Nat) {a b:Nat},Cn g (fun j=>S j∧j<n) a b↔Cn g (fun j=>Kr g S j∧j<n) a b
 |0,a,b=>Cn.congr fun i=>by simp
 |n+1,a,b=>by
  refine⟨fun h=> ?_,fun h=>h.mono fun i ⟨h1,h2⟩=>⟨h1.1,h2⟩⟩
  refine h.sub fun i ⟨h1,h2⟩=> ?_
  by_cases hk:Kr g S i
  ·exact Cn.edge ⟨hk,h2⟩
  ·have h3:Cn g (fun j=>S j∧j<i) (g i).1 (g i).2:=by
    by_cases h4:Cn g (fun j=>S j∧j<i) (g i).1 (g i).2
    ·exact h4
    ·exact absurd ⟨h1,h4⟩ hk
   have h5:Cn g (fun j=>S j∧j<n) (g i).1 (g i).2:=h3.mono fun j ⟨a,b⟩=>⟨a,by omega⟩
   exact((Kr.conn_lt n).1 h5).mono fun j ⟨a,b⟩=>⟨a,by omega⟩
theorem Kr.conn {a b:Nat}:Cn g S a b↔Cn g (Kr g S) a b:=by
 refine⟨fun h=> ?_,fun h=>h.mono fun i h=>h.1⟩
 obtain⟨n,h⟩:=h.bound
 exact((Kr.conn_lt n).1 h).mono fun i h=>h.1
theorem Kr.bridge_lt:∀(n i:Nat),i<n→Kr g S i→¬Cn g (fun j=>Kr g S j∧j<n∧j≠i) (g i).1 (g i).2
 |0,_,h,_=>by omega
 |n+1,i,h,hk=>by
  intro hc
  by_cases hin:i=n
  ·subst hin
   exact hk.2 (hc.mono fun j ⟨h1,h2,h3⟩=>⟨h1.1,by omega⟩)
  ·have hi:i<n:=by omega
   by_cases hkn:Kr g S n
   ·have hc2:Cn g (fun j=>(Kr g S j∧j<n∧j≠i)∨j=n) (g i).1 (g i).2:=hc.mono fun j ⟨h1,h2,h3⟩=>by
     by_cases hj:j=n
     ·exact .inr hj
     ·exact .inl ⟨h1,by omega,h3⟩
    have hlt:∀{x y:Nat},Cn g (fun j=>Kr g S j∧j<n∧j≠i) x y→Cn g (fun j=>S j∧j<n) x y:=fun h=>h.mono fun j ⟨h1,h2,_⟩=>⟨h1.1,h2⟩
    have hii:Cn g (fun j=>S j∧j<n) (g i).1 (g i).2:=Cn.edge ⟨hk.1,hi⟩
    rcases hc2.add with h1|⟨h1,h2⟩|⟨h1,h2⟩
    ·exact Kr.bridge_lt n i hi hk h1
    ·exact hkn.2 (((hlt h1).symm.trans hii).trans (hlt h2).symm)
    ·exact hkn.2 (((hlt h2).trans hii.symm).trans (hlt h1))
   ·refine Kr.bridge_lt n i hi hk (hc.mono fun j ⟨h1,h2,h3⟩=>⟨h1,?_,h3⟩)
    have:j≠n:=fun e=>hkn (e▸h1)
    omega
theorem Kr.bridge {i:Nat} (hk:Kr g S i):¬Cn g (fun j=>Kr g S j∧j≠i) (g i).1 (g i).2:=by
 intro h
 obtain⟨n,h⟩:=h.bound
 exact Kr.bridge_lt (max n (i+1)) i (by omega) hk (h.mono fun j ⟨⟨a,b⟩,c⟩=>⟨a,by omega,b⟩)
end Go.Gr
namespace Go.Proofs.YtammjnjpheobaaaGreat
open Go.Gr
inductive Fo where
 |nil
 |node (v:Nat) (s r:Fo)
def Fo.sz:Fo→Nat
 | .nil=>0
 | .node _ s r=>s.sz+1+r.sz
def Fo.vs:Fo→List Nat
 | .nil=>[]
 | .node v s r=>v::(s.vs++r.vs)
theorem Fo.vs_len:∀T:Fo,T.vs.length=T.sz
 | .nil=>rfl
 | .node v s r=>by simp only[Fo.vs,Fo.sz,AL,AF,s.vs_len,r.vs_len];omega
structure Tw (g:Nat→Ed) (F:Nat→Prop) (P:Nat) (vt ed bro:Nat→Nat):Prop where
 mem:∀k,k<P→F (ed k)
 ends:∀k,k<P→((g (ed k)).1=vt k∧(g (ed k)).2=vt (k+1)∨(g (ed k)).1=vt (k+1)∧(g (ed k)).2=vt k)
 round:vt P=vt 0
 bro_lt:∀k,k<P→bro k<P
 bro_ne:∀k,k<P→bro k≠k
 bro_bro:∀k,k<P→bro (bro k)=k
 bro_from:∀k,k<P→vt (bro k)=vt (k+1)
 bro_to:∀k,k<P→vt (bro k+1)=vt k
 uniq:∀j k,j<P→k<P→ed j=ed k→j=k∨j=bro k
 bridge:∀i,F i→¬Cn g (fun j=>F j∧j≠i) (g i).1 (g i).2
namespace Tw
variable {g:Nat→Ed} {F:Nat→Prop} {P:Nat} {vt ed bro:Nat→Nat}
theorem join (h:Tw g F P vt ed bro) {k:Nat} (hk:k<P) {e:Nat} (hne:ed k≠e):Cn g (fun j=>F j∧j≠e) (vt k) (vt (k+1)):= .one ⟨ed k,⟨h.mem k hk,hne⟩,h.ends k hk⟩
theorem walk (h:Tw g F P vt ed bro) {e j:Nat}:∀{k:Nat},j≤k→k≤P→(∀n,j≤n→n<k→ed n≠e)→Cn g (fun i=>F i∧i≠e) (vt j) (vt k)
 |0,hj,_,_=>by
  obtain rfl:j=0:=by omega
  exact .refl _
 |k+1,hj,hk,hn=>by
  rcases Nat.eq_or_lt_of_le hj with rfl|hlt
  ·exact .refl _
  ·exact(h.walk (k:=k) (by omega) (by omega) fun n h1 h2=>hn n h1 (by omega)).trans (h.join (by omega) (hn k (by omega) (by omega)))
theorem apart (h:Tw g F P vt ed bro) {k:Nat} (hk:k<P):¬Cn g (fun j=>F j∧j≠ed k) (vt k) (vt (k+1)):=by
 intro hc
 rcases h.ends k hk with⟨h1,h2⟩|⟨h1,h2⟩
 ·exact h.bridge _ (h.mem k hk) (by rw[h1,h2];exact hc)
 ·exact h.bridge _ (h.mem k hk) (by rw[h1,h2];exact hc.symm)
theorem first (h:Tw g F P vt ed bro) {p j:Nat} (hp:p<P) (hd:p<bro p) (hj:j≤p):vt j≠vt (p+1):=by
 intro he
 refine h.apart hp ?_
 rw[←he]
 refine(h.walk hj (by omega) ?_).symm
 intro n h1 h2 hq
 rcases h.uniq n p (by omega) hp hq with h3|h3<;>omega
theorem again (h:Tw g F P vt ed bro) {p:Nat} (hp:p<P) (hu:¬p<bro p):∃j,j≤p∧vt j=vt (p+1):=⟨bro p,by omega,h.bro_from p hp⟩
theorem down_inj (h:Tw g F P vt ed bro) {p q:Nat} (hp:p<P) (hq:q<P) (hdp:p<bro p) (hdq:q<bro q) (he:vt (p+1)=vt (q+1)):p=q:=by
 rcases CV p q with h1|h1|h1
 ·exact(h.first hq hdq (show p+1≤q by omega) he).elim
 ·exact h1
 ·exact(h.first hp hdp (show q+1≤p by omega) he.symm).elim
theorem down_of (h:Tw g F P vt ed bro):∀{j:Nat},j≤P→vt j≠vt 0→∃p,p<j∧p<bro p∧vt (p+1)=vt j:=by
 intro j
 induction j using Nat.strongRecOn with
 |ind j ih=>
  intro hj hne
  match j,hne with
  |0,hne=>exact(hne rfl).elim
  |j+1,hne=>
   by_cases hd:j<bro j
   ·exact⟨j,by omega,hd,rfl⟩
   ·have h1:=h.bro_ne j (by omega)
    have h2:=h.bro_from j (by omega)
    obtain⟨p,p1,p2,p3⟩:=ih (bro j) (by omega) (by omega) (by rw[h2];exact hne)
    exact⟨p,by omega,p2,by rw[p3,h2]⟩
theorem nocross (h:Tw g F P vt ed bro) {p a:Nat} (hp:p<P) (h1:p<a) (h2:a<bro p):p<bro a∧bro a<bro p:=by
 have hb:=h.bro_lt p hp
 have ha:a<P:=by omega
 have hne:∀n,n<P→n≠p→n≠bro p→ed n≠ed p:=fun n hn e1 e2 hq=>by
  rcases h.uniq n p hn hp hq with h3|h3
  ·exact e1 h3
  ·exact e2 h3
 have hab:bro a≠p:=fun hq=>by have:=h.bro_bro a ha;rw[hq] at this;omega
 have hab2:bro a≠bro p:=fun hq=>by have:=h.bro_bro a ha;rw[hq,h.bro_bro p hp] at this;omega
 have hV:Cn g (fun i=>F i∧i≠ed p) (vt (p+1)) (vt a):=h.walk (by omega) (by omega) fun n h3 h4=>hne n (by omega) (by omega) (by omega)
 have hba:=h.bro_lt a ha
 rcases CV (bro a) p with h3|h3|h3
 ·exfalso
  refine h.apart hp (Cn.symm (hV.trans ?_))
  rw[←h.bro_to a ha]
  exact h.walk (by omega) (by omega) fun n h4 h5=>hne n (by omega) (by omega) (by omega)
 ·exact(hab h3).elim
 rcases CV (bro a) (bro p) with h4|h4|h4
 ·exact⟨h3,h4⟩
 ·exact(hab2 h4).elim
 ·exfalso
  refine h.apart hp (Cn.symm ((hV.trans (h.join ha (hne a ha (by omega) (by omega)))).trans ?_))
  rw[←h.bro_from a ha]
  have e1:Cn g (fun i=>F i∧i≠ed p) (vt (bro a)) (vt P):=h.walk (by omega) (by omega) fun n h5 h6=>hne n (by omega) (by omega) (by omega)
  rw[h.round] at e1
  exact e1.trans (h.walk (by omega) (by omega) fun n h5 h6=>hne n (by omega) (by omega) (by omega))
end Tw
def aWg (P:Nat) (vt bro:Nat→Nat):Fo→Nat→Nat→Prop
 | .nil,p,q=>p=q
 | .node v s r,p,q=>p<P∧p<bro p∧bro p<P∧vt (p+1)=v∧bro (bro p)=p∧vt (bro p+1)=vt p∧aWg P vt bro s (p+1) (bro p)∧aWg P vt bro r (bro p+1) q
theorem Tw.build {g:Nat→Ed} {F:Nat→Prop} {P:Nat} {vt ed bro:Nat→Nat} (h:Tw g F P vt ed bro):∀(m p q:Nat),q=p+m→q≤P→(∀n,p≤n→n<q→p≤bro n∧bro n<q)→∃T,aWg P vt bro T p q:=by
 intro m
 induction m using Nat.strongRecOn with
 |ind m ih=>
  intro p q hq hP hc
  match m,ih with
  |0,_=>exact⟨.nil,by simpa[aWg] using hq.symm⟩
  |m+1,ih=>
   have hp:p<P:=by omega
   have h1:=hc p (by omega) (by omega)
   have h2:=h.bro_ne p hp
   obtain⟨s,hs⟩:=ih (bro p-(p+1)) (by omega) (p+1) (bro p) (by omega) (by omega) (fun n h3 h4=>by
    have:=h.nocross hp (show p<n by omega) h4
    omega)
   obtain⟨r,hr⟩:=ih (q-(bro p+1)) (by omega) (bro p+1) q (by omega) (by omega) (fun n h3 h4=>by
    have h5:=hc n (by omega) h4
    have hn:n<P:=by omega
    refine⟨?_,h5.2⟩
    rcases Nat.lt_or_ge (bro p) (bro n) with h6|h6
    ·omega
    ·exfalso
     have e1:=h.bro_bro n hn
     by_cases h7:bro n=p
     ·rw[h7] at e1;omega
     ·by_cases h8:bro n=bro p
      ·rw[h8,h.bro_bro p hp] at e1;omega
      ·have:=h.nocross hp (a:=bro n) (by omega) (by omega)
       omega)
   exact⟨.node (vt (p+1)) s r,hp,by omega,h.bro_lt p hp,rfl,h.bro_bro p hp,h.bro_to p hp,hs,hr⟩
theorem Tw.trees {g:Nat→Ed} {F:Nat→Prop} {P:Nat} {vt ed bro:Nat→Nat} (h:Tw g F P vt ed bro):∃T,aWg P vt bro T 0 P:=h.build P 0 P (by omega) (AG _) fun n _ hn=>⟨by omega,h.bro_lt n hn⟩
theorem aWg.len {P:Nat} {vt bro:Nat→Nat}:∀{T:Fo} {p q:Nat},aWg P vt bro T p q→q=p+2*T.sz
 | .nil,p,q,h=>by simp only[aWg] at h;simp[Fo.sz,h]
 | .node v s r,p,q,h=>by
  obtain⟨_,_,_,_,_,_,h1,h2⟩:=h
  have e1:=h1.len
  have e2:=h2.len
  simp only[Fo.sz];omega
theorem aWg.vs_mem {P:Nat} {vt bro:Nat→Nat}:∀{T:Fo} {p q:Nat},aWg P vt bro T p q→∀x,x∈T.vs↔∃k,p≤k∧k<q∧k<bro k∧vt (k+1)=x
 | .nil,p,q,h,x=>by
  simp only[aWg] at h
  simp only[Fo.vs,CJ,false_iff]
  rintro⟨k,h1,h2,_⟩;omega
 | .node v s r,p,q,h,x=>by
  obtain⟨hp,hd,hbP,hv,hbb,_,h1,h2⟩:=h
  have e1:=h1.len
  have e2:=h2.len
  simp only[Fo.vs,AM,AO,h1.vs_mem x,h2.vs_mem x]
  constructor
  ·rintro(rfl|⟨k,k1,k2,k3,k4⟩|⟨k,k1,k2,k3,k4⟩)
   ·exact⟨p,by omega,by omega,hd,hv⟩
   ·exact⟨k,by omega,by omega,k3,k4⟩
   ·exact⟨k,by omega,by omega,k3,k4⟩
  ·rintro⟨k,k1,k2,k3,k4⟩
   by_cases h3:k=p
   ·subst h3;exact .inl (k4.symm.trans hv)
   ·by_cases h4:k<bro p
    ·exact .inr (.inl ⟨k,by omega,h4,k3,k4⟩)
    ·by_cases h5:k=bro p
     ·subst h5;rw[hbb] at k3;omega
     ·exact .inr (.inr ⟨k,by omega,k2,k3,k4⟩)
theorem Tw.vs_nodup {g:Nat→Ed} {F:Nat→Prop} {P:Nat} {vt ed bro:Nat→Nat} (hT:Tw g F P vt ed bro):∀{T:Fo} {p q:Nat},q≤P→aWg P vt bro T p q→T.vs.Nodup
 | .nil,_,_,_,_=>by simp[Fo.vs]
 | .node v s r,p,q,hq,h=>by
  obtain⟨hp,hd,hbP,hv,hbb,_,h1,h2⟩:=h
  have e1:=h1.len
  have e2:=h2.len
  simp only[Fo.vs,List.nodup_cons,AO,List.nodup_append]
  refine⟨?_,hT.vs_nodup (by omega) h1,hT.vs_nodup hq h2,?_⟩
  ·rw[h1.vs_mem,h2.vs_mem]
   rintro(⟨k,k1,k2,k3,k4⟩|⟨k,k1,k2,k3,k4⟩)
   ·have:=hT.down_inj hp (by omega) hd k3 (hv.trans k4.symm);omega
   ·have:=hT.down_inj hp (by omega) hd k3 (hv.trans k4.symm);omega
  ·intro x hx y hy hxy
   subst hxy
   obtain⟨k,k1,k2,k3,k4⟩:=(h1.vs_mem x).1 hx
   obtain⟨j,j1,j2,j3,j4⟩:=(h2.vs_mem x).1 hy
   have:=hT.down_inj (by omega) (by omega) k3 j3 (k4.trans j4.symm);omega
def Fo.Jo (J:Int→Nat→Prop):Int→Fo→Prop
 |_,.nil=>True
 |u,.node v s r=>J u v∧s.Jo J (v:Int)∧r.Jo J u
theorem aWg.jo {P:Nat} {vt bro:Nat→Nat} {J:Int→Nat→Prop} (hJ:∀k,k<P→J (vt k:Int) (vt (k+1))):∀{T:Fo} {p q:Nat},aWg P vt bro T p q→T.Jo J (vt p)
 | .nil,_,_,_=>trivial
 | .node v s r,p,q,h=>by
  obtain⟨hp,hd,hbP,rfl,hbb,hbt,h1,h2⟩:=h
  refine⟨hJ p hp,h1.jo hJ,?_⟩
  have:=h2.jo hJ
  rwa[hbt] at this
open Go.SL Go.Tup
section
variable {α:Type} {f:α→List Value} {k:Nat}
theorem aGz (hf:∀a,(f a).length=k):∀l:List α,(l.flatMap f).length=l.length*k
 |[]=>by simp
 |a::l=>by rw[A6,AF,hf,aGz hf l,AL,BD];omega
theorem bGa (hf:∀a,(f a).length=k):∀(l:List α) (i:Nat),(l.flatMap f).drop (i*k)=(l.drop i).flatMap f
 |[],i=>by simp
 |a::l,0=>by simp
 |a::l,i+1=>by
  rw[A6,List.drop_succ_cons,←bGa hf l i,show(i+1)*k=(f a).length+i*k by rw[hf,BD];omega,List.drop_append]
  simp
theorem bLc (hf:∀a,(f a).length=k) {l:List α} {i:Nat} {a:α} (h:l[i]? =some a):((l.flatMap f).drop (i*k)).take k=f a:=by
 obtain⟨hi,rfl⟩:=AK.1 h
 rw[bGa hf,BM hi,A6,List.take_left' (hf _)]
theorem aXy (hf:∀a,(f a).length=k) {l:List α} {i:Nat} {a:α} (h:l[i]? =some a) (rest:List Value):((l.flatMap f++rest).drop (i*k)).take k=f a:=by
 obtain⟨hi,_⟩:=AK.1 h
 have hl:=aGz hf l
 have h1:(i+1)*k≤l.length*k:=A5 _ hi
 rw[BD] at h1
 rw[List.drop_append_of_le_length (by omega),List.take_append_of_le_length (by rw[List.length_drop];omega),bLc hf h]
theorem bLd (hf:∀a,(f a).length=k) {l:List α} {i j:Nat} {a:α} {v:Value} (h:l[i]? =some a) (hj:(f a)[j]? =some v) (rest:List Value):(l.flatMap f++rest)[i*k+j]? =some v:=by
 have h1:=aXy hf h rest
 have hjk:j<k:=by have:=(AK.1 hj).1;rw[hf] at this;exact this
 have h2:=congrArg (fun l=>l[j]?) h1
 simp only[BV,if_pos hjk,BS] at h2
 rw[h2,hj]
theorem bGb (hf:∀a,(f a).length=k) (l:List α) (i:Nat) (b:α) (rest:List Value) (h:i<l.length):aFi (l.flatMap f++rest) (i*k) (f b)=(l.set i b).flatMap f++rest:=by
 obtain⟨l1,a,l2,rfl,hl1⟩:∃l1 a l2,l=l1++a::l2∧l1.length=i:=⟨l.take i,l[i],l.drop (i+1),by rw[←BM h,BT],by simp;omega⟩
 subst hl1
 have h1:=aGz hf l1
 rw[aFs _ _ _ (by simp only[B9,A6,AF,aGz hf,hf];omega)]
 rw[DW _ _ (AG _),DF,List.set_cons_zero]
 simp only[B9,A6,List.append_assoc]
 rw[←h1,List.take_left,hf]
 congr 2
 rw[←List.drop_drop,List.drop_left,←hf a,List.drop_left]
theorem bJl {cs xs:List Value} {off m i:Nat} {v:Value} (h:(cs.drop off).take m=xs) (hv:xs[i]? =some v):cs[off+i]? =some v:=by
 rw[←h,BV] at hv
 split at hv
 ·rwa[BS] at hv
 ·cases hv
theorem bJm {cs xs vs:List Value} {off m i q:Nat} (h:(cs.drop off).take m=xs) (hv:(xs.drop i).take q=vs) (hq:vs.length=q):(cs.drop (off+i)).take q=vs:=by
 rw[←h,List.drop_take,List.drop_drop,List.take_take] at hv
 have h1:(vs.length:Nat)≤m-i:=by
  rw[←hv,BK];omega
 rw[show min q (m-i)=q by omega] at hv
 exact hv
def Rw (f:α→List Value) (k:Nat) (p:Option Addr) (m:Nat) (xs:List α) (c:aAc):Prop:=
 xs.length=m∧((m=0∧c=[])∨∃b off cs T fz,p=some ⟨b,off,none⟩∧c=[(b,aCa cs T fz)]∧(cs.drop off).take (m*k)=xs.flatMap f)
theorem Rw.pos (hf:∀a,(f a).length=k) {p:Option Addr} {m:Nat} {xs:List α} {c:aAc} (h:Rw f k p m xs c) (hm:0<m):∃b off cs T fz,p=some ⟨b,off,none⟩∧c=[(b,aCa cs T fz)]∧
  (∀i a,xs[i]? =some a→(cs.drop (off+i*k)).take k=f a)∧∀i j a v,xs[i]? =some a→(f a)[j]? =some v→cs[off+i*k+j]? =some v:=by
 obtain⟨hl,⟨h0,_⟩|⟨b,off,cs,T,fz,rfl,rfl,h⟩⟩:=h
 ·omega
 ·refine⟨b,off,cs,T,fz,rfl,rfl,fun i a hi=>bJm h (bLc hf hi) (hf a),fun i j a v hi hj=> ?_⟩
  have:=bLd hf hi hj []
  rw[AQ] at this
  rw[Nat.add_assoc]
  exact bJl h this
theorem Rw.ofVec (hf:∀a,(f a).length=k) {E:Nat} {p:Option Addr} {m cap:Nat} {xs:List α} {c:aAc} (h:Vec E k p m cap (xs.flatMap f) c) (hk:0<k):Rw f k p m xs c:=by
 have hl:xs.length=m:=by have:=h.1;rw[aGz hf] at this;exact Nat.eq_of_mul_eq_mul_right hk this
 rcases h.2 with⟨_,h0,_,hc⟩|⟨b,rest,hp,hc,_,_,_⟩
 ·exact⟨hl,.inl ⟨h0,hc⟩⟩
 ·refine⟨hl,.inr ⟨b,0,xs.flatMap f++rest,E,(0,0),hp,hc,?_⟩⟩
  rw[List.drop_zero,←h.1,List.take_left]
end
abbrev IE:=Int×Int
def ecl (e:IE):List Value:=[.int .i64 e.1,.int .i64 e.2]
def bcl (x:Bool):List Value:=[.bool x]
theorem aHr (e:IE):(ecl e).length=2:=rfl
theorem bOj (e:Bool):(bcl e).length=1:=rfl
theorem aGm:∀ts:List T5,flat ts=ts.flatMap aAl
 |[]=>rfl
 |t::ts=>by rw[A6,←aGm ts];rfl
theorem aAr (t:T5):(aAl t).length=5:=rfl
theorem RV.rw {p:Option Addr} {n:Nat} {ts:List T5} {c:aAc} (h:RV p n ts c):Rw aAl 5 p n ts c:=by
 obtain⟨h1,h2⟩:=h
 rw[aGm] at h2
 exact⟨h1,h2⟩
theorem Rw.rv {p:Option Addr} {n:Nat} {ts:List T5} {c:aAc} (h:Rw aAl 5 p n ts c):RV p n ts c:=by
 obtain⟨h1,h2⟩:=h
 rw[←aGm] at h2
 exact⟨h1,h2⟩
def gv (n:Int) (p:Option Addr) (m cap:Nat):Value:= .agg #[.int .i64 n,.slice p m cap]
def inE (n:Int) (e:IE):Prop:=0≤e.1∧e.1<n∧0≤e.2∧e.2<n
instance (n:Int) (e:IE):Decidable (inE n e):=by unfold inE;infer_instance
def aCc (n:Int) (es:List IE):Bool:=decide (0≤n∧n≤1073741824∧es.length≤1073741824)&&es.all fun e=>decide (inE n e)
theorem aRa (n:Int) (p:Option Addr) (m cap:Nat) (es:List IE) (c:aAc) (hv:Rw ecl 2 p m es c) (hm:m≤maxLen):
  CtQ AC 18 [gv n p m cap] [c] (.bool (aCc n es)):=by
 have hl:=hv.1
 simp only[maxLen] at hm
 have hbad:∀i e,es[i]? =some e→¬inE n e→aCc n es=false:=fun i e hi he=>by
  unfold aCc
  rw[Bool.and_eq_false_iff]
  exact .inr (by simp only[List.all_eq_false,decide_eq_true_eq];exact⟨e,AZ hi,he⟩)
 unfold gv
 by_cases h1:n<0
 ·have hb:aCc n es=false:=by unfold aCc;rw[decide_eq_false (by omega)];rfl
  rw[hb]
  refine Ct.intro Tryz.func18 rfl Tryz.ntmps18 (nle rfl) fun w0=> ?_;dsimp only[aAa,AD]
  repeat(refine st ?_;intros)
  (refine Dn.post (Hr:=[c]) Tryz.results18 (hR:= ?_);exact⟨rfl,rfl⟩)
 by_cases h2:1073741824<n
 ·have hb:aCc n es=false:=by unfold aCc;rw[decide_eq_false (by omega)];rfl
  rw[hb]
  refine Ct.intro Tryz.func18 rfl Tryz.ntmps18 (nle rfl) fun w0=> ?_;dsimp only[aAa,AD]
  repeat(refine st ?_;intros)
  (refine Dn.post (Hr:=[c]) Tryz.results18 (hR:= ?_);exact⟨rfl,rfl⟩)
 by_cases h3:1073741824<m
 ·have hb:aCc n es=false:=by unfold aCc;rw[decide_eq_false (by omega)];rfl
  rw[hb]
  refine Ct.intro Tryz.func18 rfl Tryz.ntmps18 (nle rfl) fun w0=> ?_;dsimp only[aAa,AD]
  repeat(refine st ?_;intros)
  (refine Dn.post (Hr:=[c]) Tryz.results18 (hR:= ?_);exact⟨rfl,rfl⟩)
 refine Ct.intro Tryz.func18 rfl Tryz.ntmps18 (nle rfl) fun w0=> ?_;dsimp only[aAa,AD]
 repeat(refine st ?_;intros)
 rename_i b1
 refine G.loop (X:=Nat) (fun i=>i≤m∧∀j e,j<i→es[j]? =some e→inE n e)
  (fun i=>[(3,.int .i64 (i:Int)),(1,pv b1)])
  (fun _=>[[(b1,row [.int .i64 n,.slice p m cap] 37)],c]) (fun i=>m-i) 0 ⟨AS _,fun j e h=>by omega⟩ (body:= ?_)
 rintro i ⟨hi,hin⟩
 by_cases hlt:i<m
 ·obtain⟨b,off,cs,T,fz,rfl,rfl,hcut,hget⟩:=hv.pos aHr (by omega)
  have hie:es[i]? =some es[i]:=AE (by omega)
  have hc:=hcut i _ hie
  have hno:=hbad i _ hie
  generalize he:es[i]=e at*
  obtain⟨u,v⟩:=e
  have hc':(cs.drop (off+i*2)).take 2=[.int .i64 u,.int .i64 v]:=hc
  by_cases g1:u<0
  ·rw[hno (by unfold inE;dsimp only;omega)]
   repeat(refine st ?_;intros)
   (refine Dn.post (Hr:=[[(b,aCa cs T fz)]]) Tryz.results18 (hR:= ?_);exact⟨rfl,rfl⟩)
  by_cases g2:n≤u
  ·rw[hno (by unfold inE;dsimp only;omega)]
   repeat(refine st ?_;intros)
   (refine Dn.post (Hr:=[[(b,aCa cs T fz)]]) Tryz.results18 (hR:= ?_);exact⟨rfl,rfl⟩)
  by_cases g3:v<0
  ·rw[hno (by unfold inE;dsimp only;omega)]
   repeat(refine st ?_;intros)
   (refine Dn.post (Hr:=[[(b,aCa cs T fz)]]) Tryz.results18 (hR:= ?_);exact⟨rfl,rfl⟩)
  by_cases g4:n≤v
  ·rw[hno (by unfold inE;dsimp only;omega)]
   repeat(refine st ?_;intros)
   (refine Dn.post (Hr:=[[(b,aCa cs T fz)]]) Tryz.results18 (hR:= ?_);exact⟨rfl,rfl⟩)
  repeat(refine st ?_;intros)
  refine Dn.round (i+1) ⟨by omega,fun j e hj hje=> ?_⟩ (by omega)
  by_cases hji:j=i
  ·subst hji
   rw[hie] at hje
   simp only[A9] at hje
   subst hje
   exact⟨by dsimp only;omega,by dsimp only;omega,by dsimp only;omega,by dsimp only;omega⟩
  ·exact hin j e (by omega) hje
 ·obtain rfl:i=m:=by omega
  have hb:aCc n es=true:=by
   unfold aCc
   rw[decide_eq_true (by omega),Bool.true_and,List.all_eq_true]
   intro e he
   obtain⟨j,hj,rfl⟩:=CQ he
   exact decide_eq_true (hin j _ (by omega) (AE hj))
  rw[hb]
  repeat(refine st ?_;intros)
  (refine Dn.post (Hr:=[c]) Tryz.results18 (hR:= ?_);exact⟨rfl,rfl⟩)
theorem bGc (n:Int) (p:Option Addr) (m cap:Nat) (a b:Int) (hm:m≤maxLen):CtQ AC 19 [gv n p m cap,.int .i64 a,.int .i64 b] [] (.bool (dec (n≤a∧(m:Int)≤b))):=by
 simp only[maxLen] at hm
 unfold gv
 by_cases h1:n≤a
 ·by_cases h2:(m:Int)≤b
  ·rw[aBq ⟨h1,h2⟩]
   refine Ct.intro Tryz.func19 rfl Tryz.ntmps19 (nle rfl) fun w0=> ?_;dsimp only[aAa,AD]
   repeat(refine st ?_;intros)
   (refine Dn.post (Hr:=[]) Tryz.results19 (hR:= ?_);exact⟨congrArg Value.bool (aBq h2),rfl⟩)
  ·rw[aCm (by omega)]
   refine Ct.intro Tryz.func19 rfl Tryz.ntmps19 (nle rfl) fun w0=> ?_;dsimp only[aAa,AD]
   repeat(refine st ?_;intros)
   (refine Dn.post (Hr:=[]) Tryz.results19 (hR:= ?_);exact⟨congrArg Value.bool (aCm h2),rfl⟩)
 ·rw[aCm (by omega)]
  refine Ct.intro Tryz.func19 rfl Tryz.ntmps19 (nle rfl) fun w0=> ?_;dsimp only[aAa,AD]
  repeat(refine st ?_;intros)
  (refine Dn.post (Hr:=[]) Tryz.results19 (hR:= ?_);exact⟨rfl,rfl⟩)
def gE (es:List IE) (i:Nat):Ed:=match es[i]? with
 |some e=>(e.1.toNat,e.2.toNat)
 |none=>(0,0)
def aXz (es:List IE) (ob:List Bool) (w:Int) (i:Nat):Prop:=∃e,es[i]? =some e∧e.1≠w∧e.2≠w∧ob[i]?≠some true
def aAs (l:List Int):List Value:=l.map (Value.int .i64)
theorem aEe {l:List Int} {i:Nat} {x:Int} (h:l[i]? =some x):(aAs l)[i]? =some (.int .i64 x):=by unfold aAs;rw[BP,h];rfl
theorem aDb (l:List Int) (i:Nat) (x:Int):(aAs l).set i (.int .i64 x)=aAs (l.set i x):=by unfold aAs;rw[List.map_set]
structure aOw (g:Nat→Ed) (S:Nat→Prop) (N:Nat) (w:Int) (l:List Int):Prop where
 len:l.length=N
 at_:∀v,v<N→(v:Int)≠w→∃x:Nat,l[v]? =some (x:Int)∧Cn g S v x∧x≤v∧(x:Int)≠w
 out:∀v,v<N→(v:Int)=w→l[v]? =some (-1)
structure aKf (g:Nat→Ed) (S:Nat→Prop) (N:Nat) (w:Int) (l:List Int):Prop where
 len:l.length=N
 at_:∀v,v<N→(v:Int)≠w→∃x:Nat,l[v]? =some (x:Int)∧Cn g S v x∧x≤v∧∀u,Cn g S v u→x≤u
 out:∀v,v<N→(v:Int)=w→l[v]? =some (-1)
def bCm (l:List Int):Nat:=(l.map Int.toNat).sum
theorem aNj {l:List Int} {i:Nat} {x y:Int} (h:l[i]? =some x) (hy:y.toNat<x.toNat):bCm (l.set i y)<bCm l:=by
 obtain⟨hi,rfl⟩:=AK.1 h
 unfold bCm
 have e1:l=l.take i++l[i]::l.drop (i+1):=by rw[←BM hi,BT]
 have e2:l.set i y=l.take i++y::l.drop (i+1):=by rw[List.set_eq_take_append_cons_drop,if_pos hi]
 rw[e2]
 conv=>rhs;rw[e1]
 simp only[List.map_append,A0,List.sum_append_nat,List.sum_cons]
 omega
theorem aOw.done {g:Nat→Ed} {S:Nat→Prop} {N:Nat} {w:Int} {l:List Int} (h:aOw g S N w l) (hs:∀i,S i→l[(g i).1]? =l[(g i).2]?):aKf g S N w l:=by
 refine⟨h.len,fun v hv hw=> ?_,h.out⟩
 obtain⟨x,h1,h2,h3,_⟩:=h.at_ v hv hw
 refine⟨x,h1,h2,h3,fun u hu=> ?_⟩
 have h4:l[u]? =l[v]? :=hu.stay (X:=fun y=>l[y]? =l[v]?) rfl fun i hi=>by rw[hs i hi]
 rw[h1] at h4
 have hun:u<N:=by rw[←h.len];exact(AK.1 h4).1
 by_cases huw:(u:Int)=w
 ·have:=h.out u hun huw;rw[h4] at this;simp only[A9] at this;omega
 ·obtain⟨y,h5,_,h6,_⟩:=h.at_ u hun huw
  rw[h4] at h5;simp only[A9] at h5;omega
theorem aOw.put {g:Nat→Ed} {S:Nat→Prop} {N:Nat} {w:Int} {l:List Int} (h:aOw g S N w l) {a b:Nat} {x y:Nat} (ha:l[a]? =some (x:Int)) (hb:l[b]? =some (y:Int)) (hj:Cn g S b a) (hxy:x≤y) (haw:(a:Int)≠w) (hbw:(b:Int)≠w):aOw g S N w (l.set b (x:Int)):=by
 have hbN:b<N:=by rw[←h.len];exact(AK.1 hb).1
 have haN:a<N:=by rw[←h.len];exact(AK.1 ha).1
 refine⟨by rw[DJ];exact h.len,fun v hv hw=> ?_,fun v hv hw=> ?_⟩
 ·by_cases hvb:v=b
  ·subst hvb
   obtain⟨x',h1,h2,h3,h4⟩:=h.at_ a haN haw
   obtain⟨y',g1,g2,g3,g4⟩:=h.at_ v hv hw
   rw[ha] at h1;rw[hb] at g1
   simp only[A9] at h1 g1
   obtain rfl:x=x':=by omega
   exact⟨x,by rw[DG (by rw[h.len];exact hv)],hj.trans h2,by omega,h4⟩
  ·obtain⟨x',h1,h2,h3⟩:=h.at_ v hv hw
   exact⟨x',by rw[CR (Ne.symm hvb)];exact h1,h2,h3⟩
 ·have hvb:v≠b:=fun e=>hbw (e▸hw)
  rw[CR (Ne.symm hvb)]
  exact h.out v hv hw
structure LabX where
 i:Nat
 l:List Int
 ch:Bool
theorem aOx {l:List Int} {i:Nat} {x:Int} (h:l[i]? =some x):l.set i x=l:=by
 obtain⟨hi,rfl⟩:=AK.1 h
 exact List.set_getElem_self hi
def n0 (N:Nat):List Int:=(BE N).map fun (v:Nat)=>(v:Int)
theorem aVm (N:Nat):(n0 N).length=N:=by simp[n0]
theorem bBr {N v:Nat} (h:v<N):(n0 N)[v]? =some (v:Int):=by simp[n0,h]
def nf (N i:Nat):List Int:=(n0 N).take i++BW (N-i) 0
theorem bLe (N i:Nat) (h:i≤N):(nf N i).length=N:=by simp[nf,aVm];omega
theorem bLf (N i:Nat) (h:i<N):(nf N i).set i (i:Int)=nf N (i+1):=by
 unfold nf
 have hl:((n0 N).take i).length=i:=by simp[aVm];omega
 rw[DW _ _ (by omega),hl,DF,show N-i=(N-(i+1))+1 by omega,List.replicate_succ,List.set_cons_zero,BN,bBr h]
 simp
theorem bLg (N:Nat):nf N N=n0 N:=by simp[nf,aVm,A4]
theorem aYa:∀N,aEn N [Value.int .i64 0]=aAs (nf N 0)
 |0=>rfl
 |N+1=>by
  have:=aYa N
  unfold nf aAs at this⊢
  simp only[List.take_zero,AB,Nat.sub_zero] at this⊢
  rw[List.replicate_succ,A0,←this];rfl
theorem n0in (g:Nat→Ed) (S:Nat→Prop) (N:Nat) (w:Int) (hw:¬(0≤w∧w<N)):aOw g S N w (n0 N):=
 ⟨aVm N,fun v hv hvw=>⟨v,bBr hv,.refl _,AG _,hvw⟩,fun v hv h=>absurd ⟨by omega,by omega⟩ hw⟩
theorem n0inW (g:Nat→Ed) (S:Nat→Prop) (N w:Nat) (hw:w<N):aOw g S N w ((n0 N).set w (-1)):=
 ⟨by rw[DJ];exact aVm N,fun v hv hvw=>⟨v,by rw[CR (by omega)];exact bBr hv,.refl _,AG _,hvw⟩,
  fun v hv h=>by
   obtain rfl:v=w:=by omega
   rw[DG (by rw[aVm];exact hv)]⟩
theorem bGd (N:Nat) (hN:N≤1000000) (p:Option Addr) (m cap:Nat) (es:List IE) (c:aAc) (hv:Rw ecl 2 p m es c) (hm:m≤1000000) (hf:∀e∈es,inE N e) (po:Option Addr) (ko capo:Nat) (ob:List Bool) (co:aAc) (hvo:Rw bcl 1 po ko ob co) (hko:ko≤1000000) (w:Int):
  Ct AC 104 [gv N p m cap,.slice po ko capo,.int .i64 w] [c,co] fun v H'=>∃bl l,v= .slice (some ⟨bl,0,none⟩) N N∧H'=[c,co,[(bl,row (aAs l) 3)]]∧aKf (gE es) (aXz es ob w) N w l:=by
 have hl:=hv.1
 have hlo:=hvo.1
 have hmx:∀x:Nat,x≤1000000→(x:Int)≤9223372036854775807:=fun x h=>by omega
 unfold gv
 refine Ct.intro Tryz.func104 rfl Tryz.ntmps104 (nle rfl) fun w0=> ?_;dsimp only[aAa,AD]
 repeat(first|(refine st ?_;intros)|refine G.draw [] (h:= ?_))
 rename_i b3 bl
 rw[aYa]
 refine G.loop (X:=Nat) (fun i=>i≤N) (fun i=>[(8,.int .i64 (i:Int)),(7,.slice (some ⟨bl,0,none⟩) N N),(3,pv b3),(1,.slice po ko capo),(2,.int .i64 w)])
  (fun i=>[[(bl,row (aAs (nf N i)) 3)],[(b3,row [.int .i64 (N:Int),.slice p m cap] 37)],c,co]) (fun i=>N-i) 0 (AS _) (body:= ?_)
 intro i hi
 by_cases hlt:i<N
 ·have hset:(aAs (nf N i)).set i (.int .i64 (i:Int))=aAs (nf N (i+1)):=by rw[aDb,bLf N i hlt]
  have hlen:i<(aAs (nf N i)).length:=by simp only[aAs,AX,bLe N i hi];exact hlt
  repeat(first|(refine st ?_;intros)|refine G.draw [] (h:= ?_))
  refine Dn.round (i+1) (by omega) (by omega)
 obtain rfl:i=N:=by omega
 rw[bLg]
 clear hi hlt
 apply G.seq
 repeat(first|(refine stn ?_;intros)|refine G.draw [] (h:= ?_))
 apply G.seq
 repeat(first|(refine stn ?_;intros)|refine G.draw [] (h:= ?_))
 refine G.cut (D':=[]) (X:=List Int) (fun l=>aOw (gE es) (aXz es ob w) i w l) (fun _=>[(7,.slice (some ⟨bl,0,none⟩) i i),(3,pv b3),(1,.slice po ko capo),(2,.int .i64 w)]) (fun l=>[[(bl,row (aAs l) 3)],[(b3,row [.int .i64 (i:Int),.slice p m cap] 37)],c,co]) ?_ ?_
 ·by_cases hw:0≤w∧w<i
  ·obtain⟨w',rfl⟩:∃w':Nat,w=(w':Int):=⟨w.toNat,by omega⟩
   have hset:(aAs (n0 i)).set w' (.int .i64 (-1))=aAs ((n0 i).set w' (-1)):=aDb _ _ _
   have hlen:w'<(aAs (n0 i)).length:=by simp only[aAs,AX,aVm];omega
   repeat(first|(refine st ?_;intros)|refine G.draw [] (h:= ?_))
   exact Dn.meet ((n0 i).set w' (-1)) (n0inW _ _ i w' (by omega))
  ·have hin:=n0in (gE es) (aXz es ob w) i w hw
   by_cases hw0:0≤w
   ·repeat(first|(refine st ?_;intros)|refine G.draw [] (h:= ?_))
    exact Dn.meet (n0 i) hin
   ·repeat(first|(refine st ?_;intros)|refine G.draw [] (h:= ?_))
    exact Dn.meet (n0 i) hin
 intro l0 hin0
 repeat(first|(refine st ?_;intros)|refine G.draw [] (h:= ?_))
 refine G.loop (X:=List Int×Bool) (fun x=>aOw (gE es) (aXz es ob w) i w x.1∧(x.2=false→∀j,aXz es ob w j→x.1[(gE es j).1]? =x.1[(gE es j).2]?))
  (fun x=>[(9,.bool x.2),(7,.slice (some ⟨bl,0,none⟩) i i),(3,pv b3),(1,.slice po ko capo),(2,.int .i64 w)]) (fun x=>[[(bl,row (aAs x.1) 3)],[(b3,row [.int .i64 (i:Int),.slice p m cap] 37)],c,co]) (fun x=>2*bCm x.1+(if x.2 then 1 else 0)) (l0,true) ⟨hin0,fun h=>by cases h⟩ (body:= ?_)
 rintro⟨l,ch⟩ ⟨hin,hst⟩
 dsimp only at hin hst⊢
 cases ch with
 |false=>
  repeat(first|(refine st ?_;intros)|refine G.draw [] (h:= ?_))
  (refine Dn.post (Hr:=[c,co,[(bl,row (aAs l) 3)]]) Tryz.results104 (hR:= ?_);exact⟨bl,l,rfl,rfl,hin.done (hst rfl)⟩)
 |true=>
 repeat(first|(refine st ?_;intros)|refine G.draw [] (h:= ?_))
 refine G.loop (X:=LabX) (fun x=>x.i≤m∧aOw (gE es) (aXz es ob w) i w x.l∧bCm x.l≤bCm l∧(x.ch=true→bCm x.l<bCm l)∧(x.ch=false→∀j,j<x.i→aXz es ob w j→x.l[(gE es j).1]? =x.l[(gE es j).2]?))
  (fun x=>[(10,.int .i64 (x.i:Int)),(9,.bool x.ch),(7,.slice (some ⟨bl,0,none⟩) i i),(3,pv b3),(1,.slice po ko capo),(2,.int .i64 w)]) (fun x=>[[(bl,row (aAs x.l) 3)],[(b3,row [.int .i64 (i:Int),.slice p m cap] 37)],c,co]) (fun x=>m-x.i) ⟨0,l,false⟩ ⟨AS _,hin,AG _,fun h=>(by cases h),fun _ j h=>absurd h (D2 j)⟩ (body:= ?_)
 rintro⟨k,l2,ch⟩ ⟨hk,hin2,hs1,hs2,hs3⟩
 dsimp only at hk hin2 hs1 hs2 hs3⊢
 by_cases hlt:k<m
 rotate_left
 ·obtain rfl:k=m:=by omega
  repeat(first|(refine st ?_;intros)|refine G.draw [] (h:= ?_))
  refine Dn.round (l2,ch) ⟨hin2,fun h j hj=>hs3 h j ?_ hj⟩ ?_
  ·obtain⟨e,h1,_⟩:=hj
   rw[←hl];exact(AK.1 h1).1
  ·dsimp only
   cases ch with
   |true=>have:=hs2 rfl;simp only[if_true];omega
   |false=>simp only[CN,if_false,if_true];omega
 obtain⟨b,off,cs,T,fz,rfl,rfl,hcut,hget⟩:=hv.pos aHr (by omega)
 have hie:es[k]? =some es[k]:=AE (by omega)
 have hc:=hcut k _ hie
 have hfe:=hf _ (AZ hie)
 generalize he:es[k]=e at*
 obtain⟨u,v⟩:=e
 obtain⟨f1,f2,f3,f4⟩:=hfe
 dsimp only at f1 f2 f3 f4
 obtain⟨u,rfl⟩:∃u':Nat,u=(u':Int):=⟨u.toNat,by omega⟩
 obtain⟨v,rfl⟩:∃v':Nat,v=(v':Int):=⟨v.toNat,by omega⟩
 have hc':(cs.drop (off+k*2)).take 2=[.int .i64 (u:Int),.int .i64 (v:Int)]:=hc
 have hgE:gE es k=(u,v):=by unfold gE;rw[hie];simp
 have hskip:¬aXz es ob w k→aOw (gE es) (aXz es ob w) i w l2∧bCm l2≤bCm l∧(ch=true→bCm l2<bCm l)∧(ch=false→∀j,j<k+1→aXz es ob w j→l2[(gE es j).1]? =l2[(gE es j).2]?):=fun hna=>
  ⟨hin2,hs1,hs2,fun h j hj ha=>by
   by_cases hjk:j=k
   ·subst hjk;exact absurd ha hna
   ·exact hs3 h j (by omega) ha⟩
 by_cases g1:(u:Int)=w
 ·obtain⟨q1,q2,q3,q4⟩:=hskip fun ⟨e,h1,h2,_⟩=>by rw[hie] at h1;simp only[A9] at h1;subst h1;exact h2 g1
  repeat(first|(refine st ?_;intros)|refine G.draw [] (h:= ?_))
  refine Dn.round ⟨k+1,l2,ch⟩ ⟨hlt,q1,q2,q3,q4⟩ (by dsimp only;omega)
 by_cases g2:(v:Int)=w
 ·obtain⟨q1,q2,q3,q4⟩:=hskip fun ⟨e,h1,_,h2,_⟩=>by rw[hie] at h1;simp only[A9] at h1;subst h1;exact h2 g2
  repeat(first|(refine st ?_;intros)|refine G.draw [] (h:= ?_))
  refine Dn.round ⟨k+1,l2,ch⟩ ⟨hlt,q1,q2,q3,q4⟩ (by dsimp only;omega)
 by_cases g3:k<ko
 ·obtain⟨ob',offo,cso,To,fzo,rfl,rfl,hcuto,hgeto⟩:=hvo.pos bOj (by omega)
  have hio:ob[k]? =some ob[k]:=AE (by omega)
  have hco:=hgeto k 0 _ _ hio rfl
  rw[Nat.mul_one,B6] at hco
  generalize hob:ob[k]=o at*
  cases o with
  |true=>
   obtain⟨q1,q2,q3,q4⟩:=hskip fun ⟨e,h1,_,_,h2⟩=>h2 hio
   repeat(first|(refine st ?_;intros)|refine G.draw [] (h:= ?_))
   refine Dn.round ⟨k+1,l2,ch⟩ ⟨hlt,q1,q2,q3,q4⟩ (by dsimp only;omega)
  |false=>
  have hact:aXz es ob w k:=⟨_,hie,g1,g2,by rw[hio];decide⟩
  obtain⟨x,x1,x2,x3,x4⟩:=hin2.at_ u (by omega) g1
  obtain⟨y,y1,y2,y3,y4⟩:=hin2.at_ v (by omega) g2
  have hcu:=aEe x1
  have hcv:=aEe y1
  have hcon:Cn (gE es) (aXz es ob w) u v:=by
   have:=Cn.edge (g:=gE es) hact
   rw[hgE] at this;exact this
  have hlu:u<(aAs l2).length:=by simp only[aAs,AX,hin2.len];omega
  have hlv:v<(aAs l2).length:=by simp only[aAs,AX,hin2.len];omega
  by_cases hxy:x=y
  ·subst hxy
   have hset:(aAs l2).set u (.int .i64 (x:Int))=aAs l2:=by
    rw[aDb];congr 1
    exact aOx x1
   repeat(first|(refine st ?_;intros)|refine G.draw [] (h:= ?_))
   refine Dn.round ⟨k+1,l2,ch⟩ ⟨hlt,hin2,hs1,hs2,fun h j hj ha=> ?_⟩ (by dsimp only;omega)
   by_cases hjk:j=k
   ·subst hjk;rw[hgE];exact x1.trans y1.symm
   ·exact hs3 h j (by dsimp only at hj;omega) ha
  ·by_cases hlt2:x<y
   ·have hset:(aAs l2).set v (.int .i64 (x:Int))=aAs (l2.set v (x:Int)):=aDb _ _ _
    have hsum:=aNj (y:=(x:Int)) y1 (by omega)
    have hput:=hin2.put x1 y1 hcon.symm (by omega) g1 g2
    repeat(first|(refine st ?_;intros)|refine G.draw [] (h:= ?_))
    refine Dn.round ⟨k+1,l2.set v (x:Int),true⟩ ⟨hlt,hput,by dsimp only;omega,fun _=>by dsimp only;omega,fun h=>(by cases h)⟩ (by dsimp only;omega)
   ·have hset:(aAs l2).set u (.int .i64 (y:Int))=aAs (l2.set u (y:Int)):=aDb _ _ _
    have hsum:=aNj (y:=(y:Int)) x1 (by omega)
    have hput:=hin2.put y1 x1 hcon (by omega) g2 g1
    repeat(first|(refine st ?_;intros)|refine G.draw [] (h:= ?_))
    refine Dn.round ⟨k+1,l2.set u (y:Int),true⟩ ⟨hlt,hput,by dsimp only;omega,fun _=>by dsimp only;omega,fun h=>(by cases h)⟩ (by dsimp only;omega)
 ·have hact:aXz es ob w k:=⟨_,hie,g1,g2,by rw[List.getElem?_eq_none (by omega)];decide⟩
  obtain⟨x,x1,x2,x3,x4⟩:=hin2.at_ u (by omega) g1
  obtain⟨y,y1,y2,y3,y4⟩:=hin2.at_ v (by omega) g2
  have hcu:=aEe x1
  have hcv:=aEe y1
  have hcon:Cn (gE es) (aXz es ob w) u v:=by
   have:=Cn.edge (g:=gE es) hact
   rw[hgE] at this;exact this
  have hlu:u<(aAs l2).length:=by simp only[aAs,AX,hin2.len];omega
  have hlv:v<(aAs l2).length:=by simp only[aAs,AX,hin2.len];omega
  by_cases hxy:x=y
  ·subst hxy
   have hset:(aAs l2).set u (.int .i64 (x:Int))=aAs l2:=by
    rw[aDb];congr 1
    exact aOx x1
   repeat(first|(refine st ?_;intros)|refine G.draw [] (h:= ?_))
   refine Dn.round ⟨k+1,l2,ch⟩ ⟨hlt,hin2,hs1,hs2,fun h j hj ha=> ?_⟩ (by dsimp only;omega)
   by_cases hjk:j=k
   ·subst hjk;rw[hgE];exact x1.trans y1.symm
   ·exact hs3 h j (by dsimp only at hj;omega) ha
  ·by_cases hlt2:x<y
   ·have hset:(aAs l2).set v (.int .i64 (x:Int))=aAs (l2.set v (x:Int)):=aDb _ _ _
    have hsum:=aNj (y:=(x:Int)) y1 (by omega)
    have hput:=hin2.put x1 y1 hcon.symm (by omega) g1 g2
    repeat(first|(refine st ?_;intros)|refine G.draw [] (h:= ?_))
    refine Dn.round ⟨k+1,l2.set v (x:Int),true⟩ ⟨hlt,hput,by dsimp only;omega,fun _=>by dsimp only;omega,fun h=>(by cases h)⟩ (by dsimp only;omega)
   ·have hset:(aAs l2).set u (.int .i64 (y:Int))=aAs (l2.set u (y:Int)):=aDb _ _ _
    have hsum:=aNj (y:=(y:Int)) x1 (by omega)
    have hput:=hin2.put y1 x1 hcon (by omega) g2 g1
    repeat(first|(refine st ?_;intros)|refine G.draw [] (h:= ?_))
    refine Dn.round ⟨k+1,l2.set u (y:Int),true⟩ ⟨hlt,hput,by dsimp only;omega,fun _=>by dsimp only;omega,fun h=>(by cases h)⟩ (by dsimp only;omega)
def aIq (n:Int) (t:T5):Prop:=0≤t.c0∧0≤t.c1∧0≤t.c2∧t.c1<n∧t.c2<n
instance (n:Int) (t:T5):Decidable (aIq n t):=by unfold aIq;infer_instance
def aIr (n:Int) (ts:List T5):Prop:=(∀t∈ts,aIq n t)∧ts.Pairwise fun a b=>a.c0≠b.c0
instance (n:Int) (ts:List T5):Decidable (aIr n ts):=by unfold aIr;infer_instance
theorem bGe (n:Nat) (hn:n≤1073741824) (p:Option Addr) (m cap:Nat) (ts:List T5) (c:aAc) (hv:RV p m ts c) (hm:m≤1000000):
  CtQ AC 102 [.int .i64 (n:Int),.slice p m cap] [c] (.bool (dec (aIr n ts))):=by
 have hl:=hv.1
 have hbad:∀i t,ts[i]? =some t→¬aIq n t→dec (aIr n ts)=false:=fun i t hi ht=>aCm fun h=>ht (h.1 t (AZ hi))
 refine Ct.intro Tryz.func102 rfl Tryz.ntmps102 (nle rfl) fun w0=> ?_;dsimp only[aAa,AD]
 repeat(first|(refine st ?_;intros)|refine G.draw [] (h:= ?_))
 refine G.loop (X:=Nat) (fun i=>i≤m∧(∀j t,j<i→ts[j]? =some t→aIq n t)∧∀j k t u,j<k→k<i→ts[j]? =some t→ts[k]? =some u→t.c0≠u.c0)
  (fun i=>[(5,.int .i64 (i:Int)),(1,.slice p m cap),(0,.int .i64 (n:Int))]) (fun _=>[c]) (fun i=>m-i) 0 ⟨AS _,fun j t h=>absurd h (D2 j),fun j k t u _ h=>absurd h (D2 k)⟩ (body:= ?_)
 rintro i ⟨hi,hin,hap⟩
 by_cases hlt:i<m
 ·obtain⟨b,off,cs,T,fz,rfl,rfl,_,hget⟩:=(RV.rw hv).pos aAr (by omega)
  have hit:ts[i]? =some ts[i]:=AE (by omega)
  have q0:=hget i 0 _ _ hit rfl
  have q1:=hget i 1 _ _ hit rfl
  have q2:=hget i 2 _ _ hit rfl
  rw[B6] at q0
  have hno:=hbad i _ hit
  generalize ht:ts[i]=t at*
  by_cases g0:t.c0<0
  ·rw[hno (by unfold aIq;omega)]
   repeat(first|(refine st ?_;intros)|refine G.draw [] (h:= ?_))
   (refine Dn.post (Hr:=[[(b,aCa cs T fz)]]) Tryz.results102 (hR:= ?_);exact⟨rfl,rfl⟩)
  by_cases g1:t.c1<0
  ·rw[hno (by unfold aIq;omega)]
   repeat(first|(refine st ?_;intros)|refine G.draw [] (h:= ?_))
   (refine Dn.post (Hr:=[[(b,aCa cs T fz)]]) Tryz.results102 (hR:= ?_);exact⟨rfl,rfl⟩)
  by_cases g2:t.c2<0
  ·rw[hno (by unfold aIq;omega)]
   repeat(first|(refine st ?_;intros)|refine G.draw [] (h:= ?_))
   (refine Dn.post (Hr:=[[(b,aCa cs T fz)]]) Tryz.results102 (hR:= ?_);exact⟨rfl,rfl⟩)
  by_cases g3:(n:Int)≤t.c1
  ·rw[hno (by unfold aIq;omega)]
   repeat(first|(refine st ?_;intros)|refine G.draw [] (h:= ?_))
   (refine Dn.post (Hr:=[[(b,aCa cs T fz)]]) Tryz.results102 (hR:= ?_);exact⟨rfl,rfl⟩)
  by_cases g4:(n:Int)≤t.c2
  ·rw[hno (by unfold aIq;omega)]
   repeat(first|(refine st ?_;intros)|refine G.draw [] (h:= ?_))
   (refine Dn.post (Hr:=[[(b,aCa cs T fz)]]) Tryz.results102 (hR:= ?_);exact⟨rfl,rfl⟩)
  repeat(first|(refine st ?_;intros)|refine G.draw [] (h:= ?_))
  refine G.loop (X:=Nat) (fun k=>k≤i∧∀j u,j<k→ts[j]? =some u→u.c0≠t.c0)
   (fun k=>[(6,.int .i64 (k:Int)),(5,.int .i64 (i:Int)),(1,.slice (some ⟨b,off,none⟩) m cap),(0,.int .i64 (n:Int))]) (fun _=>[[(b,aCa cs T fz)]]) (fun k=>i-k) 0 ⟨AS _,fun j u h=>absurd h (D2 j)⟩ (body:= ?_)
  rintro k ⟨hk,hne⟩
  by_cases hlt2:k<i
  ·have hkt:ts[k]? =some ts[k]:=AE (by omega)
   have r0:=hget k 0 _ _ hkt rfl
   rw[B6] at r0
   generalize hu:ts[k]=u at*
   by_cases he:u.c0=t.c0
   ·have hb:dec (aIr n ts)=false:=aCm fun h=>by
     have:=BQ.1 h.2 k i (by omega) (by omega) hlt2
     rw[hu,ht] at this
     exact this he
    rw[hb]
    repeat(first|(refine st ?_;intros)|refine G.draw [] (h:= ?_))
    (refine Dn.post (Hr:=[[(b,aCa cs T fz)]]) Tryz.results102 (hR:= ?_);exact⟨rfl,rfl⟩)
   ·repeat(first|(refine st ?_;intros)|refine G.draw [] (h:= ?_))
    refine Dn.round (k+1) ⟨hlt2,fun j u' hj hju=> ?_⟩ (by omega)
    by_cases hjk:j=k
    ·subst hjk;rw[hkt] at hju;simp only[A9] at hju;subst hju;exact he
    ·exact hne j u' (by omega) hju
  ·obtain rfl:k=i:=by omega
   repeat(first|(refine st ?_;intros)|refine G.draw [] (h:= ?_))
   refine Dn.round (k+1) ⟨hlt,fun j u hj hju=> ?_,fun j l u v hjl hl' hju hlv=> ?_⟩ (by omega)
   ·by_cases hjk:j=k
    ·subst hjk;rw[hit] at hju;simp only[A9] at hju;subst hju;exact⟨by omega,by omega,by omega,by omega,by omega⟩
    ·exact hin j u (by omega) hju
   ·by_cases hlk:l=k
    ·subst hlk;rw[hit] at hlv;simp only[A9] at hlv;subst hlv;exact hne j u hjl hju
    ·exact hap j l u v hjl (by omega) hju hlv
 ·obtain rfl:i=m:=by omega
  have hb:dec (aIr n ts)=true:=aBq ⟨fun t ht=>by
   obtain⟨j,hj,rfl⟩:=CQ ht
   exact hin j _ (by omega) (AE hj),BQ.2 fun j k hj hk hjk=>hap j k _ _ hjk (by omega) (AE hj) (AE hk)⟩
  rw[hb]
  repeat(first|(refine st ?_;intros)|refine G.draw [] (h:= ?_))
  (refine Dn.post (Hr:=[c]) Tryz.results102 (hR:= ?_);exact⟨rfl,rfl⟩)
theorem bGf {E sz:Nat} {p:Option Addr} {m cap:Nat} {xs:List Value} {c:aAc} (h:Vec E sz p m cap xs c) (hm:0<m):∃b rest,p=some ⟨b,0,none⟩∧c=[(b,row (xs++rest) E)]∧cap*sz≤xs.length+rest.length∧m≤cap∧cap≤maxLen:=by
 rcases h.2 with⟨_,e,_⟩|hh
 ·omega
 ·exact hh
theorem t_cut (A B:List T5) (t:T5) (r:List Value) {k:Nat} (hk:A.length=k):((flat (A++t::B)++r).drop (k*5)).take 5=[.int .i64 t.c0,.int .i64 t.c1,.int .i64 t.c2,.int .i64 t.c3,.int .i64 t.c4]:=by
 rw[aGm]
 exact aXy (k:=5) aAr (l:=A++t::B) (i:=k) (a:=t) (by subst hk;simp) r
theorem t_set (A B:List T5) (t u:T5) (r:List Value) {k:Nat} (hk:A.length=k):aFi (flat (A++t::B)++r) (k*5) [.int .i64 u.c0,.int .i64 u.c1,.int .i64 u.c2,.int .i64 u.c3,.int .i64 u.c4]=flat (A++u::B)++r:=by
 rw[aGm,aGm]
 have h:=bGb (k:=5) aAr (A++t::B) k u r (by subst hk;simp)
 have h2:(A++t::B).set k u=A++u::B:=by subst hk;simp
 rw[h2] at h
 exact h
theorem aHa (a:List T5):(flat a).length=a.length*5:=by rw[aGm,aGz aAr]
def eOf (t:T5):IE:=(t.c1,t.c2)
def aCd (l:List T5):List Value:=(l.map eOf).flatMap ecl
def aDx (l:List T5):List Value:=aAs (l.map (·.c0))
theorem bBs (a b:List T5):aCd (a++b)=aCd a++aCd b:=by simp[aCd]
theorem bBt (a b:List T5):aDx (a++b)=aDx a++aDx b:=by simp[aDx,aAs]
theorem aHb (a:List T5):(aCd a).length=a.length*2:=by unfold aCd;rw[aGz aHr,AX]
theorem aHc (a:List T5):(aDx a).length=a.length:=by simp[aDx,aAs]
theorem bOk (A B:List T5) (t:T5) (r:List Value) {k:Nat} (hk:A.length=k):((aCd (A++t::B)++r).drop (k*2)).take 2=[.int .i64 t.c1,.int .i64 t.c2]:=by
 have h:=aXy (k:=2) aHr (l:=(A++t::B).map eOf) (i:=k) (a:=eOf t) (by subst hk;simp) r
 exact h
theorem e_set (A B:List T5) (t u:T5) (r:List Value) {k:Nat} (hk:A.length=k):aFi (aCd (A++t::B)++r) (k*2) [.int .i64 u.c1,.int .i64 u.c2]=aCd (A++u::B)++r:=by
 have h:=bGb (k:=2) aHr ((A++t::B).map eOf) k (eOf u) r (by subst hk;simp)
 rw[←List.map_set] at h
 have h2:(A++t::B).set k u=A++u::B:=by subst hk;simp
 rw[h2] at h
 exact h
theorem bOl (A B:List T5) (t:T5) (r:List Value) {k:Nat} (hk:A.length=k):(aDx (A++t::B)++r)[k]? =some (.int .i64 t.c0):=by
 subst hk;simp[aDx,aAs,List.getElem?_append]
theorem n_set (A B:List T5) (t u:T5) (r:List Value) {k:Nat} (hk:A.length=k):(aDx (A++t::B)++r).set k (.int .i64 u.c0)=aDx (A++u::B)++r:=by
 subst hk;simp[aDx,aAs,List.set_append]
def Sn (l:List T5):Prop:=l.Pairwise fun a b=>a.c0≤b.c0
structure GrX where
 i:Nat
 sl:List T5
 pe:Option Addr
 ce:Nat
 he:aAc
 pn:Option Addr
 cn:Nat
 hn:aAc
structure GrY where
 kz:Int
 A:List T5
 B:List T5
theorem bGg (n:Nat) (p:Option Addr) (m cap:Nat) (ts:List T5) (c:aAc) (hv:RV p m ts c) (hm:m≤1000000):
  Ct AC 103 [.int .i64 (n:Int),.slice p m cap] [c] fun v H'=>∃sl pe ce he pn cn hn,v= .tuple #[gv n pe m ce,.slice pn m cn]∧H'=[c,he,hn]∧
   Vec 51 2 pe m ce (aCd sl) he∧Vec 2 1 pn m cn (aDx sl) hn∧sl.Perm ts∧Sn sl:=by
 have hl:=hv.1
 unfold gv
 refine Ct.intro Tryz.func103 rfl Tryz.ntmps103 (nle rfl) fun w0=> ?_;dsimp only[aAa,AD]
 repeat(first|(refine st ?_;intros)|refine G.draw [] (h:= ?_)|refine G.draw (id:=11) [(10,.eff [8])] (h:= ?_))
 rename_i b4 b6
 refine G.loop (X:=GrX) (fun x=>x.i≤m∧x.sl.Perm (ts.take x.i)∧Sn x.sl∧Vec 51 2 x.pe x.i x.ce (aCd x.sl) x.he∧Vec 2 1 x.pn x.i x.cn (aDx x.sl) x.hn)
  (fun x=>[(8,.int .i64 (x.i:Int)),(7,.slice x.pn x.i x.cn),(6,pv b6),(4,pv b4),(1,.slice p m cap)])
  (fun x=>[[(b6,row [.int .i64 (n:Int),.slice x.pe x.i x.ce] 37)],[(b4,row [.int .i64 0,.slice none 0 0] 37)],c,x.he,x.hn]) (fun x=>m-x.i) ⟨0,[],none,0,[],none,0,[]⟩
  ⟨AS _,by simp,DU,Vec.nil _ _,Vec.nil _ _⟩ (by repeat(first|exact trivial|refine⟨rfl,?_⟩)) (by repeat(first|exact aAo.nil|(apply aAo.cons;·(first|exact aAn.nil|(repeat(first|exact aAn.here|apply aAn.there)))))) ?_
 rintro⟨i,sl,pe,ce,he,pn,cn,hn⟩ ⟨hi,hp,hs,hVe,hVn⟩
 dsimp only at hi hp hs hVe hVn⊢
 by_cases hlt:i<m
 ·obtain⟨b,off,cs,T,fz,rfl,rfl,_,hget⟩:=(RV.rw hv).pos aAr (by omega)
  have hit:ts[i]? =some ts[i]:=AE (by omega)
  have q0:=hget i 0 _ _ hit rfl
  have q1:=hget i 1 _ _ hit rfl
  have q2:=hget i 2 _ _ hit rfl
  rw[B6] at q0
  generalize ht:ts[i]=t at*
  have hmx:i+1≤maxLen:=by simp only[maxLen];omega
  have hsl:sl.length=i:=by have:=hp.length_eq;rw[BK] at this;omega
  repeat(first|(refine st ?_;intros)|refine G.draw [] (h:= ?_)|refine G.draw (id:=11) [(10,.eff [8])] (h:= ?_))
  rename_i b33 pe' ce' he' hVe' b42 pn' cn' hn' hVn'
  have hVe2:Vec 51 2 pe' (i+1) ce' (aCd (sl++[t])) he':=by rw[bBs];exact hVe'
  have hVn2:Vec 2 1 pn' (i+1) cn' (aDx (sl++[t])) hn':=by rw[bBt];exact hVn'
  obtain⟨eb,re,rfl,rfl,hre,hce,hcm⟩:=bGf hVe2 (Nat.succ_pos _)
  obtain⟨nb,rn,rfl,rfl,hrn,hcn,hcm2⟩:=bGf hVn2 (Nat.succ_pos _)
  clear hVe hVn hVe' hVn'
  rw[aHb,AF,CM,hsl] at hre
  rw[aHc,AF,CM,hsl] at hrn
  refine G.loop (X:=GrY) (fun x=>x.A++x.B=sl∧x.kz=(x.A.length:Int)∧∀u∈x.B,t.c0<u.c0)
   (fun x=>[(9,.int .i64 x.kz),(8,.int .i64 (i:Int)),(7,.slice (some ⟨nb,0,none⟩) (i+1) cn'),(6,pv b6),(4,pv b4),(1,.slice (some ⟨b,off,none⟩) m cap)])
   (fun x=>[[(b6,row [.int .i64 (n:Int),.slice (some ⟨eb,0,none⟩) (i+1) ce'] 37)],[(b4,row [.int .i64 0,.slice none 0 0] 37)],[(b,aCa cs T fz)],[(eb,row (aCd (x.A++t::x.B)++re) 51)],[(nb,row (aDx (x.A++t::x.B)++rn) 2)]]) (fun x=>x.A.length) ⟨(i:Int),sl,[]⟩ ⟨by simp,by dsimp only;omega,by simp⟩ (body:= ?_)
  rintro⟨kz,A,B⟩ ⟨hAB,hkz,hB⟩
  dsimp only at hAB hkz hB⊢
  have hABl:A.length+B.length=i:=by rw[←hsl,←hAB,AF]
  have hend:(∀u∈A,u.c0≤t.c0)→(A++t::B).Perm (ts.take (i+1))∧Sn (A++t::B)∧Vec 51 2 (some ⟨eb,0,none⟩) (i+1) ce' (aCd (A++t::B)) [(eb,row (aCd (A++t::B)++re) 51)]∧
    Vec 2 1 (some ⟨nb,0,none⟩) (i+1) cn' (aDx (A++t::B)) [(nb,row (aDx (A++t::B)++rn) 2)]:=by
   intro hA
   refine⟨?_,?_,Vec.mk' rfl (by rw[aHb];simp;omega) (by rw[AF,aHb];simp;omega) hce hcm,Vec.mk' rfl (by rw[aHc];simp;omega) (by rw[AF,aHc];simp;omega) hcn hcm2⟩
   ·rw[BN,hit]
    refine(List.perm_middle.trans ?_)
    rw[hAB]
    exact(hp.cons t).trans (List.perm_append_comm (l₁:=[t]))
   ·unfold Sn at hs⊢
    rw[←hAB,CG] at hs
    rw[CG,List.pairwise_cons]
    exact⟨hs.1,⟨fun u hu=>Int.le_of_lt (hB u hu),hs.2.1⟩,fun x hx y hy=>by
     rcases AM.1 hy with rfl|hy
     ·exact hA x hx
     ·exact hs.2.2 x hx y hy⟩
  rcases List.eq_nil_or_concat A with rfl|⟨A',x,rfl⟩
  ·obtain⟨e1,e2,e3,e4⟩:=hend (by simp)
   have hk0:kz=0:=by simpa using hkz
   repeat(first|(refine st ?_;intros)|refine G.draw [] (h:= ?_)|refine G.draw (id:=11) [(10,.eff [8])] (h:= ?_))
   refine Dn.round ⟨i+1,[]++t::B,_,ce',_,_,cn',_⟩ ⟨hlt,e1,e2,e3,e4⟩ (by dsimp only;omega)
  ·have hkA:kz=((A'.length+1:Nat):Int):=by simpa using hkz
   have ek:kz.toNat=A'.length+1:=by omega
   have ek1:(kz-1).toNat=A'.length:=by omega
   have hA1:A'.length+1+B.length=i:=by simpa using hABl
   have hform:∀u v:T5,(A'++[u])++v::B=A'++u::v::B:=fun u v=>by simp
   rw[List.concat_eq_append] at*
   rw[hform]
   have c1:=bOk (A'++[x]) B t re (k:=A'.length+1) (by simp)
   have c2:=bOk A' (t::B) x re rfl
   have s1:=e_set (A'++[x]) B t x re (k:=A'.length+1) (by simp)
   have s2:=e_set A' (x::B) x t re rfl
   have d1:=bOl (A'++[x]) B t rn (k:=A'.length+1) (by simp)
   have d2:=bOl A' (t::B) x rn rfl
   have u1:=n_set (A'++[x]) B t x rn (k:=A'.length+1) (by simp)
   have u2:=n_set A' (x::B) x t rn rfl
   simp only[hform] at c1 s1 d1 u1
   have l1:(A'.length+1)*2+2≤(aCd (A'++x::t::B)++re).length:=by rw[AF,aHb];simp;omega
   have l2:(A'.length+1)*2+2≤(aCd (A'++x::x::B)++re).length:=by rw[AF,aHb];simp;omega
   have l3:A'.length+1<(aDx (A'++x::t::B)++rn).length:=by rw[AF,aHc];simp;omega
   have l4:A'.length+1<(aDx (A'++x::x::B)++rn).length:=by rw[AF,aHc];simp;omega
   by_cases hxt:t.c0<x.c0
   ·have hrow:∀r:List Value,aCd (A'++t::x::B)++re=r→True:=fun _ _=>trivial
    generalize hr0:aCd (A'++x::t::B)++re=r0 at*
    generalize hr1:aCd (A'++x::x::B)++re=r1 at*
    generalize hm0:aDx (A'++x::t::B)++rn=m0 at*
    generalize hm1:aDx (A'++x::x::B)++rn=m1 at*
    repeat(first|(refine st ?_;intros)|refine G.draw [] (h:= ?_)|refine G.draw (id:=11) [(10,.eff [8])] (h:= ?_))
    refine Dn.round ⟨kz-1,A',x::B⟩ ⟨by rw[←hAB];simp,by dsimp only;omega,fun u hu=> ?_⟩ (by simp)
    rcases AM.1 hu with rfl|hu
    ·exact hxt
    ·exact hB u hu
   ·obtain⟨e1,e2,e3,e4⟩:=hend (fun u hu=>by
     unfold Sn at hs
     rw[←hAB,CG,CG] at hs
     rcases AO.1 hu with hu|hu
     ·have:=hs.1.2.2 u hu x (by simp);omega
     ·simp only[List.mem_singleton] at hu;subst hu;omega)
    simp only[hform] at e1 e2 e3 e4
    repeat(first|(refine st ?_;intros)|refine G.draw [] (h:= ?_)|refine G.draw (id:=11) [(10,.eff [8])] (h:= ?_))
    refine Dn.round ⟨i+1,A'++x::t::B,_,ce',_,_,cn',_⟩ ⟨hlt,e1,e2,e3,e4⟩ (by dsimp only;omega)
 ·obtain rfl:i=m:=by omega
  rw[A4 (by omega)] at hp
  repeat(first|(refine st ?_;intros)|refine G.draw [] (h:= ?_)|refine G.draw (id:=11) [(10,.eff [8])] (h:= ?_))
  (refine Dn.post (Hr:=[c,he,hn]) Tryz.results103 (hR:= ?_);exact⟨sl,pe,ce,he,pn,cn,hn,rfl,rfl,hVe,hVn,hp,hs⟩)
def aFc (l:List Bool):List Value:=l.map Value.bool
theorem bBu (l:List Bool) (i:Nat) (x:Bool):(aFc l).set i (.bool x)=aFc (l.set i x):=by unfold aFc;rw[List.map_set]
theorem bLh:∀N,aEn N [Value.bool false]=aFc (BW N false)
 |0=>rfl
 |N+1=>by
  have:=bLh N
  unfold aFc at this⊢
  rw[List.replicate_succ,A0,←this];rfl
structure bJn (g:Nat→Ed) (i N:Nat) (l:List Int):Prop where
 len:l.length=N
 nat:∀v,v<N→∃x:Nat,l[v]? =some (x:Int)
 eq:∀a b,a<N→b<N→(l[a]? =l[b]?↔Cn g (fun j=>j<i) a b)
def aFk (la lb:Int) (l:List Int):List Int:=l.map fun y=>if y=lb then la else y
theorem bJn.step {g:Nat→Ed} {i N:Nat} {l:List Int} (h:bJn g i N l) {la lb:Int} (hu:(g i).1<N) (hv:(g i).2<N) (ha:l[(g i).1]? =some la) (hb:l[(g i).2]? =some lb):bJn g (i+1) N (aFk la lb l):=by
 refine⟨by unfold aFk;rw[AX];exact h.len,fun v hv'=> ?_,fun a b ha' hb'=> ?_⟩
 ·obtain⟨x,hx⟩:=h.nat v hv'
  obtain⟨y,hy⟩:=h.nat _ hu
  rw[ha] at hy;simp only[A9] at hy
  unfold aFk
  rw[BP,hx]
  by_cases hxb:(x:Int)=lb
  ·exact⟨y,by simp[hxb,hy]⟩
  ·exact⟨x,by simp[hxb]⟩
 ·have hc:Cn g (fun j=>j<i+1) a b↔Cn g (fun j=>j<i) a b∨(Cn g (fun j=>j<i) a (g i).1∧Cn g (fun j=>j<i) (g i).2 b)∨(Cn g (fun j=>j<i) a (g i).2∧Cn g (fun j=>j<i) (g i).1 b):=by
   constructor
   ·intro hc
    exact Cn.add (hc.mono fun j hj=>by omega)
   ·have hm:∀{x y},Cn g (fun j=>j<i) x y→Cn g (fun j=>j<i+1) x y:=fun hc=>hc.mono fun j hj=>Nat.lt_succ_of_lt hj
    have he:Cn g (fun j=>j<i+1) (g i).1 (g i).2:=Cn.edge (Nat.lt_succ_self i)
    rintro(h1|⟨h1,h2⟩|⟨h1,h2⟩)
    ·exact hm h1
    ·exact((hm h1).trans he).trans (hm h2)
    ·exact((hm h1).trans he.symm).trans (hm h2)
  rw[hc,←h.eq a b ha' hb',←h.eq a _ ha' hu,←h.eq _ b hv hb',←h.eq a _ ha' hv,←h.eq _ b hu hb',ha,hb]
  obtain⟨x,hx⟩:=h.nat a ha'
  obtain⟨y,hy⟩:=h.nat b hb'
  unfold aFk
  rw[BP,BP,hx,hy]
  simp only[Option.map_some,A9]
  by_cases h1:(x:Int)=lb<;>by_cases h2:(y:Int)=lb<;>simp only[h1,h2,if_true,if_false]<;>constructor<;>intro h3<;>first|omega|(simp[h1,h2] at h3⊢;omega)|(simp_all)
theorem bBv (la lb:Int) (l:List Int) (k:Nat) {y:Int} (h:l[k]? =some y):((aFk la lb l).take k++l.drop k).set k (if y=lb then la else y)=(aFk la lb l).take (k+1)++l.drop (k+1):=by
 obtain⟨hk,rfl⟩:=AK.1 h
 have hl:((aFk la lb l).take k).length=k:=by unfold aFk;simp;omega
 rw[DW _ _ (by omega),hl,DF,BM hk,List.set_cons_zero,BN]
 unfold aFk
 rw[BP,AE hk]
 simp
def aJh (es:List IE) (fl:List Bool):Prop:=fl.length=es.length∧∀i b,fl[i]? =some b→(b=true↔Kr (gE es) (fun j=>j<es.length) i)
structure FoX where
 i:Nat
 l:List Int
 f:List Bool
theorem bBw (N:Nat) (hN:N≤1000000) (p:Option Addr) (m cap:Nat) (es:List IE) (c:aAc) (hv:Rw ecl 2 p m es c) (hm:m≤1000000) (hf:∀e∈es,inE N e):
  Ct AC 105 [gv N p m cap] [c] fun v H'=>∃bi fl,v= .slice (some ⟨bi,0,none⟩) m m∧H'=[c,[(bi,row (aFc fl) 4)]]∧aJh es fl:=by
 have hl:=hv.1
 unfold gv
 refine Ct.intro Tryz.func105 rfl Tryz.ntmps105 (nle rfl) fun w0=> ?_;dsimp only[aAa,AD]
 repeat(first|(refine st ?_;intros)|refine G.draw [] (h:= ?_))
 rename_i b1 bi bl
 rw[aYa,bLh]
 refine G.loop (X:=Nat) (fun i=>i≤N) (fun i=>[(5,.int .i64 (i:Int)),(4,.slice (some ⟨bl,0,none⟩) N N),(3,.slice (some ⟨bi,0,none⟩) m m),(1,pv b1)])
  (fun i=>[[(bl,row (aAs (nf N i)) 3)],[(bi,row (aFc (BW m false)) 4)],[(b1,row [.int .i64 (N:Int),.slice p m cap] 37)],c]) (fun i=>N-i) 0 (AS _) (body:= ?_)
 intro i hi
 by_cases hlt:i<N
 ·have hset:(aAs (nf N i)).set i (.int .i64 (i:Int))=aAs (nf N (i+1)):=by rw[aDb,bLf N i hlt]
  have hlen:i<(aAs (nf N i)).length:=by simp only[aAs,AX,bLe N i hi];exact hlt
  repeat(first|(refine st ?_;intros)|refine G.draw [] (h:= ?_))
  refine Dn.round (i+1) (by omega) (by omega)
 obtain rfl:i=N:=by omega
 rw[bLg]
 clear hi hlt
 repeat(first|(refine st ?_;intros)|refine G.draw [] (h:= ?_))
 refine G.loop (X:=FoX) (fun x=>x.i≤m∧bJn (gE es) x.i i x.l∧x.f.length=m∧∀j b,j<x.i→x.f[j]? =some b→(b=true↔Kr (gE es) (fun j=>j<es.length) j))
  (fun x=>[(6,.int .i64 (x.i:Int)),(4,.slice (some ⟨bl,0,none⟩) i i),(3,.slice (some ⟨bi,0,none⟩) m m),(1,pv b1)]) (fun x=>[[(bl,row (aAs (x.l)) 3)],[(bi,row (aFc (x.f)) 4)],[(b1,row [.int .i64 (i:Int),.slice p m cap] 37)],c]) (fun x=>m-x.i) ⟨0,n0 i,BW m false⟩
  ⟨AS _,⟨aVm i,fun v hv=>⟨v,bBr hv⟩,fun a b ha hb=>by
   rw[bBr ha,bBr hb]
   constructor
   ·intro h;obtain rfl:a=b:=by simp only[A9] at h;omega
    exact .refl _
   ·intro h
    have:a=b:=h.stay (X:=fun y=>a=y) rfl (fun j hj=>absurd hj (D2 j))
    rw[this]⟩,by simp,fun j b h=>absurd h (D2 j)⟩ (body:= ?_)
 rintro⟨k,l,f⟩ ⟨hk,hL,hfl,hfo⟩
 dsimp only at hk hL hfl hfo⊢
 by_cases hlt:k<m
 rotate_left
 ·obtain rfl:k=m:=by omega
  repeat(first|(refine st ?_;intros)|refine G.draw [] (h:= ?_))
  (refine Dn.post (Hr:=[c,[(bi,row (aFc f) 4)]]) Tryz.results105 (hR:= ?_);exact⟨bi,f,rfl,rfl,by omega,fun j b hj=>hfo j b (by rw[←hfl];exact(AK.1 hj).1) hj⟩)
 obtain⟨b,off,cs,T,fz,rfl,rfl,hcut,hget⟩:=hv.pos aHr (by omega)
 have hie:es[k]? =some es[k]:=AE (by omega)
 have q0:=hget k 0 _ _ hie rfl
 have q1:=hget k 1 _ _ hie rfl
 rw[B6] at q0
 have hfe:=hf _ (AZ hie)
 generalize he:es[k]=e at*
 obtain⟨u,v⟩:=e
 obtain⟨f1,f2,f3,f4⟩:=hfe
 dsimp only at f1 f2 f3 f4 q0 q1
 obtain⟨u,rfl⟩:∃u':Nat,u=(u':Int):=⟨u.toNat,by omega⟩
 obtain⟨v,rfl⟩:∃v':Nat,v=(v':Int):=⟨v.toNat,by omega⟩
 have hgE:gE es k=(u,v):=by unfold gE;rw[hie];simp
 obtain⟨la,x1⟩:=hL.nat u (by omega)
 obtain⟨lb,y1⟩:=hL.nat v (by omega)
 have hcu:=aEe x1
 have hcv:=aEe y1
 have hstep:=hL.step (la:=la) (lb:=lb) (by rw[hgE];dsimp only;omega) (by rw[hgE];dsimp only;omega) (by rw[hgE];exact x1) (by rw[hgE];exact y1)
 have hkr:dec ((la:Int)≠(lb:Int))=true↔Kr (gE es) (fun j=>j<es.length) k:=by
  have h1:=hL.eq u v (by omega) (by omega)
  rw[x1,y1,A9] at h1
  rw[aRi]
  unfold Kr
  rw[hgE]
  have h2:Cn (gE es) (fun j=>j<es.length∧j<k) u v↔Cn (gE es) (fun j=>j<k) u v:=Cn.congr fun j=>⟨fun h=>h.2,fun h=>⟨by omega,h⟩⟩
  rw[h2,←h1]
  exact⟨fun h=>⟨by omega,h⟩,fun h=>h.2⟩
 have hsetf:(aFc f).set k (.bool (dec ((la:Int)≠(lb:Int))))=aFc (f.set k (dec ((la:Int)≠(lb:Int)))):=bBu _ _ _
 have hlenf:k<(aFc f).length:=by simp only[aFc,AX];omega
 repeat(first|(refine st ?_;intros)|refine G.draw [] (h:= ?_))
 refine G.loop (X:=Nat) (fun j=>j≤i) (fun j=>[(9,.int .i64 (j:Int)),(8,.int .i64 (lb:Int)),(7,.int .i64 (la:Int)),(6,.int .i64 (k:Int)),(4,.slice (some ⟨bl,0,none⟩) i i),(3,.slice (some ⟨bi,0,none⟩) m m),(1,pv b1)])
  (fun j=>[[(bl,row (aAs ((aFk la lb l).take j++l.drop j)) 3)],[(bi,row (aFc (f.set k (dec ((la:Int)≠(lb:Int))))) 4)],[(b1,row [.int .i64 (i:Int),.slice (some ⟨b,off,none⟩) m cap] 37)],[(b,aCa cs T fz)]]) (fun j=>i-j) 0 (AS _) (body:= ?_)
 intro j hj
 by_cases hlt3:j<i
 ·obtain⟨y,hy⟩:=hL.nat j hlt3
  have hcy:(aAs ((aFk la lb l).take j++l.drop j))[j]? =some (.int .i64 (y:Int)):=by
   refine aEe ?_
   have hl2:((aFk la lb l).take j).length=j:=by unfold aFk;simp[hL.len];omega
   rw[BB (by omega),hl2,DF,BS]
   exact hy
  have hrt:=bBv la lb l j hy
  by_cases hyb:(y:Int)=lb
  ·have hset:(aAs ((aFk la lb l).take j++l.drop j)).set j (.int .i64 (la:Int))=aAs ((aFk la lb l).take (j+1)++l.drop (j+1)):=by
    rw[aDb];rw[if_pos hyb] at hrt;rw[hrt]
   have hlen:j<(aAs ((aFk la lb l).take j++l.drop j)).length:=(AK.1 hcy).1
   repeat(first|(refine st ?_;intros)|refine G.draw [] (h:= ?_))
   refine Dn.round (j+1) (by omega) (by omega)
  ·have hsame:(aFk la lb l).take j++l.drop j=(aFk la lb l).take (j+1)++l.drop (j+1):=by
    rw[if_neg hyb] at hrt;rw[←hrt]
    refine(aOx ?_).symm
    have hl2:((aFk la lb l).take j).length=j:=by unfold aFk;simp[hL.len];omega
    rw[BB (by omega),hl2,DF,BS]
    exact hy
   repeat(first|(refine st ?_;intros)|refine G.draw [] (h:= ?_))
   rw[hsame]
   refine Dn.round (j+1) (by omega) (by omega)
 ·obtain rfl:j=i:=by omega
  have hdone:(aFk la lb l).take j++l.drop j=aFk la lb l:=by
   rw[List.drop_eq_nil_of_le (by rw[hL.len];exact AG _),AQ,A4 (by unfold aFk;rw[AX,hL.len];exact AG _)]
  rw[hdone]
  repeat(first|(refine st ?_;intros)|refine G.draw [] (h:= ?_))
  refine Dn.round ⟨k+1,aFk la lb l,f.set k (dec ((la:Int)≠(lb:Int)))⟩ ⟨hlt,hstep,by rw[DJ];exact hfl,fun q bq hq hfq=> ?_⟩ (by dsimp only;omega)
  dsimp only at hq hfq
  by_cases hqk:q=k
  ·subst hqk
   rw[DG (by omega)] at hfq
   simp only[A9] at hfq
   subst hfq;exact hkr
  ·rw[CR (by omega)] at hfq
   exact hfo q bq (by omega) hfq
def aHg (l:List Int):List T5:=(BE l.length).map fun (v:Nat)=>⟨(v:Int),l.getD v 0,0,0,0⟩
def aCq (sl:List T5) (fl:List Bool):List T5:=(sl.zip fl).filterMap fun x=>if x.2 then some ⟨x.1.c0,x.1.c1,x.1.c2,0,0⟩ else none
def aSn (N:Nat) (ts a b:List T5):Prop:=∃sl fl lab,sl.Perm ts∧Sn sl∧aKf (gE (sl.map eOf)) (fun i=>i<sl.length) N (-1) lab∧aJh (sl.map eOf) fl∧a=aHg lab∧b=aCq sl fl
theorem bGh {l:List Int} {v:Nat} {x:Int} (h:l[v]? =some x):(aHg l).take (v+1)=(aHg l).take v++[⟨(v:Int),x,0,0,0⟩]:=by
 obtain⟨hv,rfl⟩:=AK.1 h
 unfold aHg
 rw[BN,BP,List.getElem?_range hv]
 simp[hv]
theorem bGi {sl:List T5} {fl:List Bool} {i:Nat} {t:T5} {b:Bool} (h1:sl[i]? =some t) (h2:fl[i]? =some b):
  aCq (sl.take (i+1)) (fl.take (i+1))=aCq (sl.take i) (fl.take i)++(if b then[⟨t.c0,t.c1,t.c2,0,0⟩] else[]):=by
 obtain⟨ha,rfl⟩:=AK.1 h1
 obtain⟨hb,rfl⟩:=AK.1 h2
 unfold aCq
 rw[BN,BN,AE ha,AE hb,List.zip_append (by simp;omega),List.filterMap_append]
 congr 1
 simp only[Option.toList_some,List.zip_cons_cons,List.zip_nil_left,List.filterMap_cons,List.filterMap_nil]
 cases fl[i]<;>rfl
theorem flat_append (a b:List T5):flat (a++b)=flat a++flat b:=by rw[aGm,aGm,aGm,B9]
structure CoX where
 i:Nat
 p:Option Addr
 k:Nat
 cap:Nat
 ch:aAc
theorem bJo (N:Nat) (hN:N≤1000000) (p:Option Addr) (m cap:Nat) (ts:List T5) (c:aAc) (hv:RV p m ts c) (hm:m≤1000000) (ho:aIr N ts):
  Ct AC 56 [.int .i64 (N:Int),.slice p m cap] [c] fun v H'=>∃pa na ka ca pb nb kb cb a b,v= .tuple #[.slice pa na ka,.slice pb nb kb,.bool true]∧H'=[c,ca,cb]∧RV pa na a ca∧RV pb nb b cb∧nb≤m∧aSn N ts a b:=by
 have hE:=bGe N (by omega) p m cap ts c hv hm
 rw[aBq ho] at hE
 have hG:=bGg N p m cap ts c hv hm
 refine Ct.intro Tryz.func56 rfl Tryz.ntmps56 (nle rfl) fun w0=> ?_;dsimp only[aAa,AD]
 repeat(first|(refine st ?_;intros)|refine G.draw [] (h:= ?_)|(refine cq hE ?_))
 refine R.call (hct:=hG) (h:= ?_)
 rintro _ _ ⟨sl,pe,ce,he,pn,cn,hn,rfl,rfl,hVe,hVn,hp,hs⟩
 try dsimp only[AA,AB]
 have hsl:sl.length=m:=hp.length_eq.trans hv.1
 have hR:Rw ecl 2 pe m (sl.map eOf) he:=Rw.ofVec aHr hVe (by omega)
 have hin:∀e∈sl.map eOf,inE N e:=by
  intro e he
  obtain⟨t,ht,rfl⟩:=AT.1 he
  obtain⟨_,h1,h2,h3,h4⟩:=ho.1 t (hp.mem_iff.1 ht)
  exact⟨h1,h3,h2,h4⟩
 have hLb:=bGd N hN pe m ce (sl.map eOf) he hR hm hin none 0 0 [] [] ⟨rfl,.inl ⟨rfl,rfl⟩⟩ (by omega) (-1)
 have hFo:=bBw N hN pe m ce (sl.map eOf) he hR hm hin
 unfold gv at hLb hFo⊢
 repeat(first|(refine st ?_;intros)|refine G.draw [] (h:= ?_)|(refine cq hE ?_))
 refine R.call (hct:=hLb) (h:= ?_)
 rintro _ _ ⟨bl,lab,rfl,rfl,hL⟩
 try dsimp only[AA,AB]
 repeat(first|(refine st ?_;intros)|refine G.draw [] (h:= ?_)|(refine cq hE ?_))
 rename_i b7
 have hLl:=hL.len
 have hL2:aKf (gE (sl.map eOf)) (fun i=>i<sl.length) N (-1) lab:=by
  have hact:∀i,aXz (sl.map eOf) [] (-1) i↔i<sl.length:=fun i=>by
   constructor
   ·rintro⟨e,h1,_⟩
    have:=(AK.1 h1).1
    rwa[AX] at this
   ·intro hi
    have h1:(sl.map eOf)[i]? =some (eOf sl[i]):=by simp[hi]
    have h2:=hin _ (AZ h1)
    unfold inE at h2
    exact⟨_,h1,by omega,by omega,by simp⟩
  refine⟨hL.len,fun v hv hvw=> ?_,hL.out⟩
  obtain⟨x,a1,a2,a3,a4⟩:=hL.at_ v hv hvw
  exact⟨x,a1,(Cn.congr hact).1 a2,a3,fun u hu=>a4 u ((Cn.congr hact).2 hu)⟩
 have hmx:∀x:Nat,x≤1000000→x+1≤maxLen:=fun x hx=>by simp only[maxLen];omega
 refine G.loop (X:=CoX) (fun x=>x.i≤N∧Vec 49 5 x.p x.i x.cap (flat ((aHg lab).take x.i)) x.ch)
  (fun x=>[(12,.int .i64 (x.i:Int)),(11,.slice (some ⟨bl,0,none⟩) N N),(10,.slice none 0 0),(9,.slice x.p x.i x.cap),(8,.slice pn m cn),(7,pv b7),(0,.int .i64 (N:Int))])
  (fun x=>[[(b7,row [.int .i64 (N:Int),.slice pe m ce] 37)],[(bl,row (aAs lab) 3)],c,he,hn,x.ch]) (fun x=>N-x.i) ⟨0,none,0,0,[]⟩ ⟨AS _,Vec.nil _ _⟩ (by repeat(first|exact trivial|refine⟨rfl,?_⟩)) (by repeat(first|exact aAo.nil|(apply aAo.cons;·(first|exact aAn.nil|(repeat(first|exact aAn.here|apply aAn.there)))))) ?_
 rintro⟨i,p1,_,c1,ch⟩ ⟨hi,hV⟩
 dsimp only at hi hV⊢
 by_cases hlt:i<N
 ·obtain⟨x,hx⟩:∃x,lab[i]? =some x:=⟨lab[i]'(by omega),AE (by omega)⟩
  have hcx:=aEe hx
  have hm1:=hmx i (by omega)
  repeat(first|(refine st ?_;intros)|refine G.draw [] (h:= ?_)|(refine cq hE ?_))
  rename_i p' cap' ch' hV'
  refine Dn.round ⟨i+1,p',0,cap',ch'⟩ ⟨hlt,by rw[bGh hx,flat_append];exact hV'⟩ (by dsimp only;omega)
 obtain rfl:i=N:=by omega
 have hla:(aHg lab).length=i:=by simp[aHg,hLl]
 rw[A4 (by omega)] at hV
 clear hlt
 repeat(first|(refine st ?_;intros)|refine G.draw [] (h:= ?_)|(refine cq hE ?_))
 refine R.call (hct:=hFo) (h:= ?_)
 rintro _ _ ⟨bi,fl,rfl,rfl,hF⟩
 try dsimp only[AA,AB]
 have hfl:=hF.1
 rw[AX] at hfl
 repeat(first|(refine st ?_;intros)|refine G.draw [] (h:= ?_)|(refine cq hE ?_))
 refine G.loop (X:=CoX) (fun x=>x.i≤m∧x.k=(aCq (sl.take x.i) (fl.take x.i)).length∧x.k≤x.i∧Vec 49 5 x.p x.k x.cap (flat (aCq (sl.take x.i) (fl.take x.i))) x.ch)
  (fun x=>[(14,.int .i64 (x.i:Int)),(13,.slice (some ⟨bi,0,none⟩) m m),(10,.slice x.p x.k x.cap),(9,.slice p1 i c1),(8,.slice pn m cn),(7,pv b7)])
  (fun x=>[[(b7,row [.int .i64 (i:Int),.slice pe m ce] 37)],[(bi,row (aFc fl) 4)],c,he,hn,ch,x.ch]) (fun x=>m-x.i) ⟨0,none,0,0,[]⟩ ⟨AS _,by simp[aCq],AG _,by simpa[aCq,flat] using Vec.nil 49 5⟩ (by repeat(first|exact trivial|refine⟨rfl,?_⟩)) (by repeat(first|exact aAo.nil|(apply aAo.cons;·(first|exact aAn.nil|(repeat(first|exact aAn.here|apply aAn.there)))))) ?_
 rintro⟨j,p2,k,c2,ch2⟩ ⟨hj,hk,hkj,hV2⟩
 dsimp only at hj hk hkj hV2⊢
 by_cases hlt:j<m
 ·have hjt:sl[j]? =some sl[j]:=AE (by omega)
  have hjf:fl[j]? =some fl[j]:=AE (by omega)
  have htk:=bGi hjt hjf
  have hcb:(aFc fl)[j]? =some (.bool fl[j]):=by unfold aFc;rw[BP,hjf];rfl
  obtain⟨eb,re,rfl,rfl,hre,hce,hcm⟩:=bGf hVe (by omega)
  obtain⟨nb,rn,rfl,rfl,hrn,hcn,hcm2⟩:=bGf hVn (by omega)
  obtain⟨l1,l2,hspl,hl1⟩:∃l1 l2,sl=l1++sl[j]::l2∧l1.length=j:=⟨sl.take j,sl.drop (j+1),by rw[←BM (by omega),BT],by simp;omega⟩
  have g0:=bOl l1 l2 sl[j] rn hl1
  have g1:=bOk l1 l2 sl[j] re hl1
  rw[←hspl] at g0 g1
  generalize sl[j]'(by omega)=t at*
  generalize fl[j]'(by omega)=o at*
  have ga:(aCd sl++re)[j*2]? =some (.int .i64 t.c1):=by have:=congrArg (fun l=>l[0]?) g1;simpa[BV,BS] using this
  have gb:(aCd sl++re)[j*2+1]? =some (.int .i64 t.c2):=by have:=congrArg (fun l=>l[1]?) g1;simpa[BV,BS] using this
  have hm1:=hmx k (by omega)
  cases o with
  |true=>
   simp only[if_true] at htk
   repeat(first|(refine st ?_;intros)|refine G.draw [] (h:= ?_)|(refine cq hE ?_))
   rename_i p' cap' ch' hV'
   refine Dn.round ⟨j+1,p',k+1,cap',ch'⟩ ⟨hlt,by rw[htk,AF,←hk];rfl,by dsimp only;omega,by rw[htk,flat_append];exact hV'⟩ (by dsimp only;omega)
  |false=>
   simp only[CN,if_false,AQ] at htk
   repeat(first|(refine st ?_;intros)|refine G.draw [] (h:= ?_)|(refine cq hE ?_))
   refine Dn.round ⟨j+1,p2,k,c2,ch2⟩ ⟨hlt,by rw[htk];exact hk,by dsimp only;omega,by rw[htk];exact hV2⟩ (by dsimp only;omega)
 ·obtain rfl:j=m:=by omega
  rw[A4 (by omega),A4 (by omega)] at hV2
  repeat(first|(refine st ?_;intros)|refine G.draw [] (h:= ?_)|(refine cq hE ?_))
  (refine Dn.post (Hr:=[c,ch,ch2]) Tryz.results56 (hR:= ?_);exact⟨p1,i,c1,ch,p2,k,c2,ch2,_,_,rfl,rfl,RV.vec hV,RV.vec hV2,hkj,sl,fl,lab,hp,hs,hL2,hF,rfl,rfl⟩)
end Go.Proofs.YtammjnjpheobaaaGreat
