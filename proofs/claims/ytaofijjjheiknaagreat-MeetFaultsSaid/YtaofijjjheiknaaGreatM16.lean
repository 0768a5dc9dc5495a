/-
  Parts of the proof, put together (16). No condition.
-/
import Derived.Below
import Derived.Carry
import Derived.Deep.Slices
import Derived.OpenShut
import Derived.ProofKit
import Derived.Test.YtaofijjjheiknaaGreatRows
import Derived.Deep.SlicePairs
import Derived.Test.YtaofijjjheiknaaGreatM15
set_option linter.unusedVariables false
set_option linter.unusedSimpArgs false
set_option linter.unnecessarySimpa false
set_option maxHeartbeats 4000000
open Go.IntKind renaming wrap→AJ
open Go.Proofs.Tryz renaming prog→AC,underlying3→CL,checked→DD
open Int renaming toNat_natCast→AR
open List renaming cons_append→AA,nil_append→AB,getElem?_eq_getElem→AE,length_append→AF,mem_cons_self→AH,mem_cons_of_mem→AI,length_cons→AL,mem_cons→AM,mem_append→AO,append_assoc→AP,append_nil→AQ,mem_singleton→AT,mem_map→AU,flatten_cons→AW,length_map→AY,flatten_append→A0,mem_of_getElem?→A3,take_of_length_le→A4,flatten_nil→A5,flatMap_cons→A8,getElem?_append_right→A9,pairwise_map→BC,pairwise_cons→BF,range→BH,getElem?_append_left→BI,getElem?_eq_none→BL,mem_append_right→BM,mem_append_left→BO,take_add_one→BP,getElem?_drop→BR,pairwise_append→BS,replicate→BY,perm_append_comm→B3,not_mem_nil→B6,ext_getElem?→CH,drop_zero→CT,map_congr_left→CZ,map_map→DE,take_zero→EL
open List.Pairwise renaming nil→CI
open List.Perm renaming append_left→BE
open Nat renaming reduceAdd→AD,le_refl→AG,zero_le→AS,mul_le_mul_right→A7,mul_le_mul_left→B7,add_zero→CD,sub_self→DP,mod_lt→EH
open Option.some renaming injEq→BA,inj→BD
namespace Go.Proofs.YtaofijjjheiknaaGreat
open Go.SL Go.Spc Go.Tup Go.Srt Go.Gr
theorem bAn (a b c d:Fl) (hw:¬(a.width=2∧b.width=5∧c.width=5∧d.width=3)) (x:Value):CtQ AC 21 [x,flv a,flv b,flv c,flv d] [] (.tuple #[flv ⟨0,0,0,0⟩,.int .i64 1]):=by
 have aa:=eQ0
 rw[aa,aa,aa,aa]
 by_cases h2:a.width=2
 ·have ab:(a.width:Int)=2:=by rw[h2];rfl
  by_cases h3:b.width=5
  ·have ac:(b.width:Int)=5:=by rw[h3];rfl
   by_cases h4:c.width=5
   ·have ad:(c.width:Int)=5:=by rw[h4];rfl
    have h5:d.width≠3:=fun h=>hw ⟨h2,h3,h4,h⟩
    refine Ct.go Tryz.func21 Tryz.ntmps21 fun w0=> ?_
    repeat(first|(refine st ?_;intros)|refine G.drawOrd (id:=11) [0,1,2,3,5,4,6,7] [(4,.eff [0,5])] (h:= ?_)|refine G.drawOrd (id:=12) [0,1,2,3,5,4,6,7] [(4,.eff [0,5])] (h:= ?_))
    (refine Dn.post (Hr:=[]) Tryz.results21 (hR:= ?_);exact⟨rfl,rfl⟩)
   ·refine Ct.go Tryz.func21 Tryz.ntmps21 fun w0=> ?_
    repeat(first|(refine st ?_;intros)|refine G.drawOrd (id:=11) [0,1,2,3,5,4,6,7] [(4,.eff [0,5])] (h:= ?_)|refine G.drawOrd (id:=12) [0,1,2,3,5,4,6,7] [(4,.eff [0,5])] (h:= ?_))
    (refine Dn.post (Hr:=[]) Tryz.results21 (hR:= ?_);exact⟨rfl,rfl⟩)
  ·refine Ct.go Tryz.func21 Tryz.ntmps21 fun w0=> ?_
   repeat(first|(refine st ?_;intros)|refine G.drawOrd (id:=11) [0,1,2,3,5,4,6,7] [(4,.eff [0,5])] (h:= ?_)|refine G.drawOrd (id:=12) [0,1,2,3,5,4,6,7] [(4,.eff [0,5])] (h:= ?_))
   (refine Dn.post (Hr:=[]) Tryz.results21 (hR:= ?_);exact⟨rfl,rfl⟩)
 ·refine Ct.go Tryz.func21 Tryz.ntmps21 fun w0=> ?_
  repeat(first|(refine st ?_;intros)|refine G.drawOrd (id:=11) [0,1,2,3,5,4,6,7] [(4,.eff [0,5])] (h:= ?_)|refine G.drawOrd (id:=12) [0,1,2,3,5,4,6,7] [(4,.eff [0,5])] (h:= ?_))
  (refine Dn.post (Hr:=[]) Tryz.results21 (hR:= ?_);exact⟨rfl,rfl⟩)
theorem bKn (a b c d:Fl) (ha:a.width=2) (hb:b.width=5) (hc:c.width=5) (hd:d.width=3):CtQ AC 21 [.pointer none,flv a,flv b,flv c,flv d] [] (.tuple #[flv ⟨0,0,0,0⟩,.int .i64 1]):=by
 have aa:=eQ0
 have ab:(a.width:Int)=2:=by rw[ha];rfl
 have ac:(b.width:Int)=5:=by rw[hb];rfl
 have ad:(c.width:Int)=5:=by rw[hc];rfl
 have ae:(d.width:Int)=3:=by rw[hd];rfl
 rw[aa,aa,aa,aa]
 refine Ct.go Tryz.func21 Tryz.ntmps21 fun w0=> ?_
 repeat(first|(refine st ?_;intros)|refine G.drawOrd (id:=11) [0,1,2,3,5,4,6,7] [(4,.eff [0,5])] (h:= ?_)|refine G.drawOrd (id:=12) [0,1,2,3,5,4,6,7] [(4,.eff [0,5])] (h:= ?_))
 refine R.call (hct:=bIg _) (h:= ?_)
 rintro _ _ ⟨rfl,rfl⟩
 try dsimp only[AA,AB]
 repeat(first|(refine st ?_;intros)|refine G.drawOrd (id:=11) [0,1,2,3,5,4,6,7] [(4,.eff [0,5])] (h:= ?_)|refine G.drawOrd (id:=12) [0,1,2,3,5,4,6,7] [(4,.eff [0,5])] (h:= ?_))
 (refine Dn.post (Hr:=[]) Tryz.results21 (hR:= ?_);exact⟨rfl,rfl⟩)
theorem aSj (bw bd ba bs ro:Nat) (a7:80≤ro) (N:Nat) (hN:N≤40) (es:List IE) (a8:es.length≤1000) (hf:∀e∈es,inE N e) (W:Wk) (cd ca cs:aAc) (hW:Wc bd ba bs W cd ca cs) (a b c q:Fl) (hO:Ons 9000 ro W [a,b,c,q]) {lab:List Int} {fl:List Bool} {r bt:List T5} {tl:List (Nat×Fo)} {l qs:List T5} (hP:aAh N es lab fl r bt) (hT:aAs N es lab bt tl l)
  (ha:aBm W (a,aAy lab)) (hb:aBm W (b,bt)) (hc:aBm W (c,l)) (hq:aBm W (q,qs)) (aj:a.width=2) (ak:b.width=5) (am:c.width=5) (al:q.width=3) (a6:qs.length≤90) (a9:W.δ.acts≤300000):
  Ct AC 21 [pv bw,flv a,flv b,flv c,flv q] [aAi bw bd ba bs,cd,ca,cs] fun v H'=>∃x e cd' ca' cs' W',v= .tuple #[flv x,.int .i64 e]∧H'=[aAi bw bd ba bs,cd',ca',cs']∧Wc bd ba bs W' cd' ca' cs'∧W'.α.used=0∧W'.σ.n=9000∧W'.δ.acts≤20000000∧(W.δ.fault= -1→W'.δ.fault= -1)∧
   ((e=0∧aIb N qs∧aBm W' (x,aBw (aAy lab) bt l qs)∧x.width=2∧x.count=(aBw (aAy lab) bt l qs).length∧Ons 9000 ro W' [a,b,c,q,x])∨(x=⟨0,0,0,0⟩∧W'.live.Perm (aAz [a,b,c,q] [])∧((e=6∧W.δ.fault≠-1)∨(e=3∧¬aIb N qs)))):=by
 have a5:=hT.len
 have bc:=hP.b_len hf oM
 obtain⟨ap,aq⟩:=hO.tot
 simp only[List.map_cons,List.map_nil,List.sum_cons,List.sum_nil,AL,List.length_nil] at ap aq
 obtain⟨La,ad,be⟩:=id ha
 obtain⟨Lb,ae,bf⟩:=id hb
 obtain⟨Lc,ag,bg⟩:=id hc
 obtain⟨Lq,ah,bh⟩:=id hq
 have a1:=ad.len;have b1:=ae.len;have c1:=ag.len;have q1:=ah.len
 have a2:=ad.blk;have b2:=ae.blk;have c2:=ag.blk;have q2:=ah.blk
 have l2:=ad.fit;have k2:=ae.fit;have t2:=ag.fit;have d2:=ah.fit
 dsimp only at a1 b1 c1 q1 a2 b2 c2 q2 l2 k2 t2 d2
 rw[aTw,hP.labs.len] at a1
 rw[hO.size] at a2 b2 c2 q2
 rw[aj] at l2 a2
 rw[ak] at k2 b2
 rw[am] at t2 c2
 rw[al] at d2 q2
 have a3:a.blocks≤a.count:=by rw[a2];exact aAx (aAl oM oM oM)
 have b3:b.blocks≤b.count:=by rw[b2];exact aAx (aAl oM oM oM)
 have c3:c.blocks≤c.count:=by rw[c2];exact aAx (aAl oM oM oM)
 have q3:q.blocks≤(q.count+1)/2:=by rw[q2];exact nb3
 have au:aFb 90≤484:=by decide+kernel
 have e1:484*(W.live.length+10)≤484*14:=B7 _ oM
 have e2:484*(W.live.length+12)≤484*16:=B7 _ oM
 have bi:=hO.n
 have av:=aTl l2 k2 t2
 have aw:=aPt (aAy lab) bt l
 have ax:=aOc (aAy lab)
 rw[aTw,hP.labs.len] at ax
 have hM:=bCl bw bd ba bs W cd ca cs hW a b c q (aAy lab) bt l qs ha hb hc hq aj ak am al (bCv lab) hT.rise (bCx hT) 90 484 oM oM oM oM oM au oM oM oM oM
 have ay:aZs (aAy lab) bt l qs a.count=if aIb N qs then none else some 3:=by
  rw[show a.count=N by omega]
  by_cases aa:aIb N qs
  ·rw[if_pos aa]
   exact(aQj hP hf hT oM av oM aa d2).2
  ·rw[if_neg aa]
   unfold aZs bMu
   rw[if_neg aa];rfl
 rw[ay] at hM
 refine hM.mono ?_
 rintro v H' (⟨_,x,e,az,a0,a4,W3,rfl,rfl,ai,ab,an⟩|⟨bk,_⟩)
 rotate_left
 ·exfalso
  have h3:=hO.room
  have h4:=hO.used
  have h5:=hO.size
  omega
 have ao:=ab.acts
 unfold aXc at ao
 refine⟨x,e,az,a0,a4,W3,rfl,rfl,ai,(aKg hW ai ab.gs).trans hO.used,ab.n.trans hO.n,oM,ab.fault,?_⟩
 rcases ab.res with⟨rfl,ac,hl,bo⟩|⟨he,rfl,hl,⟨rfl,hr⟩|⟨k,h6,rfl⟩⟩
 ·have aa:aIb N qs:=by
   by_cases aa:aIb N qs
   ·exact aa
   ·rw[if_neg aa] at ac;cases ac
  rw[ac] at ab
  obtain⟨o1,o2,o3,_⟩:=hO.stepped hW ai ab (an rfl) (by unfold aXc;omega)
  exact .inl ⟨rfl,aa,o2,an rfl,o3,o1⟩
 ·exact .inr ⟨rfl,hl.trans hO.live,.inl ⟨rfl,hr⟩⟩
 ·by_cases aa:aIb N qs
  ·rw[if_pos aa] at h6;cases h6
  ·rw[if_neg aa] at h6
   obtain rfl:=BD h6
   exact .inr ⟨rfl,hl.trans hO.live,.inr ⟨rfl,aa⟩⟩
theorem aXt {a b:List T5} (ha:a.Pairwise fun x y=>x.c0<y.c0) (hb:b.Pairwise fun x y=>x.c0<y.c0) (h:∀z,z∈a↔z∈b):a=b:=by
 have aa:∀{l:List T5},l.Pairwise (fun x y=>x.c0<y.c0)→l.Nodup:=fun h=>h.imp fun ab he=>by rw[he] at ab;omega
 exact((List.perm_ext_iff_of_nodup (aa ha) (aa hb)).2 h).eq_of_pairwise (le:=fun x y=>x.c0<y.c0) (fun x y _ _ h1 h2=>absurd h1 oM) ha hb
theorem srt_ne {m:List T5} (h:m.Pairwise fun a c=>a.c0≠c.c0):(srt (ltO o1) false m).Pairwise fun a c=>a.c0<c.c0:=by
 have h1:((srt (ltO o1) false m).map fun t:T5=>t.c0).Nodup:=((aBa m).map fun t:T5=>t.c0).nodup_iff.2 (BC.2 h)
 have h2:(srt (ltO o1) false m).Pairwise fun x y=>x.c0≠y.c0:=BC.1 h1
 exact((bOv m).and h2).imp fun {x y} ⟨h3,h4⟩=>by omega
theorem c0inj:∀{qs:List T5},(qs.Pairwise fun a c=>a.c0≠c.c0)→∀{p q:T5},p∈qs→q∈qs→p.c0=q.c0→p=q
 |[],_,_,_,h,_,_=>by cases h
 |x::qs,hn,p,q,hp,hq,he=>by
  rw[BF] at hn
  rcases AM.1 hp with rfl|hp
  ·rcases AM.1 hq with rfl|hq
   ·rfl
   ·exact absurd he (hn.1 q hq)
  ·rcases AM.1 hq with rfl|hq
   ·exact absurd he.symm (hn.1 _ oA13)
   ·exact c0inj hn.2 hp hq he
theorem bNx (la:List T5) {qs:List T5} (hq:qs.Pairwise fun a c=>a.c0≠c.c0):(aHg la qs).Pairwise fun a c=>a.c0≠c.c0:=by
 have h0:(qs.map (·.c0)).Nodup:=by rw[List.Nodup,BC];exact hq
 have h1:((aPu la qs).map (·.c0)).Nodup:=by
  unfold aPu
  rw[DE]
  refine(List.Perm.nodup_iff ?_).2 h0
  have e1:∀l:List T5,l.map ((fun t:T5=>t.c0)∘aDu la 2 1 4)=l.map (·.c0):=fun l=>CZ fun t _=>rfl
  rw[e1]
  refine((aBa _).map _).trans ?_
  rw[DE]
  have e2:∀l:List T5,l.map ((fun t:T5=>t.c0)∘aDu la 1 1 3)=l.map (·.c0):=fun l=>CZ fun t _=>rfl
  rw[e2]
  exact(aBa _).map _
 have h2:(aPu la qs).Pairwise fun a c=>a.c0≠c.c0:=by rwa[List.Nodup,BC] at h1
 unfold aHg
 rw[List.pairwise_flatMap]
 refine⟨fun t _=>by unfold aUp;split<;>simp,h2.imp fun {a c} aa x hx y hy=> ?_⟩
 unfold aUp at hx hy
 split at hx
 ·cases hx
 ·split at hy
  ·cases hy
  ·rw[AT] at hx hy
   subst hx hy;exact aa
section
variable {N:Nat} {es:List IE} {lab:List Int} {fl:List Bool} {r b:List T5} {tl:List (Nat×Fo)} {l:List T5} {qs:List T5}
theorem aQk (hP:aAh N es lab fl r b) (hf:∀e∈es,inE N e) (hT:aAs N es lab b tl l) (hN:N≤1000000) (ae:∀t∈aBe (aAy lab) b l,okT 1 t) (ad:(aBe (aAy lab) b l).length≤1000000) (hq:aIb N qs) (ab:∀t∈qs,okT 3 t):(aBw (aAy lab) b l qs).Pairwise fun a c=>a.c0<c.c0:=by
 have hl:=hP.labs.len
 unfold aBw
 refine srt_ne ?_
 rw[BS]
 refine⟨?_,bNx _ hq.2,?_⟩
 ·have h1:((aCz (aBe (aAy lab) b l) (aMl (aAy lab) b l qs)).map (·.c0)).Nodup:=by
   rw[List.Nodup,BC]
   exact(aPs _ _).imp fun h=>by omega
  have h2:=(aLl (v:=1) (.inl rfl) (aLh l) _).nodup_iff.2 h1
  rwa[List.Nodup,BC] at h2
 ·intro a ha c hc ag
  obtain⟨t,ht,rfl⟩:=aDr.1 ha
  obtain⟨q',ah,u',v',x',y',aa,ai,rfl⟩:=(aXr hl hq ab).1 hc
  have h0:∃g∈aMl (aAy lab) b l qs,t.c0=g.c0:=by
   unfold aCz at ht
   obtain⟨g,hg,h|h⟩:=aEr.1 (aDf (aDf ht))
   ·exact⟨g,hg,by rw[h]⟩
   ·exact⟨g,hg,by rw[h]⟩
  obtain⟨g,hg,h0⟩:=h0
  obtain⟨q,aj,u,v,x,hQ,i,j,_,_,_,_,rfl⟩:=(bKj hP hf hT hN ae ad hq ab).1 hg
  have ac:t.c0=q'.c0:=ag
  have ak:q=q':=c0inj hq.2 aj ah (by rw[←ac];exact h0.symm)
  subst ak
  have e1:=hQ.hq
  rw[aa.hq] at e1
  simp only[T5.mk.injEq] at e1
  obtain rfl:u'=u:=by omega
  obtain rfl:v'=v:=by omega
  have h3:=aa.hx
  have h4:=aa.hy
  rw[hQ.hx] at h3
  rw[hQ.hy] at h4
  exact ai ((BD h3).symm.trans (BD h4))
theorem bFf (la to tr qs:List T5):(aBw la to tr qs).length≤2*qs.length:=by
 unfold aBw
 rw[(aBa _).length_eq,AF,aCr]
 have h1:=aRz (aBe la to tr) (aMl la to tr qs)
 have h2:=aSa la qs
 have h3:=aXd la qs
 have h4:(aMl la to tr qs).length=(aFi la qs).length:=by unfold aMl aZr;rw[AY,aXe]
 omega
theorem bAo (hP:aAh N es lab fl r b) (hT:aAs N es lab b tl l):∀(q:Nat) {a v:Nat},a<N→v<N→(at5 l v).c2≤(q:Int)→Sub l a v→lab[a]? =lab[v]? :=by
 intro q
 induction q with
 |zero=>
  intro a v ha hv hq hs
  have h1:=hT.bnd ha
  have h2:=hT.bnd hv
  rw[hT.num_inj ha hv (by have:=hs.1;omega)]
 |succ q ih=>
  intro a v ha hv hq hs
  rcases hT.par hv with⟨h1,_⟩|⟨p,hp,h1,_,h2,_,h3⟩
  ·rw[(aOf hT ha hv h1).1 hs]
  ·rcases(aLk hT ha hv hp h1).1 hs with rfl|hs
   ·rfl
   ·rw[ih ha hp oM hs]
    exact hP.labs.same hp hv (.one h3)
structure bCy (N:Nat) (lab:List Int) (l qs:List T5) (i:Nat) (o:List T5):Prop where
 ok:aIb N (qs.take i)
 mem:∀z,z∈o↔∃q∈qs.take i,∃m,aDa N lab l q.c1.toNat q.c2.toNat m∧z=⟨q.c0,m,0,0,0⟩
 rise:o.Pairwise fun a c=>a.c0<c.c0
 len:o.length=i
theorem bCy.start:bCy N lab l qs 0 []:=⟨by rw[EL];exact⟨fun q h=>(B6 h).elim,CI⟩,by simp,CI,rfl⟩
theorem bCy.put (hT:aAs N es lab b tl l) (ac:∀u v,u<N→v<N→∃m,aDa N lab l u v m) {i:Nat} {A B:List T5} (h:bCy N lab l qs i (A++B)) {q:T5} (hq:qs[i]? =some q) (ab:okM N q) {m:Int} (hm:aDa N lab l q.c1.toNat q.c2.toNat m) (hA:∀y∈A,y.c0<q.c0) (hB:∀y∈B,q.c0<y.c0):bCy N lab l qs (i+1) (A++⟨q.c0,m,0,0,0⟩::B):=by
 have aa:qs.take (i+1)=qs.take i++[q]:=by rw[BP,hq];rfl
 have hr:=h.rise
 rw[BS] at hr
 refine⟨?_,fun z=> ?_,?_,?_⟩
 ·rw[aa]
  refine⟨fun x hx=> ?_,?_⟩
  ·rcases AO.1 hx with hx|hx
   ·exact h.ok.1 x hx
   ·rw[AT] at hx;subst hx;exact ab
  ·rw[BS]
   refine⟨h.ok.2,by simp,fun x hx y hy he=> ?_⟩
   rw[AT] at hy
   subst hy
   have ad:=h.ok.1 x hx
   unfold okM at ad
   obtain⟨m',ae⟩:=ac x.c1.toNat x.c2.toNat oM oM
   rcases AO.1 ((h.mem _).2 ⟨x,hx,m',ae,rfl⟩) with h1|h1
   ·have:=hA _ h1
    dsimp only at this;omega
   ·have:=hB _ h1
    dsimp only at this;omega
 ·rw[aa]
  have hz:z∈A++⟨q.c0,m,0,0,0⟩::B↔z∈A++B∨z=⟨q.c0,m,0,0,0⟩:=by
   simp only[AO,AM]
   constructor
   ·rintro(h|h|h)
    ·exact .inl (.inl h)
    ·exact .inr h
    ·exact .inl (.inr h)
   ·rintro((h|h)|h)
    ·exact .inl h
    ·exact .inr (.inr h)
    ·exact .inr (.inl h)
  rw[hz,h.mem]
  constructor
  ·rintro(⟨x,hx,m',h1,h2⟩|h1)
   ·exact⟨x,BO _ hx,m',h1,h2⟩
   ·exact⟨q,BM _ AH,m,hm,h1⟩
  ·rintro⟨x,hx,m',h1,h2⟩
   rcases AO.1 hx with hx|hx
   ·exact .inl ⟨x,hx,m',h1,h2⟩
   ·rw[AT] at hx;subst hx
    rw[h1.one hT hm] at h2
    exact .inr h2
 ·rw[BS,BF]
  refine⟨hr.1,⟨fun y hy=>hB y hy,hr.2.1⟩,fun x hx y hy=> ?_⟩
  rcases AM.1 hy with rfl|hy
  ·exact hA x hx
  ·exact hr.2.2 x hx y hy
 ·have:=h.len
  rw[AF] at this
  rw[AF,AL];omega
theorem bCy.twice {i:Nat} {o:List T5} (h:bCy N lab l qs i o) {q y:T5} (hq:qs[i]? =some q) (hy:y∈o) (he:y.c0=q.c0):¬aIb N qs:=by
 intro aa
 obtain⟨x,hx,m,_,rfl⟩:=(h.mem y).1 hy
 have ab:qs.take (i+1)=qs.take i++[q]:=by rw[BP,hq];rfl
 have h1:(qs.take (i+1)).Pairwise fun a c=>a.c0≠c.c0:=aa.2.sublist (List.take_sublist _ _)
 rw[ab,BS] at h1
 exact h1.2.2 x hx q AH he
theorem bNy (hP:aAh N es lab fl r b) (hf:∀e∈es,inE N e) (hT:aAs N es lab b tl l) (hN:N≤1000000) (ae:∀t∈aBe (aAy lab) b l,okT 1 t) (ad:(aBe (aAy lab) b l).length≤1000000) (ac:∀t∈qs,okT 3 t) {o:List T5} (h:bCy N lab l qs qs.length o):aBw (aAy lab) b l qs=o:=by
 have ab:=h.ok
 have aa:=h.mem
 rw[List.take_length] at ab aa
 exact aXt (aQk hP hf hT hN ae ad ab ac) h.rise fun z=>by rw[aa,(aQj hP hf hT hN ae ad ab ac).1]
end
theorem bKo (N:Nat) (es:List IE) (lab:List Int) (fl:List Bool) (r b:List T5) (tl:List (Nat×Fo)) (l:List T5) (hP:aAh N es lab fl r b) (hf:∀e∈es,inE N e) (h:aAs N es lab b tl l) (hN:N≤1000)
  (pa:Option Addr) (ai:Nat) (ca:aAc) (bc:RV pa N (aAy lab) ca) (pb:Option Addr) (m ah:Nat) (cb:aAc) (av:RV pb m b cb) (hm:m≤1000000):
  Ct AC 45 [.slice pa N ai,.slice pb m ah] [ca,cb] fun v H'=>∃bo,v= .slice (some ⟨bo,0,none⟩) N N∧H'=[ca,cb,[(bo,row (l.flatMap aAk) 33)]]:=by
 have bz:b.length=m:=av.1
 have b1:=h.tlo.len
 refine Ct.go Tryz.func45 Tryz.ntmps45 fun w0=> ?_
 repeat(first|(refine sv ?_;intros)|refine cq hMe ?_)
 rename_i bo
 rw[bKd]
 refine G.loop (X:=RtX) (fun s=>bAi N tl s) (fun s=>[(7,.int .i64 (s.v:Int)),(6,.int .i64 (s.n:Int)),(5,.slice (some ⟨bo,0,none⟩) N N),(0,.slice pa N ai),(1,.slice pb m ah)])
  (fun s=>[[(bo,row (s.o.flatMap aAk) 33)],ca,cb]) (fun s=>N-s.v) ⟨0,0,[],tl,BY N T5.zero⟩ ⟨AS _,rfl,by simp,fun y _=>AS _,aAs.wstart N tl,rfl⟩ (body:= ?_)
 rintro⟨v,n,tl1,tl2,o⟩ hs
 have hv:=hs.v
 have an:=hs.w.len
 dsimp only at hv an⊢
 by_cases aw:v<N
 ·have ax:lab[v]? =some lab[v]:=AE oM
  have aj:=fun ay=>hs.skip h aw ax ay
  have ad:=hs.root h
  obtain⟨b0,off,cs,T0,fz,rfl,rfl,_,a2⟩:=(RV.rw bc).pos aAr oM
  have q1:cs[off+v*5+1]? =some (.int .i64 (at5 (aAy lab) v).c1):=a2 v 1 _ _ (aCd (by rw[aTw];omega)) rfl
  rw[aMq ax] at q1
  dsimp only at aj ad
  rw[ax] at ad
  generalize lab[v]=x at*
  by_cases hx:x=(v:Int)
  rotate_left
  ·repeat(first|(refine sv ?_;intros)|refine cq hMe ?_)
   refine Dn.round ⟨v+1,n,tl1,tl2,o⟩ (aj hx) oD
  obtain⟨T,t2,rfl⟩:=ad (by rw[hx])
  obtain⟨a3,az,a0⟩:=hs.tell h oM rfl
  have hn:=hs.n
  dsimp only at a3 az a0 hn
  rw[←hn] at a3 az a0
  have au:=tset o v ⟨(v:Int),-1,(n:Int),0,0⟩ oM
  have a4:=aHv aAr o
  have a5:(v+1)*5≤o.length*5:=A7 _ oM
  dsimp only at au
  have e1:AJ .i64 ((n:Int)+1)=((n+1:Nat):Int):=aAd oM
  repeat(first|(refine sv ?_;intros)|refine cq hMe ?_)
  refine G.loop (X:=RuX) (fun q=>q.i≤m∧q.n=aNk (vsT tl1++aJr (v,T)::aSh b v q.i)∧Wrt N (aQi tl) q.n q.o)
   (fun q=>[(8,.int .i64 (q.i:Int)),(7,.int .i64 (v:Int)),(6,.int .i64 (q.n:Int)),(5,.slice (some ⟨bo,0,none⟩) N N),(0,.slice (some ⟨b0,off,none⟩) N ai),(1,.slice pb m ah)])
   (fun q=>[[(bo,row (q.o.flatMap aAk) 33)],[(b0,aBs cs T0 fz)],cb]) (fun q=>m-q.i) ⟨0,n+1,o.set v ⟨(v:Int),-1,(n:Int),0,0⟩⟩ ⟨AS _,az.symm,a0⟩ (body:= ?_)
  rintro⟨i,n2,o2⟩ ⟨hi,ak,ae⟩
  dsimp only at hi ak ae⊢
  have bh:=ae.len
  by_cases ac:i<m
  ·have al:b[i]? =some (at5 b i):=aCd oM
   have hMe:=bSo pb m ah b cb av hm i ac
   have aa:=fun ao=>hs.tell2 hP hf h oM rfl al ao
   have a6:=fun ay=>bKe (x:=v) al ay
   obtain⟨b2,am,ap,T2,b3,rfl,rfl,_,ag⟩:=(RV.rw av).pos aAr oM
   have r1:ap[am+i*5+1]? =some (.int .i64 (at5 b i).c1):=ag i 1 _ _ al rfl
   have r2:ap[am+i*5+2]? =some (.int .i64 (at5 b i).c2):=ag i 2 _ _ al rfl
   have r3:ap[am+i*5+3]? =some (.int .i64 (at5 b i).c3):=ag i 3 _ _ al rfl
   dsimp only at aa
   rw[←ak] at aa
   by_cases ao:(at5 b i).c3=(v:Int)
   ·replace aa:=aa ao
    generalize (at5 b i).c1=z1 at*
    generalize (at5 b i).c2=z2 at*
    generalize (at5 b i).c3=z3 at*
    rcases aa with⟨h1,h2⟩|⟨h1,h2,h3,h4,h5⟩
    ·cases hmb:bFe b i with
     |true=>
      rw[hmb] at hMe
      repeat(first|(refine sv ?_;intros)|refine cq hMe ?_)
      refine Dn.round ⟨i+1,n2,o2⟩ ⟨ac,h2.symm,ae⟩ oD
     |false=>
      rw[hmb] at hMe h1
      have h6:z2=(v:Int):=by simpa using h1
      repeat(first|(refine sv ?_;intros)|refine cq hMe ?_)
      refine Dn.round ⟨i+1,n2,o2⟩ ⟨ac,h2.symm,ae⟩ oD
    ·rw[h1] at hMe
     obtain⟨to,fr,d,g1,g2,rfl,rfl,g5,g6,g7,g8⟩:=h5 o2 ae
     have a1:=tset o2 to ⟨(to:Int),(fr:Int),(n2:Int),0,d+1⟩ oM
     have bi:=aHv aAr o2
     have bk:(to+1)*5≤o2.length*5:=A7 _ oM
     have be:(o2.flatMap aAk)[fr*5+4]? =some (.int .i64 (at5 o2 fr).c4):=bSp (aCd oM) rfl
     rw[g5] at be
     dsimp only at a1
     have e2:AJ .i64 ((n2:Int)+1)=((n2+1:Nat):Int):=aAd oM
     have e3:AJ .i64 (d+1)=d+1:=aAd oM
     repeat(first|(refine sv ?_;intros)|refine cq hMe ?_)
     refine Dn.round ⟨i+1,n2+1,o2.set to ⟨(to:Int),(fr:Int),(n2:Int),0,d+1⟩⟩ ⟨ac,h3.symm,g8⟩ oD
   ·have h6:=a6 ao
    generalize (at5 b i).c1=z1 at*
    generalize (at5 b i).c2=z2 at*
    generalize (at5 b i).c3=z3 at*
    repeat(first|(refine sv ?_;intros)|refine cq hMe ?_)
    refine Dn.round ⟨i+1,n2,o2⟩ ⟨ac,by rw[h6];exact ak,ae⟩ oD
  ·obtain rfl:i=m:=by omega
   have hd:=hs.done h aw rfl (o:=o2) (m:=i) oM (by rw[←ak];exact ae)
   dsimp only at hd
   rw[←ak] at hd
   repeat(first|(refine sv ?_;intros)|refine cq hMe ?_)
   refine Dn.round ⟨v+1,n2,tl1++[(v,T)],t2,o2⟩ hd oD
 obtain rfl:v=N:=by omega
 obtain rfl:=hs.end_ h oM rfl
 clear hs an aw
 repeat(first|(refine sv ?_;intros)|refine cq hMe ?_)
 refine G.loop (X:=RwX) (fun s=>s.u≤v∧s.dn.Perm ((BH s.u).flatMap (aAs.wayF tl))) (fun s=>[(11,.int .i64 (s.u:Int)),(5,.slice (some ⟨bo,0,none⟩) v v)])
  (fun s=>[[(bo,row ((aAs.outC v l s.dn).flatMap aAk) 33)],ca,cb]) (fun s=>v-s.u) ⟨0,[]⟩ ⟨AS _,.refl _⟩ (body:= ?_)
 rintro⟨u,dn⟩ ⟨hu,aq⟩
 dsimp only at hu aq⊢
 by_cases a7:u<v
 rotate_left
 ·obtain rfl:u=v:=by omega
  rw[h.outC_end aq]
  repeat(first|(refine sv ?_;intros)|refine cq hMe ?_)
  (refine Dn.post (Hr:=[ca,cb,[(bo,row (l.flatMap aAk) 33)]]) Tryz.results45 (hR:= ?_);exact⟨bo,rfl,rfl⟩)
 obtain⟨hw,bf,ab,_⟩:=h.way_is a7
 have b4:=aAs.flat_le (aAs.wayF tl) v (u+1) fun w hw=>(h.way_is (show w<v by omega)).2.1
 have bp:(u+1)*v≤1000*1000:=Nat.mul_le_mul oM oM
 repeat(first|(refine sv ?_;intros)|refine cq hMe ?_)
 refine G.loop (X:=RfX) (fun q=>Way (fun x=>(at5 l x.toNat).c1) q.k q.rest∧(∀w∈q.rest,w<(v:Int))∧(q.rest++q.dn).Perm ((BH (u+1)).flatMap (aAs.wayF tl)))
  (fun q=>[(12,.int .i64 q.k),(11,.int .i64 (u:Int)),(5,.slice (some ⟨bo,0,none⟩) v v)]) (fun q=>[[(bo,row ((aAs.outC v l q.dn).flatMap aAk) 33)],ca,cb]) (fun q=>q.rest.length) ⟨u,aAs.wayF tl u,dn⟩
  ⟨hw,ab,by
   rw[List.range_succ,List.flatMap_append]
   simp only[A8,List.flatMap_nil,AQ]
   exact(B3).trans (aq.append_right _)⟩ (body:= ?_)
 clear hw ab bf aq
 rintro⟨k,rest,dn⟩ ⟨hw,ab,hp⟩
 dsimp only at hw ab hp⊢
 cases hw with
 |top bq=>
  have b5:¬0≤k:=oM
  repeat(first|(refine sv ?_;intros)|refine cq hMe ?_)
  refine Dn.round ⟨u+1,dn⟩ ⟨a7,by simpa using hp⟩ oD
 | @up _ ch bu hw=>
  have b6:=ab k AH
  obtain⟨q,rfl⟩:∃q:Nat,k=(q:Int):=⟨k.toNat,oM⟩
  have hq:q<v:=oM
  have a8:=hp.length_eq
  have bv:=List.count_le_length (a:=(q:Int)) (l:=dn)
  rw[AF,AL] at a8
  have g0:=aAs.outC_get (l:=l) (dn:=dn) hq
  have r3:=bSp (j:=3) g0 rfl
  have au:=(tset3 g0 (((dn.count (q:Int):Nat):Int)+1)).trans (congrArg (List.flatMap aAk) (aAs.outC_set (l:=l) (dn:=dn) hq rfl))
  have g1:=aAs.outC_get (l:=l) (dn:=(q:Int)::dn) hq
  have r1:=bSp (j:=1) g1 rfl
  have a4:=aHv aAr (aAs.outC v l dn)
  have an:(aAs.outC v l dn).length=v:=by unfold aAs.outC;simp
  have a5:(q+1)*5≤v*5:=A7 _ oM
  have bg:(ch++(q:Int)::dn).Perm ((BH (u+1)).flatMap (aAs.wayF tl)):=List.perm_middle.trans hp
  rw[AR] at hw
  rw[an] at a4
  generalize b7:(aAs.outC v l dn).flatMap aAk=cs at*
  generalize a9:(aAs.outC v l ((q:Int)::dn)).flatMap aAk=ap at*
  generalize dn.count (q:Int)=cn at*
  have e1:AJ .i64 ((cn:Int)+1)=(cn:Int)+1:=aAd oM
  generalize hz:(at5 l q).c1=z1 at*
  repeat(first|(refine sv ?_;intros)|refine cq hMe ?_)
  rw[←a9]
  refine Dn.round ⟨z1,ch,(q:Int)::dn⟩ ⟨hw,fun w hw=>ab w (AI _ hw),bg⟩ (by dsimp only[AL];omega)
theorem aKl.uniq {g:Nat→Ed} {S:Nat→Prop} {N:Nat} {l l':List Int} (h:aKl g S N (-1) l) (h':aKl g S N (-1) l'):l=l':=by
 apply CH
 intro v
 by_cases hv:v<N
 ·obtain⟨x,h1,h2,_,h3⟩:=h.at_ v hv oM
  obtain⟨y,g1,g2,_,g3⟩:=h'.at_ v hv oM
  have e1:=h3 y g2
  have e2:=g3 x h2
  rw[h1,g1,show x=y by omega]
 ·rw[BL (by rw[h.len];omega),BL (by rw[h'.len];omega)]
theorem aAh.uniq {N:Nat} {es:List IE} {lab ab:List Int} {fl aa:List Bool} {r r' b b':List T5} (h:aAh N es lab fl r b) (h':aAh N es ab aa r' b'):ab=lab∧b'=b:=by
 obtain rfl:=h.labs.uniq h'.labs
 have ac:fl=aa:=by
  apply CH
  intro i
  by_cases hi:i<es.length
  ·have i1:i<fl.length:=by rw[h.fors.1];exact hi
   have i2:i<aa.length:=by rw[h'.fors.1];exact hi
   have h1:fl[i]? =some fl[i]:=AE i1
   have h2:aa[i]? =some aa[i]:=AE i2
   have k1:=h.fors.2 i _ h1
   have k2:=h'.fors.2 i _ h2
   rw[h1,h2]
   congr 1
   rw[Bool.eq_iff_iff,k1,k2]
  ·rw[BL (by rw[h.fors.1];omega),BL (by rw[h'.fors.1];omega)]
 subst ac
 have hr:r=r':=by
  refine List.Perm.eq_of_pairwise (le:=fun a b=>aFv b a=false) ?_ h.arcs.sa h'.arcs.sa (h.arcs.perm.trans h'.arcs.perm.symm)
  intro x y hx hy h1 h2
  have ad:=h.arcs.perm.mem_iff.1 hx
  have ae:=h'.arcs.perm.mem_iff.1 hy
  refine aIw (aLi h.arcs.nd (aAy lab)) ad ae ?_
  have k1:¬aFv y x=true:=by rw[h1];decide
  have k2:¬aFv x y=true:=by rw[h2];decide
  rw[aIr] at k1 k2
  omega
 subst hr
 exact⟨rfl,by rw[h.tours,h'.tours]⟩
theorem aOl {es:List IE} {fl aa:List Bool} (h:aJl es fl) (h':aJl es aa):fl=aa:=by
 apply CH
 intro i
 by_cases hi:i<es.length
 ·have i1:i<fl.length:=by rw[h.1];exact hi
  have i2:i<aa.length:=by rw[h'.1];exact hi
  have h1:fl[i]? =some fl[i]:=AE i1
  have h2:aa[i]? =some aa[i]:=AE i2
  have k1:=h.2 i _ h1
  have k2:=h'.2 i _ h2
  rw[h1,h2]
  congr 1
  rw[Bool.eq_iff_iff,k1,k2]
 ·rw[BL (by rw[h.1];omega),BL (by rw[h'.1];omega)]
theorem RV.row {bo N:Nat} {l:List T5} (h:l.length=N):RV (some ⟨bo,0,none⟩) N l [(bo,row (l.flatMap aAk) 33)]:=
 Rw.rv ⟨h,.inr ⟨bo,0,l.flatMap aAk,33,(0,0),rfl,rfl,by rw[CT,A4 (by rw[aHv aAr,h];exact AG _)]⟩⟩
structure OfX where
 i:Nat
 p:Option Addr
 cap:Nat
 ch:aAc
structure OfOk (N:Nat) (es:List IE) (pe:Option Addr) (ce:aAc) (pl:Option Addr) (cl:aAc) (pf:Option Addr) (nf:Nat) (cf:aAc) (pt:Option Addr) (nt:Nat) (ct:aAc) (po:Option Addr) (co:aAc) (lab:List Int) (fl:List Bool) (r b:List T5) (tl:List (Nat×Fo)) (l:List T5):Prop where
 e:RV pe es.length (edT es) ce
 la:RV pl N (aAy lab) cl
 f:RV pf nf (aHw (edT es) fl) cf
 t:RV pt nt b ct
 o:RV po N l co
 parts:aAh N es lab fl r b
 tab:aAs N es lab b tl l
 lis:aIv (aAy lab) b=l
theorem bKp (N:Nat) (hN:N≤1000) (p:Option Addr) (m cap:Nat) (es:List IE) (c:aAc) (hv:Rw ecl 2 p m es c) (hm:m≤1000) (hf:∀e∈es,inE N e):
  Ct AC 18 [gv N p m cap] [c] fun v H'=>∃pe ke ce pl kl cl pf nf kf cf pt nt kt ct po ko co lab fl r b tl l,v= .agg #[.slice pe m ke,.slice pl N kl,.slice pf nf kf,.slice pt nt kt,.slice po N ko]∧H'=[c,ce,cl,cf,ct,co]∧OfOk N es pe ce pl cl pf nf cf pt nt ct po co lab fl r b tl l:=by
 have hl:=hv.1
 unfold gv
 refine Ct.go Tryz.func18 Tryz.ntmps18 fun w0=> ?_
 repeat(refine sv ?_;intros)
 rename_i b1 b2 b3
 refine G.loop (X:=OfX) (fun x=>x.i≤m∧Vec 33 5 x.p x.i x.cap (flat ((edT es).take x.i)) x.ch)
  (fun x=>[(4,.int .i64 (x.i:Int)),(3,pv b3),(2,pv b2),(1,pv b1)])
  (fun x=>[x.ch,[(b3,row [.slice x.p x.i x.cap,.slice none 0 0,.slice none 0 0,.slice none 0 0,.slice none 0 0] 30)],[(b2,row [.slice none 0 0,.slice none 0 0,.slice none 0 0,.slice none 0 0,.slice none 0 0] 30)],[(b1,row [.int .i64 (N:Int),.slice p m cap] 24)],c]) (fun x=>m-x.i) ⟨0,none,0,[]⟩ ⟨AS _,Vec.nil _ _⟩ oA3 oA0 ?_
 rintro⟨i,q,qc,ch⟩ ⟨hi,hV⟩
 dsimp only at hi hV⊢
 by_cases am:i<m
 ·obtain⟨b,off,cs,T,fz,rfl,rfl,_,ad⟩:=hv.pos aIo oM
  have ah:es[i]? =some es[i]:=AE oM
  have q0:=ad i 0 _ _ ah rfl
  have q1:=ad i 1 _ _ ah rfl
  rw[CD] at q0
  have an:=bNl ah
  generalize es[i]=e at*
  have az:i+1≤maxLen:=by simp only[maxLen];omega
  have ao:flat ((edT es).take (i+1))=flat ((edT es).take i)++[.int .i64 (i:Int),.int .i64 e.1,.int .i64 e.2,.int .i64 0,.int .i64 0]:=by
   rw[an,flat_append];rfl
  repeat(refine sv ?_;intros)
  rename_i p' ae c' ap
  have aq:Vec 33 5 p' (i+1) ae (flat ((edT es).take (i+1))) c':=by rw[ao];exact ap
  refine Dn.round ⟨i+1,p',ae,c'⟩ ⟨am,aq⟩ oD
 obtain rfl:i=m:=by omega
 rw[A4 (by rw[aMp];omega)] at hV
 have hC:=bNi N oM q i qc (edT es) ch (RV.vec hV) oM (edT_ok hf)
 repeat(refine sv ?_;intros)
 refine R.call (hct:=hC) (h:= ?_)
 rintro _ _ ⟨pa,na,ka,ca,pf,nf,kf,cf,a,f,rfl,rfl,ab,ai,a0,aj⟩
 try dsimp only[AA,AB]
 obtain⟨lab,fl,rfl,rfl,ag,au⟩:=aj.parts
 have av:na=N:=by
  have h1:=ab.1
  have h2:=ag.len
  unfold aAy at h1
  rw[AY,List.length_range] at h1
  omega
 subst av
 have hT:=bJr pa na ka (aAy lab) ca ab pf nf kf (aHw (edT es) fl) cf ai oM oM (by
  intro t ht
  obtain⟨t',aw,rfl⟩:=bNm ht
  obtain⟨j,e,he,rfl⟩:=aTv aw
  have h1:=hf e (A3 he)
  have h2:=(List.getElem?_eq_some_iff.1 he).1
  unfold inE at h1
  dsimp only
  omega) (((aSd es).map _ (fun a b h=>by omega:∀a b:T5,a.c0<b.c0→a.c0≠b.c0)).sublist (aJm _ _))
 repeat(refine sv ?_;intros)
 refine R.call (hct:=hT) (h:= ?_)
 rintro _ _ ⟨pt,nt,kt,ct,r,rfl,rfl,a1,ak,hA,ax⟩
 try dsimp only[AA,AB]
 have ac:aAh na es lab fl r (aFk r):=⟨ag,au,hA,by rw[ax,ai.1],rfl⟩
 obtain⟨tl,_,aa⟩:=ac.tab hf oM
 have ay:=bKo na es lab fl r _ tl _ ac hf aa oM pa ka ca ab pt nt kt ct (RV.vec ak) (by have:=ac.b_len hf oM;omega)
 generalize al:aIv (aAy lab) (aFk r)=l at*
 repeat(refine sv ?_;intros)
 refine R.call (hct:=ay) (h:= ?_)
 rintro _ _ ⟨bo,rfl,rfl⟩
 try dsimp only[AA,AB]
 repeat(refine sv ?_;intros)
 (refine Dn.post (Hr:=[c,ch,ca,cf,ct,[(bo,row (l.flatMap aAk) 33)]]) Tryz.results18 (hR:= ?_);exact⟨q,qc,ch,pa,ka,ca,pf,nf,kf,cf,pt,nt,kt,ct,_,_,_,lab,fl,r,_,tl,l,rfl,rfl,⟨by rw[hl];exact RV.vec hV,ab,ai,RV.vec ak,RV.row aa.len,ac,aa,al⟩⟩)
theorem aJq (n:Nat) (hn:n≤1000):Ct AC 20 [.int .i64 (n:Int)] [] fun v H'=>
  ∃bw bd ba bs cd ca cs,v=pv bw∧H'=[aAi bw bd ba bs,cd,ca,cs]∧Wc bd ba bs (wk0 10 9000 (10*n)) cd ca cs:=by
 have ab:=bNo 10 9000 oM oM
 have ac:=aYq (10*n) oM
 have ad:=aYl 9000 oM oM
 have e1:AJ .i64 ((10:Int)*(n:Int))=((10*n:Nat):Int):=by rw[aAd oM];omega
 refine Ct.go Tryz.func20 Tryz.ntmps20 fun w0=> ?_
 repeat(refine st ?_;intros)
 refine R.call (hct:=ab) (h:= ?_)
 rintro _ _ ⟨bd,cd,rfl,rfl,aa⟩
 try dsimp only[AA,AB]
 repeat(refine st ?_;intros)
 refine R.call (hct:=ac) (h:= ?_)
 rintro _ _ ⟨ba,ca,rfl,ae,rfl⟩
 try dsimp only[AA,AB]
 repeat(refine st ?_;intros)
 refine R.call (hct:=ad) (h:= ?_)
 rintro _ _ ⟨bs,cs,rfl,ag,rfl⟩
 try dsimp only[AA,AB]
 have ah:=bFc bd ba bs
 repeat(refine st ?_;intros)
 refine R.call (hct:=ah) (h:= ?_)
 rintro _ _ ⟨bw,rfl,rfl⟩
 try dsimp only[AA,AB]
 repeat(refine st ?_;intros)
 (refine Dn.post (Hr:=[aAi bw bd ba bs,cd,ca,cs]) Tryz.results20 (hR:= ?_);exact⟨bw,bd,ba,bs,cd,ca,cs,rfl,rfl,wc0 oM aa ae ag⟩)
theorem aQl (bw bd ba bs:Nat) (W:Wk) (ca cs:aAc) (aa:aKu ba W.α ca) (aj:aEx bs W.σ cs) (p:Option Addr) (n cap:Nat) (fs:List Fl) (c:aAc) (hv:Rw fl4 4 p n fs c) (hn:n≤100) (hu:W.α.used=0) (ht:aBg W.σ.free+aUu fs=9000):
  CtQ AC 32 [pv bw,.slice p n cap] [aAi bw bd ba bs,ca,cs,c] (.bool true):=by
 have hl:=hv.1
 have ac:=aGy bw bd ba bs
 have ad:=bGk bw bd ba bs
 have ab:=bLm ba W.α ca aa
 have ae:=aPeak ba W.α ca aa
 have ag:=aRoom ba W.α ca aa
 have ah:=bLh bs W.σ cs aj
 have al:=bSu aa
 rw[hu] at ab
 refine Ct.go Tryz.func32 Tryz.ntmps32 fun w0=> ?_
 repeat(first|(refine st ?_;intros)|refine cq ac ?_|refine cq ad ?_|refine cq ab ?_|refine cq ah ?_|refine cq ae ?_|refine cq ag ?_)
 refine G.loop (X:=Nat) (fun i=>i≤n) (fun i=>[(6,.int .i64 (i:Int)),(5,.int .i64 (aUu (fs.take i):Int)),(1,.slice p n cap),(0,pv bw)])
  (fun _=>[aAi bw bd ba bs,ca,cs,c]) (fun i=>n-i) 0 (AS _) (body:= ?_)
 intro i hi
 have am:=bKl fs i
 by_cases an:i<n
 ·obtain⟨b,off,cc,T,fz,rfl,rfl,_,ai⟩:=hv.pos fl4len oM
  have hit:fs[i]? =some fs[i]:=AE oM
  have q1:=ai i 1 _ _ hit rfl
  have ao:=bKk hit
  have ak:=bKl fs (i+1)
  generalize fs[i]=f at*
  have e1:AJ .i64 ((aUu (fs.take i):Int)+(f.blocks:Int))=((aUu (fs.take (i+1)):Nat):Int):=by rw[aAd oM];omega
  repeat(first|(refine st ?_;intros)|refine cq ac ?_|refine cq ad ?_|refine cq ab ?_|refine cq ah ?_|refine cq ae ?_|refine cq ag ?_)
  refine Dn.round (i+1) oM oM
 ·obtain rfl:i=n:=by omega
  rw[A4 oM]
  have e1:AJ .i64 ((9000:Int)-(aUu fs:Int))=(aBg W.σ.free:Int):=by rw[aAd oM];omega
  repeat(first|(refine st ?_;intros)|refine cq ac ?_|refine cq ad ?_|refine cq ab ?_|refine cq ah ?_|refine cq ae ?_|refine cq ag ?_)
  (refine Dn.post (Hr:=[aAi bw bd ba bs,ca,cs,c]) Tryz.results32 (hR:= ?_);exact⟨congrArg Value.bool (aBf oM),rfl⟩)
theorem aLn {n:Int} {es:List IE} (h:aDp n es=true):0≤n∧∀e∈es,inE n e:=by
 unfold aDp at h
 rw[Bool.and_eq_true,decide_eq_true_iff,List.all_eq_true] at h
 exact⟨h.1.1,fun e he=>of_decide_eq_true (h.2 e he)⟩
open Go.ChangeShapes Go.WideShapes Go.ChangeAt Go.RowKit
theorem own:ownKnob Tryz.prog.godebug=none:=by kernel_rfl
theorem aMu:laidOutB AC=true:=by kernel_rfl
theorem bAp {W W':World} {H:Hp} (h:St W [] W' H):Below W.heap.size W W':=
 ⟨h.os,h.tape,h.output,h.size,fun k hk=>h.frame k hk oA15⟩
theorem aLo {H:Type} {enc:TypeId×Value→H} {P:Program} {W W':World} (hl:laidOutB P=true) (hb:Below W.heap.size W W') {sp:Nat→Bool}:
  ∀(ts:List TypeId) (vs:List Value) (ds:List (DataW H)) (ps:List MemPlace),(∀t∈ts,P.readableRec t=true∧t<P.types.size)→
   DataW.TrodAll enc P W 0 (fun _=>true) true ts vs ds ps→(∀p∈ps,p.block<W.heap.size)→(∀p∈ps,sp p.block=true)→DataW.TrodAll enc P W' 0 sp true ts vs ds ps
 |[],vs,ds,ps,_,h,_,_=>by
  cases vs<;>cases ds<;>simp[DataW.TrodAll] at h⊢
  exact h
 |t::ts,vs,ds,ps,hr,h,hlt,hsp=>by
  obtain⟨v,aa,d,ab,p,q,rfl,rfl,rfl,h0,r0⟩:=trodAll_cons h
  have h1:=WideElems.Trod_stays hl (hr t AH).1 (hr t AH).2 h0 (fun x hx=>hb.same (hlt x (BO _ hx))) (fun x hx=>hsp x (BO _ hx))
  exact trodAll_cons_mk h1 (aLo hl hb ts aa ab q (fun t ht=>hr t (AI _ ht)) r0 (fun x hx=>hlt x (BM _ hx)) (fun x hx=>hsp x (BM _ hx)))
theorem bKq {H:Type} {enc:TypeId×Value→H} {P:Program} {f:Func} {s:ChangeSpec} {apart fresh ac again:Bool} {W W':World} {args:Array Value} {v:Value} {ds gs:List (DataW H)} {aa pa pv:List MemPlace}
  (hW:DataW.Whole enc P f.params.toList s.vars apart W args.toList ds gs aa)
  (ag:∀(b:Nat) (sp:Nat→Bool) (hd:Bool),DataW.TrodAll enc P W' b sp hd f.resultTypes.toList (v.resultList f.resultTypes.size) (s.fn H (ds++gs)).results [])
  (ad:∀sp:Nat→Bool,(∀p∈aa,sp p.block=true)→DataW.TrodAll enc P W' 0 sp true f.params.toList args.toList (s.fn H (ds++gs)).args pa)
  (ab:∀sp:Nat→Bool,(∀p∈aa,sp p.block=true)→DataW.TrodVars enc P W' sp s.vars (s.fn H (ds++gs)).vars pv)
  (ae:aa=pa++pv) (hk:W.keptBut W' (·∈aa)) (al:∀a:Addr,a.block<W.heap.size→W'.frozen? a=W.frozen? a)
  (ak:∀(j:Nat) (t:TypeId) (r:Value),f.resultTypes[j]? =some t→(v.resultList f.resultTypes.size)[j]? =some r→Value.okWide P W' .any 0 t r):
  s.post enc P f apart fresh ac again W args v W':=by
 have ah:∀p∈aa,(fun b=>decide (b<W.heap.size)) p.block=true:=fun p hp=>by simpa using hW.lt p hp
 have ai:∀p∈aa,p.block<W.heap.size:=fun p hp=>hW.lt p hp
 refine⟨ds,gs,aa,[],pa,pv,hW,ag _ _ _,ad _ ah,ab _ ah,World.keptBut_mono (fun p hp=>⟨hp,?_⟩) hk,fun _=> ?_⟩
 ·rw[ae,AO] at hp
  exact Or.inr hp
 ·obtain⟨_,_,_,_,_,hz,hn⟩:=hW
  refine⟨ak,_,_,([]++pa)++pv,⟨[]++pa,pv,trodAll_append (ad _ (fun _ _=>rfl)) (ag _ _ _),ab _ (fun _ _=>rfl),rfl,?_,?_⟩,?_⟩
  ·intro b off hp
   have aj:MemPlace.cell b off∈aa:=by rw[ae];simpa using hp
   rw[al _ (ai _ aj)]
   exact hz b off aj
  ·intro ha
   have:=hn ha
   rw[ae] at this
   simpa using this
  ·intro p hp _
   rw[ae]
   simpa using hp
theorem aMv {H:Type} {enc:TypeId×Value→H} {P:Program} {f:Func} {s:ChangeSpec} {b:TypeId} {W W':World} {args:Array Value} {ds gs:List (DataW H)} {aa:List MemPlace}
  (hW:DataW.Whole enc P f.params.toList s.vars false W args.toList ds gs aa) (hv:s.vars=[]) (ad:f.resultTypes= #[b]) (hb:P.underlying b=some .bool) (hl:laidOutB P=true)
  (hr:∀t∈f.params.toList,P.readableRec t=true∧t<P.types.size) (ac:s.fn H (ds++gs)={results:=[.lit (.bool true)],args:=ds}) (ab:Below W.heap.size W W'):
  s.post enc P f false true false false W args (.bool true) W':=by
 have ae:=hW
 have ag:∀p∈aa,p.block<W.heap.size:=fun p hp=>ae.lt p hp
 obtain⟨p,q,hA,hV,rfl,ak,al⟩:=hW
 rw[hv] at hV
 have hq:q=[]:=by cases gs<;>simp[DataW.TrodVars] at hV;exact hV
 subst hq
 have ah:gs=[]:=by cases gs<;>simp[DataW.TrodVars] at hV⊢
 subst ah
 simp only[AQ] at ae ag ac
 refine bKq (pa:=p) (pv:=[]) ae ?_ ?_ ?_ oA15 ?_ ?_ ?_
 ·intro aj sp hd
  simp only[AQ,ac,ad]
  exact trodAll_mk1 (shut_bool hb true)
 ·intro sp ai
  simp only[AQ,ac]
  exact aLo hl ab _ _ _ _ hr hA ag ai
 ·intro sp _
  simp only[AQ,ac,hv]
  rfl
 ·exact ab.frame _
 ·exact fun a ha=>ab.frozen ha
 ·exact ok_one ad rfl (okWide_bool_mk hb true)
theorem st_nil (W:World):St W (keys []) W []:=
 ⟨by simp[keys],by simp,by simp[keys],fun _ _ _=>rfl,AG _,rfl,rfl,rfl⟩
theorem bKr {P:Program} {f:FuncId} {args:List Value} (h:CtQ P f args [] (.bool true)) (W:World):
  Calls P f args.toArray W fun e W'=>e= .returned (.bool true)∧Below W.heap.size W W':=by
 unfold CtQ Ct at h
 refine(h W (st_nil W)).mono fun e W' ⟨v,H',h1,⟨h2,h3⟩,h4⟩=> ?_
 subst h2
 exact⟨h1,bAp h4⟩
theorem bAq {P:Program} {W:World} {aa:Nat} {e:TypeId} {k:IntKind} {v:Value} (he:P.underlying e=some (.int k)) (h:Cell.okWide P W .any aa e v):∃n,v= .int k n∧k.has n=true:=by
 simp only[Cell.okWide,he] at h
 cases v<;>simp_all [Cell.ok]
theorem bCz {α:Type} {l:List α} {n:Nat} (h:l.length=n+1):∃a t,l=a::t∧t.length=n:=by
 match l,h with
 |a::t,h=>exact⟨a,t,rfl,by simpa using h⟩
theorem aXu {W W':World} {c:aAc} (hc:∀q∈c,W.heap[q.1]? =some q.2) (h:St W (keys [c]) W' [c]):Below W.heap.size W W':=
 ⟨h.os,h.tape,h.output,h.size,fun k hk=>by
  by_cases hm:k∈keys [c]
  ·simp only[keys,AW,A5,AQ,AU] at hm
   obtain⟨q,hq,rfl⟩:=hm
   rw[hc q hq]
   exact h.sat q (by simpa using hq)
  ·exact h.frame k hk hm⟩
theorem aHl {P:Program} {f:FuncId} {args:List Value} {c:aAc} {W:World} (hc:∀q∈c,W.heap[q.1]? =some q.2) (aa:(c.map (·.1)).Nodup) (h:CtQ P f args [c] (.bool true)):
  Calls P f args.toArray W fun e W'=>e= .returned (.bool true)∧Below W.heap.size W W':=by
 unfold CtQ Ct at h
 have ab:St W (keys [c]) W [c]:=by
  refine⟨by simpa[keys] using aa,by simpa using hc,fun k hk=> .inl hk,fun _ _ _=>rfl,AG _,rfl,rfl,rfl⟩
 refine(h W ab).mono fun e W' ⟨v,H',h1,⟨h2,h3⟩,h4⟩=> ?_
 subst h2 h3
 exact⟨h1,aXu hc h4⟩
def InT (ts:List T5):Prop:=∀t∈ts,∀c∈t.toList,aAv c
theorem bSv {x:Int} (h:(Lit.int .i64 x).wf=true):aAv x:=by
 simp[Lit.wf,IntKind.min,IntKind.max,IntKind.bits,IntKind.signed] at h
 unfold aAv;omega
theorem openU8 {P:Program} {W:World} {aa:Nat} {T e:TypeId} {n:Nat} {v:Value} (hu:(∃fs,P.underlying T=some (.struct fs))∨∃m E,P.underlying T=some (.array m E)) (hct:P.cellTypes P.depth T=some (BY n e)) (hc:P.cellsOf T=n)
  (he:P.underlying e=some (.int .u8)) (h:Value.okWide P W .any aa T v):∃l:List Nat,l.length=n∧(∀x∈l,x<256)∧v= .agg (l.map fun (x:Nat)=>Value.int .u8 (x:Int)).toArray:=by
 have h':∃cs,v= .agg cs∧cs.size=P.cellsOf T∧Row.okWide P W .any aa T cs:=by
  rcases hu with⟨fs,hu⟩|⟨m,E,hu⟩<;>simpa only[Value.okWide,hu] using h
 obtain⟨cs,rfl,ac,ts,hts,hm,ab⟩:=h'
 rw[hct] at hts
 obtain rfl:=BD hts
 rw[hc] at ac
 obtain⟨l⟩:=cs
 have g:∀v∈l,∃x:Nat,x<256∧v=Value.int .u8 (x:Int):=by
  intro v hv
  obtain⟨i,hi,rfl⟩:=List.getElem_of_mem hv
  obtain⟨u,ae,ag⟩:=ab i l[i] oA15
  obtain rfl:=List.eq_of_mem_replicate (A3 ae)
  obtain⟨x,hx,hr⟩:=bAq he ag
  simp[IntKind.has,IntKind.min,IntKind.max,IntKind.bits,IntKind.signed] at hr
  exact⟨x.toNat,oM,by rw[hx,Int.toNat_of_nonneg oM]⟩
 have:∃xs:List Nat,(∀x∈xs,x<256)∧l=xs.map fun (x:Nat)=>Value.int .u8 (x:Int):=by
  clear ab ac hm h
  induction l with
  |nil=>exact⟨[],by simp,rfl⟩
  |cons v l ih=>
   obtain⟨x,hx,rfl⟩:=g v AH
   obtain⟨xs,ad,rfl⟩:=ih fun v hv=>g v (AI _ hv)
   exact⟨x::xs,by simpa using⟨hx,ad⟩,rfl⟩
 obtain⟨xs,ad,rfl⟩:=this
 exact⟨xs,by simpa using ac,ad,rfl⟩
theorem aOm {P:Program} {W:World} {aa:Nat} {e:TypeId} {v:Value} (he:P.underlying e=some (.int .u8)) (h:Value.okWide P W .any aa e v):∃x:Nat,x<256∧v= .int .u8 (x:Int):=by
 have h':Cell.okWide P W .any aa e v:=by simpa only[Value.okWide,he] using h
 obtain⟨x,hx,hr⟩:=bAq he h'
 simp[IntKind.has,IntKind.min,IntKind.max,IntKind.bits,IntKind.signed] at hr
 exact⟨x.toNat,oM,by rw[hx,Int.toNat_of_nonneg oM]⟩
theorem bKs {P:Program} {W:World} {aa:Nat} {e:TypeId} {v:Value} (he:P.underlying e=some (.int .u16)) (h:Value.okWide P W .any aa e v):∃x:Nat,x<65536∧v= .int .u16 (x:Int):=by
 have h':Cell.okWide P W .any aa e v:=by simpa only[Value.okWide,he] using h
 obtain⟨x,hx,hr⟩:=bAq he h'
 simp[IntKind.has,IntKind.min,IntKind.max,IntKind.bits,IntKind.signed] at hr
 exact⟨x.toNat,oM,by rw[hx,Int.toNat_of_nonneg oM]⟩
theorem bDa (cs:List Value):∀(len off:Nat),(∀i,i<len→∃t:T5,(∀c∈t.toList,aAv c)∧∀j,j<5→cs[off+i*5+j]? =(aAk t)[j]?)→∃ts:List T5,ts.length=len∧InT ts∧(cs.drop off).take (len*5)=flat ts
 |0,off,_=>⟨[],rfl,fun t ht=>by simp at ht,by simp[flat]⟩
 |len+1,off,h=>by
  obtain⟨t,aa,ht⟩:=h 0 oM
  obtain⟨ts,hl,ab,he⟩:=bDa cs len (off+5) (fun i hi=>by
   obtain⟨t,aa,ht⟩:=h (i+1) oM
   exact⟨t,aa,fun j hj=>by rw[←ht j hj];congr 1;omega⟩)
  refine⟨t::ts,by simp[hl],fun u hu=>by
   rcases AM.1 hu with rfl|hu
   ·exact aa
   ·exact ab u hu,?_⟩
  have hd:cs.drop off=aAk t++cs.drop (off+5):=by
   apply CH
   intro j
   rw[BR]
   by_cases hj:j<5
   ·rw[BI (by simpa[aAk] using hj),←ht j hj];simp
   ·rw[A9 (by simp[aAk];omega),BR]
    congr 1
    simp[aAk];omega
  rw[hd,flat,←he,List.take_append]
  rw[A4 (by simp[aAk];omega)]
  congr 2
  simp[aAk];omega
theorem aNg {H:Type} {enc:TypeId×Value→H} {P:Program} {w:World} {ak:Nat} {t E e:TypeId} {v:Value} {d:DataW H} {ps:List MemPlace} (ht:P.underlying t=some (.slice E)) (hE:P.underlying E=some (.array 5 e))
  (he:P.underlying e=some (.int .i64)) (aj:P.cellsOf E=5) (ap:P.cellsOf e=1) (h:DataW.Trod enc P w 0 (fun _=>true) true t v d ps) (ao:Value.okWide P w .any ak t v):
  ∃p n cap ts c,v= .slice p n cap∧RV p n ts c∧InT ts∧n≤maxLen∧(∀q∈c,w.heap[q.1]? =some q.2)∧(c.map (·.1)).Nodup:=by
 obtain⟨a,len,cap,rfl⟩:=okWide_slice ht ao
 obtain⟨az,h⟩:=h
 rcases Deep.open_slice ht h with⟨h0,_⟩|⟨a',a0,a1,m,n,D,Pl,h0,hb,hl,hm,al,_,hx⟩
 ·simp[Value.cells] at h0
  obtain⟨rfl,rfl,rfl⟩:=h0
  exact⟨none,0,0,[],[],rfl,⟨rfl,.inl ⟨rfl,rfl⟩⟩,fun t ht=>by simp at ht,by decide,by simp,by simp⟩
 ·simp[Value.cells] at h0
  obtain⟨rfl,rfl,rfl⟩:=h0
  by_cases hz:len=0
  ·subst hz
   exact⟨some a',0,cap,[],[],rfl,⟨rfl,.inl ⟨rfl,rfl⟩⟩,fun t ht=>by simp at ht,by decide,by simp,by simp⟩
  ·simp only[if_true] at al
   subst al
   have each:∀i,i<len→∃t:T5,(∀c∈t.toList,aAv c)∧∀j,j<5→w.cell? ((a'.add (i*5)).add j)=(aAk t)[j]? :=by
    intro i hi
    obtain⟨am,h1,h2⟩:=hx i oM
    rw[aj] at h1
    obtain⟨xs,k,_,_,an,a2,aq⟩:=DataW.trod_array hE h2
    rw[aj] at an
    have ag:∀j,j<5→w.cell? ((a'.add (i*5)).add j)=am[j]? :=by
     intro j hj
     simp only[World.cells?,AS,if_true] at h1
     exact mapM_some_get h1 j j (by simp[hj])
    have aa:∀j,j<5→∃x,aAv x∧am[j]? =some (.int .i64 x):=by
     intro j hj
     have ah:=aq j hj
     rw[ap,Nat.mul_one] at ah
     rw[AE oM] at ah
     obtain⟨x,au,_,av⟩:=DataW.trod_int he ah
     refine⟨x,bSv av,?_⟩
     have:=congrArg (·[0]?) au
     simpa[List.getElem?_take,BR] using this
    obtain⟨x0,r0,h0⟩:=aa 0 oM
    obtain⟨x1,r1,h1⟩:=aa 1 oM
    obtain⟨x2,r2,h2⟩:=aa 2 oM
    obtain⟨x3,r3,h3⟩:=aa 3 oM
    obtain⟨x4,r4,h4⟩:=aa 4 oM
    refine⟨⟨x0,x1,x2,x3,x4⟩,fun c hc=>by
     simp only[T5.toList,AM,B6,or_false] at hc
     rcases hc with rfl|rfl|rfl|rfl|rfl<;>assumption,fun j hj=> ?_⟩
    rw[ag j hj]
    match j,hj with
    |0,_=>exact h0
    |1,_=>exact h1
    |2,_=>exact h2
    |3,_=>exact h3
    |4,_=>exact h4
   obtain⟨b,off,ae⟩:=a'
   obtain⟨t0,_,aw⟩:=each 0 oM
   have ab:=aw 0 oM
   have hs:ae=none:=by
    cases ae with
    |none=>rfl
    |some s=>
     exfalso
     simp only[Addr.add,World.cell?,aAk,List.getElem?_cons_zero] at ab
     revert ab
     split<;>simp
   subst hs
   have ac:∀i j,((⟨b,off,none⟩:Addr).add i).add j=⟨b,off+i+j,none⟩:=fun i j=>by rw[Addr.add_mk,Addr.add_mk]
   cases hbk:w.heap[b]? with
   |none=>rw[ac] at ab;simp[World.cell?,hbk,aAk] at ab
   |some ob=>
    cases ob with
    |cells ad T fz=>
     obtain⟨ts,hts,ax,ai⟩:=bDa ad.toList len off (fun i hi=>by
      obtain⟨t,ay,ht⟩:=each i hi
      refine⟨t,ay,fun j hj=> ?_⟩
      rw[←ht j hj,ac,cell_of_row w b _ ad T fz hbk]
      simp)
     refine⟨_,len,_,ts,[(b,aBs ad.toList T fz)],rfl,⟨hts,.inr ⟨b,off,ad.toList,T,fz,rfl,rfl,ai⟩⟩,ax,oM,?_,by simp⟩
     intro q hq
     simp only[AT] at hq
     subst hq
     simpa[aBs] using hbk
    |_=>rw[ac] at ab;simp[World.cell?,hbk,aAk] at ab
def ChIn (w:World) (c:aAc):Prop:=∀q∈c,w.heap[q.1]? =some q.2
def Ch1 (c:aAc):Prop:=c=[]∨∃q,c=[q]
theorem Ch1.rw {α:Type} {f:α→List Value} {k:Nat} {p:Option Addr} {m:Nat} {xs:List α} {c:aAc} (h:Rw f k p m xs c):Ch1 c:=by
 rcases h.2 with⟨_,h⟩|⟨b,off,cs,T,fz,_,h,_⟩
 ·exact .inl h
 ·exact .inr ⟨_,h⟩
theorem Ch1.rv {p:Option Addr} {n:Nat} {ts:List T5} {c:aAc} (h:RV p n ts c):Ch1 c:=Ch1.rw (RV.rw h)
theorem bPh {w:World} {c0 c1:aAc} (h0:ChIn w c0) (h1:ChIn w c1) (s0:Ch1 c0) (s1:Ch1 c1):∃A,ChIn w A∧(A.map (·.1)).Nodup∧(∃r,A.Perm (c0++r))∧∃r,A.Perm (c1++r):=by
 rcases s0 with rfl|⟨q0,rfl⟩
 ·refine⟨c1,h1,?_,⟨c1,.refl _⟩,⟨[],by simp⟩⟩
  rcases s1 with rfl|⟨q1,rfl⟩<;>simp
 ·rcases s1 with rfl|⟨q1,rfl⟩
  ·exact⟨[q0],h0,by simp,⟨[],by simp⟩,⟨[q0],by simp⟩⟩
  ·by_cases hq:q0.1=q1.1
   ·have e0:=h0 q0 oA15
    have e1:=h1 q1 oA15
    rw[hq,e1,BA] at e0
    have:q0=q1:=by obtain⟨a,b⟩:=q0;obtain⟨a',b'⟩:=q1;simp only at hq e0;rw[hq,e0]
    subst this
    exact⟨[q0],h0,by simp,⟨[],by simp⟩,⟨[],by simp⟩⟩
   ·refine⟨[q0,q1],?_,by simp[hq],⟨[q1],.refl _⟩,⟨[q0],.swap _ _ _⟩⟩
    intro q hm
    simp only[AM,B6,or_false] at hm
    rcases hm with rfl|rfl
    ·exact h0 _ oA15
    ·exact h1 _ oA15
theorem Ct.inA {P:Program} {f:FuncId} {args:List Value} {c A r:aAc} {H:Hp} {R:Value→Hp→Prop} (h:Ct P f args (c::H) fun v H'=>∃H1,H'=c::H1∧R v H1) (hA:A.Perm (c++r)):Ct P f args (A::H) fun v H'=>∃H1,H'=A::H1∧R v H1:=by
 have h2:= @Ct.frame P f args (c::H) [r] _ h
 have h3:Ct P f args (c::H++[r]) fun v H'=>∃H1,H'=c::H1++[r]∧R v H1:=by
  unfold Ct
  intro w hw
  refine(h2 hw).mono ?_
  rintro e w' ⟨v,H',h4,⟨H1,rfl,h5⟩,h6⟩
  exact⟨v,c::H1++[r],h4,⟨H1,rfl,h5⟩,h6⟩
 have hp:∀H1:Hp,(A::H1).flatten.Perm (c::H1++[r]).flatten:=fun H1=>by
  simp only[AW,A0,A5,AQ,AA]
  refine(hA.append_right _).trans ?_
  rw[AP]
  exact BE _ B3
 refine Ct.convP h3 (hp H) ?_
 rintro v H' ⟨H1,rfl,h5⟩
 exact⟨A::H1,⟨H1,rfl,h5⟩,(hp H1).symm⟩
theorem CtQ.inA {P:Program} {f:FuncId} {args:List Value} {c A r:aAc} {H:Hp} {v:Value} (h:CtQ P f args (c::H) v) (hA:A.Perm (c++r)):CtQ P f args (A::H) v:=by
 have h1:Ct P f args (c::H) fun v' H'=>∃H1,H'=c::H1∧(v'=v∧H1=H):=h.mono fun v' H' ⟨a,b⟩=>⟨H,b,a,rfl⟩
 exact(Ct.inA h1 hA).mono fun v' H' ⟨H1,a,b,c⟩=>⟨b,by rw[a,c]⟩
structure bPi (ro N:Nat) (es:List IE) (qs:List T5) (W:Wk) (a b c q:Fl) (lab:List Int) (fl:List Bool) (r bt:List T5) (tl:List (Nat×Fo)) (l:List T5):Prop where
 parts:aAh N es lab fl r bt
 tab:aAs N es lab bt tl l
 lis:aIv (aAy lab) bt=l
 ons:Ons 9000 ro W [a,b,c,q]
 ia:aBm W (a,aAy lab)
 ib:aBm W (b,bt)
 ic:aBm W (c,l)
 iq:aBm W (q,qs)
 wa:a.width=2
 wb:b.width=5
 wc:c.width=5
 wq:q.width=3
 fault:W.δ.fault= -1
 acts:W.δ.acts≤300000
theorem Ct.inE {P:Program} {f:FuncId} {args:List Value} {c A r:aAc} {H:Hp} {R:Value→Hp→Prop} (h:Ct P f args (H++[c]) fun v H'=>∃H1,H'=H1++[c]∧R v H1) (hA:A.Perm (c++r)):Ct P f args (H++[A]) fun v H'=>∃H1,H'=H1++[A]∧R v H1:=by
 have h2:= @Ct.frame P f args (H++[c]) [r] _ h
 have h3:Ct P f args (H++[c]++[r]) fun v H'=>∃H1,H'=H1++[c]++[r]∧R v H1:=by
  unfold Ct
  intro w hw
  refine(h2 hw).mono ?_
  rintro e w' ⟨v,H',h4,⟨H1,rfl,h5⟩,h6⟩
  exact⟨v,H1++[c]++[r],h4,⟨H1,rfl,h5⟩,h6⟩
 have hp:∀H1:Hp,(H1++[A]).flatten.Perm (H1++[c]++[r]).flatten:=fun H1=>by
  simp only[AW,A0,A5,AQ,AP]
  exact BE _ hA
 refine Ct.convP h3 (hp H) ?_
 rintro v H' ⟨H1,rfl,h5⟩
 exact⟨H1++[A],⟨H1,rfl,h5⟩,(hp H1).symm⟩
theorem bKt {bw bd ba bs n ro:Nat} (ab:10≤ro) {W:Wk} {cd ca cs:aAc} (hW:Wc bd ba bs W cd ca cs) {fs:List Fl} (hO:Ons n ro W fs) (hf:W.δ.fault= -1) (ac:W.δ.acts≤1000000) (k:Nat) (h1:1≤k) (h2:k≤5) {p:Option Addr} {m cap:Nat} {ts:List T5} {c:aAc} (hv:RV p m ts c) (hm:m≤10000) (aa:∀t∈ts,okT k t) (hb:m≤big W.σ.free) {A r:aAc} (hA:A.Perm (c++r)):
  Ct AC 73 [pv bw,.int .i64 (k:Int),.slice p m cap] [aAi bw bd ba bs,cd,ca,cs,A] fun v H'=>
   ∃cd' ca' cs' W' f,v= .tuple #[flv f,.int .i64 0]∧H'=[aAi bw bd ba bs,cd',ca',cs',A]∧Wc bd ba bs W' cd' ca' cs'∧Ons n ro W' (fs++[f])∧aBm W' (f,ts)∧f.width=k∧f.count=m∧W'.δ.fault= -1∧W'.δ.acts≤W.δ.acts+m∧big W.σ.free≤big W'.σ.free+m∧(∀z,aBm W z→aBm W' z):=by
 have h:=aOk (bw:=bw) (cap:=cap) ab hW hO hf ac k h1 h2 hv hm aa hb
 have h3:Ct AC 73 [pv bw,.int .i64 (k:Int),.slice p m cap] ([aAi bw bd ba bs,cd,ca,cs]++[c]) fun v H'=>∃H1,H'=H1++[c]∧
   ∃cd' ca' cs' W' f,v= .tuple #[flv f,.int .i64 0]∧H1=[aAi bw bd ba bs,cd',ca',cs']∧Wc bd ba bs W' cd' ca' cs'∧Ons n ro W' (fs++[f])∧aBm W' (f,ts)∧f.width=k∧f.count=m∧W'.δ.fault= -1∧W'.δ.acts≤W.δ.acts+m∧big W.σ.free≤big W'.σ.free+m∧(∀z,aBm W z→aBm W' z):=h.mono fun v H' ⟨cd',ca',cs',W',f,a,b,d⟩=>⟨[aAi bw bd ba bs,cd',ca',cs'],b,cd',ca',cs',W',f,a,rfl,d⟩
 exact(Ct.inE h3 hA).mono fun v H' ⟨H1,a,cd',ca',cs',W',f,b,d,e⟩=>⟨cd',ca',cs',W',f,b,by rw[a,d];rfl,e⟩
theorem bDb (N:Nat) (hN:N≤1000) (p:Option Addr) (m cap:Nat) (es:List IE) (c:aAc) (hv:Rw ecl 2 p m es c) (hm:m≤1000) (hf:∀e∈es,inE N e) {A r0:aAc} (hA:A.Perm (c++r0)):
  Ct AC 18 [gv N p m cap] [A] fun v H'=>∃pe ke ce pl kl cl pf nf kf cf pt nt kt ct po ko co lab fl r b tl l,v= .agg #[.slice pe m ke,.slice pl N kl,.slice pf nf kf,.slice pt nt kt,.slice po N ko]∧H'=[A,ce,cl,cf,ct,co]∧OfOk N es pe ce pl cl pf nf cf pt nt ct po co lab fl r b tl l:=by
 have h:=bKp N hN p m cap es c hv hm hf
 have h3:Ct AC 18 [gv N p m cap] [c] fun v H'=>∃H1,H'=c::H1∧∃pe ke ce pl kl cl pf nf kf cf pt nt kt ct po ko co lab fl r b tl l,v= .agg #[.slice pe m ke,.slice pl N kl,.slice pf nf kf,.slice pt nt kt,.slice po N ko]∧H1=[ce,cl,cf,ct,co]∧OfOk N es pe ce pl cl pf nf cf pt nt ct po co lab fl r b tl l:=
  h.mono fun v H' ⟨pe,ke,ce,pl,kl,cl,pf,nf,kf,cf,pt,nt,kt,ct,po,ko,co,lab,fl,r,b,tl,l,a,d,e⟩=>⟨_,d,pe,ke,ce,pl,kl,cl,pf,nf,kf,cf,pt,nt,kt,ct,po,ko,co,lab,fl,r,b,tl,l,a,rfl,e⟩
 exact(Ct.inA h3 hA).mono fun v H' ⟨H1,g,pe,ke,ce,pl,kl,cl,pf,nf,kf,cf,pt,nt,kt,ct,po,ko,co,lab,fl,r,b,tl,l,a,d,e⟩=>⟨pe,ke,ce,pl,kl,cl,pf,nf,kf,cf,pt,nt,kt,ct,po,ko,co,lab,fl,r,b,tl,l,a,by rw[g,d],e⟩
theorem bDc (bw bd ba bs ro:Nat) (bg:80≤ro) (cd ca cs:aAc) (hW:Wc bd ba bs (wk0 10 9000 ro) cd ca cs) (N:Nat) (hN:N≤40) (p:Option Addr) (m cap:Nat) (es:List IE) (c:aAc) (hv:Rw ecl 2 p m es c) (hm:m≤1000) (hf:∀e∈es,inE N e)
  (p2:Option Addr) (n2 ac:Nat) (qs:List T5) (c2:aAc) (hq:RV p2 n2 qs c2) (bh:n2≤90) (ai:∀t∈qs,okT 3 t) (A r1 r2:aAc) (aj:A.Perm (c++r1)) (ak:A.Perm (c2++r2)):
  Ct AC 33 [pv bw,gv N p m cap,.slice p2 n2 ac] [aAi bw bd ba bs,cd,ca,cs,A] fun v H'=>∃cd' ca' cs' W' fa fb fc fq lab fl r bt tl l,v= .tuple #[.agg (fl4 fa++fl4 fb++fl4 fc++fl4 fq).toArray,.bool true]∧H'=[aAi bw bd ba bs,cd',ca',cs',A]∧Wc bd ba bs W' cd' ca' cs'∧bPi ro N es qs W' fa fb fc fq lab fl r bt tl l:=by
 have ab:=eQ0
 have bi:=hv.1
 have bk:=hq.1
 have ad:=bDb N oM p m cap es c hv oM hf aj
 have al:=Ons.fresh 9000 ro
 have bo:big (wk0 10 9000 ro).σ.free=9000:=big0 10 9000 ro
 unfold gv at ad⊢
 refine Ct.go Tryz.func33 Tryz.ntmps33 fun w0=> ?_
 repeat(refine st ?_;intros)
 refine R.call (hct:=ad) (h:= ?_)
 rintro _ _ ⟨pe,ke,ce,pl,kl,cl,pf,nf,kf,cf,pt,nt,kt,ct,pz,kz,cz,lab,fl,r,b,tl,l,rfl,rfl,aa⟩
 try dsimp only[AA,AB]
 have hP:=aa.parts
 have hT:=aa.tab
 have bp:=hP.b_len hf oM
 have bq:b.length=nt:=aa.t.1
 have am:=aOk (bw:=bw) (cap:=kl) oM hW al rfl (AS _) 2 oM oM aa.la oM (hP.lab_ok oM) oM
 repeat(refine st ?_;intros)
 refine R.call (hct:=am) (h:= ?_)
 rintro _ _ ⟨bu,bv,bz,W1,f1,rfl,rfl,an,ao,ap,w1,c1,aq,a1,b1,k1⟩
 try dsimp only[AA,AB]
 rw[show(wk0 10 9000 ro).δ.acts=0 from rfl] at a1
 have au:=aOk (bw:=bw) (cap:=kt) oM an ao aq oM 5 oM oM aa.t oM (hP.tour_ok hf oM oM) oM
 rw[ab]
 repeat(refine st ?_;intros)
 refine R.call (hct:=au) (h:= ?_)
 rintro _ _ ⟨b5,b6,b7,W2,f2,rfl,rfl,av,aw,ax,w2,b8,ay,a2,b2,k2⟩
 try dsimp only[AA,AB]
 have az:=aOk (bw:=bw) (cap:=kz) oM av aw ay oM 5 oM oM aa.o oM (hT.okT oM) oM
 rw[ab]
 repeat(refine st ?_;intros)
 refine R.call (hct:=az) (h:= ?_)
 rintro _ _ ⟨b9,cg,ci,W3,f3,rfl,rfl,a0,a5,a6,w3,c3,a7,a3,b3,k3⟩
 try dsimp only[AA,AB]
 have a8:=bKt (bw:=bw) (cap:=ac) oM a0 a5 a7 oM 3 oM oM hq oM ai oM ak
 rw[ab]
 repeat(refine st ?_;intros)
 refine R.call (hct:=a8) (h:= ?_)
 rintro _ _ ⟨ae,ag,ah,W4,f4,rfl,rfl,a9,bc,be,w4,c4,bf,a4,b4,k4⟩
 try dsimp only[AA,AB]
 rw[ab]
 repeat(refine st ?_;intros)
 (refine Dn.post (Hr:=[aAi bw bd ba bs,ae,ag,ah,A]) Tryz.results33 (hR:= ?_);exact⟨ae,ag,ah,W4,f1,f2,f3,f4,lab,fl,r,b,tl,l,by rw[aBf rfl];rfl,rfl,a9,⟨hP,hT,aa.lis,bc,k4 _ (k3 _ (k2 _ ap)),k4 _ (k3 _ ax),k4 _ a6,be,w1,w2,w3,w4,bf,oM⟩⟩)
end Go.Proofs.YtaofijjjheiknaaGreat
namespace Go.SL
section
variable {P:Program} {ops:Array Oper} {Q:Exit→Act→World→Prop} {cls:Nat→Oper→Cls} {w0:World} {S:List Nat} {n:Nat} {l:List (Nat×Oper)} {L:aBk} {D:List Deferred} {H:Hp} {qs:List Rd} {k d:Nat} {ty:TypeId} {pos:String} {af:Array Edge} {g:Option (Nat×Bool)}
theorem R.sliceAA {T m E sz:Nat} [ho:ArrT P T m E sz] {x:Operand} {b p:Nat} (hx:ev L x=some (.pointer (some ⟨b,p,none⟩)))
  (hc:cls k ⟨some d,.slice T x none none none,ty,pos,af,g⟩= .pure) (hn:d<n)
  (h:R P ops Q cls w0 S n l ((d,.slice (some ⟨b,p,none⟩) m m)::L) D H qs):R1 P ops Q cls w0 S n k ⟨some d,.slice T x none none none,ty,pos,af,g⟩ l L D H qs:=
 R1.pureStep hc rfl hn (fun ac hf w=>by
  have hr:(Instr.sliceBounds false m m none none none).run P w= .ok (0,m,m) w:=by
   simp[Instr.sliceBounds,run_sliceBound]
  simp[execOp,hf.eval hx,Instr.sliceAt,run_underlying ho.und,Instr.sureAddr,hr,ho.size,aFr]) h
end
end Go.SL
namespace Go.Proofs.YtaofijjjheiknaaGreat
open Go.SL Go.Spc Go.Tup Go.Srt Go.Gr
theorem aXv (bw bd ba bs ro:Nat) (al:80≤ro) (cd ca cs:aAc) (hW:Wc bd ba bs (wk0 10 9000 ro) cd ca cs) (N:Nat) (hN:N≤40) (p:Option Addr) (m cap:Nat) (es:List IE) (c:aAc) (hv:Rw ecl 2 p m es c) (hm:m≤1000) (hf:∀e∈es,inE N e)
  (p2:Option Addr) (n2 ad:Nat) (qs:List T5) (c2:aAc) (hq:RV p2 n2 qs c2) (a1:n2≤90) (ay:∀t∈qs,okT 3 t) (A r1 r2:aAc) (az:A.Perm (c++r1)) (a0:A.Perm (c2++r2)):
  Ct AC 19 [pv bw,gv N p m cap,.slice p2 n2 ad] [aAi bw bd ba bs,cd,ca,cs,A] fun v H'=>∃cd' ca' cs' W' po nl oc co bq kq kc qf fs lab fl r bt tl l,∃e:Int,v= .tuple #[.slice po nl oc,.slice (some ⟨bq,0,none⟩) kq kc,.int .i64 e]∧H'=[aAi bw bd ba bs,cd',ca',cs',A,co,qf]∧Wc bd ba bs W' cd' ca' cs'∧
   aAh N es lab fl r bt∧aAs N es lab bt tl l∧aIv (aAy lab) bt=l∧Rw fl4 4 (some ⟨bq,0,none⟩) kq fs qf∧kq≤5∧W'.α.used=0∧W'.σ.n=9000∧W'.live.Perm (aAz fs [])∧
   ((e=0∧aIb N qs∧nl=(aBw (aAy lab) bt l qs).length∧Vec 33 5 po nl oc (flat (aBw (aAy lab) bt l qs)) co)∨(e=3∧¬aIb N qs∧po=none∧nl=0∧oc=0∧co=[])):=by
 have aa:=eQ0
 have bi:=hq.1
 have ag:=bDc bw bd ba bs ro al cd ca cs hW N hN p m cap es c hv hm hf p2 n2 ad qs c2 hq a1 ay A r1 r2 az a0
 unfold gv at ag⊢
 simp only[fl4,AA,AB,AP] at ag
 refine Ct.go Tryz.func19 Tryz.ntmps19 fun w0=> ?_
 repeat(refine sv ?_;intros)
 refine R.call (hct:=ag) (h:= ?_)
 rintro _ _ ⟨a2,a3,a4,W1,fa,fb,fc,fq,lab,fl,r,bt,tl,l,rfl,rfl,a5,hL⟩
 try dsimp only[AA,AB]
 have am:=aSj bw bd ba bs ro al N hN es (by have:=hv.1;omega) hf W1 a2 a3 a4 a5 fa fb fc fq hL.ons hL.parts hL.tab hL.ia hL.ib hL.ic hL.iq hL.wa hL.wb hL.wc hL.wq oM hL.acts
 rw[aa,aa,aa,aa] at am
 repeat(refine sv ?_;intros)
 refine R.call (hct:=am) (h:= ?_)
 rintro _ _ ⟨x,er,ah,ai,ab,W2,rfl,rfl,aj,an,ae,bk,a6,hc⟩
 dsimp only[AA,AB]
 rcases hc with⟨rfl,a7,ao,bo,a8,ac⟩|⟨rfl,a9,hr⟩
 rotate_left
 ·obtain⟨rfl,bc⟩:er=3∧¬aIb N qs:=by
   rcases hr with⟨_,h6⟩|h
   ·exact absurd hL.fault h6
   ·exact h
  rw[aa]
  repeat(refine sv ?_;intros)
  rename_i bq bx
  refine R.sliceAA (hx:=rfl) (hc:=rfl) (hn:=nle rfl) (h:= ?_)
  repeat(refine sv ?_;intros)
  (refine Dn.post (Hr:=[aAi bw bd ba bs,ah,ai,ab,A,[],[(bq,row [.int .i64 (fa.first:Int),.int .i64 (fa.blocks:Int),.int .i64 (fa.width:Int),.int .i64 (fa.count:Int),.int .i64 (fb.first:Int),.int .i64 (fb.blocks:Int),.int .i64 (fb.width:Int),.int .i64 (fb.count:Int),.int .i64 (fc.first:Int),.int .i64 (fc.blocks:Int),.int .i64 (fc.width:Int),.int .i64 (fc.count:Int),.int .i64 (fq.first:Int),.int .i64 (fq.blocks:Int),.int .i64 (fq.width:Int),.int .i64 (fq.count:Int)] 43)]]) (hr:=Tryz.results19) (hs:=oA0) (hR:= ?_);exact⟨ah,ai,ab,W2,none,0,0,[],bq,4,4,_,[fa,fb,fc,fq],lab,fl,r,bt,tl,l,3,rfl,rfl,aj,hL.parts,hL.tab,hL.lis,⟨rfl,.inr ⟨bq,0,_,_,_,rfl,rfl,rfl⟩⟩,oM,an,ae,a9,.inr ⟨rfl,bc,rfl,rfl,rfl,rfl⟩⟩)
 ·have bp:=bFf (aAy lab) bt l qs
  obtain⟨LvX,ap,ak⟩:=ao
  have aq:=bQg bw bd ba bs W2 ah ai ab aj x _ LvX ap ak (by rw[ac.size,ac.room,ac.used];omega) (a6 hL.fault) oM oM
  rw[aa x] at aq
  rw[aa x]
  repeat(refine sv ?_;intros)
  refine R.call (hct:=aq) (h:= ?_)
  rintro _ _ ⟨au,av,W5,po,oc,aw,rfl,rfl,ax,be,bu,bf,bg,bh⟩
  try dsimp only[AA,AB]
  repeat(refine sv ?_;intros)
  rename_i bq
  simp only[aFm,Int.reduceToNat,Nat.reduceMul,AD,List.drop_succ_cons,CT,List.take_succ_cons,EL,List.set_cons_succ,List.set_cons_zero]
  (refine Dn.post (Hr:=[aAi bw bd ba bs,au,av,ab,A,aw,[(bq,row [.int .i64 (fa.first:Int),.int .i64 (fa.blocks:Int),.int .i64 (fa.width:Int),.int .i64 (fa.count:Int),.int .i64 (fb.first:Int),.int .i64 (fb.blocks:Int),.int .i64 (fb.width:Int),.int .i64 (fb.count:Int),.int .i64 (fc.first:Int),.int .i64 (fc.blocks:Int),.int .i64 (fc.width:Int),.int .i64 (fc.count:Int),.int .i64 (fq.first:Int),.int .i64 (fq.blocks:Int),.int .i64 (fq.width:Int),.int .i64 (fq.count:Int),.int .i64 (x.first:Int),.int .i64 (x.blocks:Int),.int .i64 (x.width:Int),.int .i64 (x.count:Int)] 42)]]) Tryz.results19 (hR:= ?_);skip)
  refine⟨au,av,ab,W5,po,x.count,oc,aw,bq,5,5,_,[fa,fb,fc,fq,x],lab,fl,r,bt,tl,l,0,rfl,rfl,ax,hL.parts,hL.tab,hL.lis,?_,oM,?_,?_,?_,?_⟩
  ·exact⟨rfl,.inr ⟨bq,0,_,_,_,rfl,rfl,by simp[fl4]⟩⟩
  ·exact(aKg aj ax bg).trans an
  ·exact be.n.trans ae
  ·rw[bf];exact ac.live
  ·refine .inl ⟨?_,?_,?_,?_⟩
   ·rfl
   ·exact a7
   ·exact a8
   ·with_reducible exact bh
theorem aKp (bw bd ba bs ro:Nat) (ac:80≤ro) (cd ca cs:aAc) (hW:Wc bd ba bs (wk0 10 9000 ro) cd ca cs) (N:Nat) (hN:N≤40) (p:Option Addr) (m cap:Nat) (es:List IE) (c:aAc) (hv:Rw ecl 2 p m es c) (hm:m≤1000) (hf:∀e∈es,inE N e)
  (p2:Option Addr) (n2 aa:Nat) (qs:List T5) (c2:aAc) (hq:RV p2 n2 qs c2) (ad:n2≤90) (ab:∀t∈qs,okT 3 t):
  Ct AC 19 [pv bw,gv N p m cap,.slice p2 n2 aa] [aAi bw bd ba bs,cd,ca,cs,c,c2] fun v H'=>∃cd' ca' cs' W' po nl oc co bq kq kc qf fs lab fl r bt tl l,∃e:Int,v= .tuple #[.slice po nl oc,.slice (some ⟨bq,0,none⟩) kq kc,.int .i64 e]∧H'=[aAi bw bd ba bs,cd',ca',cs',c,c2,co,qf]∧Wc bd ba bs W' cd' ca' cs'∧
   aAh N es lab fl r bt∧aAs N es lab bt tl l∧aIv (aAy lab) bt=l∧Rw fl4 4 (some ⟨bq,0,none⟩) kq fs qf∧kq≤5∧W'.α.used=0∧W'.σ.n=9000∧W'.live.Perm (aAz fs [])∧
   ((e=0∧aIb N qs∧nl=(aBw (aAy lab) bt l qs).length∧Vec 33 5 po nl oc (flat (aBw (aAy lab) bt l qs)) co)∨(e=3∧¬aIb N qs∧po=none∧nl=0∧oc=0∧co=[])):=by
 refine Ct.convP (aXv bw bd ba bs ro ac cd ca cs hW N hN p m cap es c hv hm hf p2 n2 aa qs c2 hq ad ab (c++c2) c2 c (.refl _) B3) ?_ ?_
 ·simp only[AW,A5,AQ,AP];exact .refl _
 ·rintro v H' ⟨cd',ca',cs',W',po,nl,oc,co,bq,kq,kc,qf,fs,lab,fl,r,bt,tl,l,e,h1,rfl,h2⟩
  refine⟨[aAi bw bd ba bs,cd',ca',cs',c,c2,co,qf],⟨cd',ca',cs',W',po,nl,oc,co,bq,kq,kc,qf,fs,lab,fl,r,bt,tl,l,e,h1,rfl,h2⟩,?_⟩
  simp only[AW,A5,AQ,AP];exact .refl _
section
variable {N:Nat} {es:List IE} {lab:List Int} {fl:List Bool} {r b:List T5} {tl:List (Nat×Fo)} {l:List T5} {qs:List T5}
theorem aDa.symm {u v:Nat} {m:Int} (h:aDa N lab l u v m):aDa N lab l v u m:=by
 rcases h with⟨h1,w,hw,h2,h3,h4,h5⟩|⟨h1,h2⟩
 ·exact .inl ⟨h1.symm,w,hw,h2,h4,h3,fun z hz a c=>h5 z hz c a⟩
 ·exact .inr ⟨fun h=>h1 h.symm,h2⟩
theorem bNz (hT:aAs N es lab b tl l) {v:Nat} (hv:v<N):aDa N lab l v v (v:Int):=
 .inl ⟨rfl,v,rfl,hv,aIx hT hv,aIx hT hv,fun z hz h _=>h.1⟩
theorem aSk (hP:aAh N es lab fl r b) (hT:aAs N es lab b tl l) {v p:Nat} (hv:v<N) (hp:p<N) (h:Sub l p v):aDa N lab l v p (p:Int):=
 .inl ⟨(bAo hP hT N hp hv (by have:=hT.bnd hv;omega) h).symm,p,rfl,hp,h,aIx hT hp,fun z hz _ h=>h.1⟩
theorem bOa (hP:aAh N es lab fl r b) (hT:aAs N es lab b tl l) {v p:Nat} (hv:v<N) (hp:p<N) (h:(at5 l v).c1=(p:Int)):aDa N lab l v p (p:Int):=
 aSk hP hT hv hp ((aLk hT hp hv hp h).2 (.inr (aIx hT hp)))
theorem bFg (hP:aAh N es lab fl r b) (hf:∀e∈es,inE N e) (hT:aAs N es lab b tl l) (hN:N≤1000000) {x v:Nat} (hv:v<N) (hx:lab[x]? =some (x:Int)) (h:lab[v]? =some (x:Int)):Sub l x v:=by
 obtain⟨P,W,s,hw,_,_⟩:=aIy hP hf hT hN hx
 obtain⟨k,hk,rfl⟩:=(hw.all v hv).1 h
 exact hw.below hT k hk
theorem bKu (hP:aAh N es lab fl r b) (hf:∀e∈es,inE N e) (hT:aAs N es lab b tl l) (hN:N≤1000) (hm:es.length≤1000):(∀t∈aBe (aAy lab) b l,okT 1 t)∧(aBe (aAy lab) b l).length≤1000000:=by
 refine⟨aTl (hP.lab_ok oM) (hP.tour_ok hf hN hm) (hT.okT oM),?_⟩
 have h1:=aOc (aAy lab)
 have h2:=hP.b_len hf oM
 have h3:(aAy lab).length=N:=by rw[show(aAy lab).length=lab.length by unfold aAy;simp];exact hP.labs.len
 rw[aPt];omega
theorem aOn (hP:aAh N es lab fl r b) (hf:∀e∈es,inE N e) (hT:aAs N es lab b tl l) (hN:N≤1000) (hm:es.length≤1000) (ac:∀q∈qs,okM N q) (ae:qs.Pairwise fun a c=>a.c0<c.c0) (ad:∀t∈qs,okT 3 t):
  aIb N qs∧(aBw (aAy lab) b l qs).length=qs.length∧∀(k:Nat) (q:T5),qs[k]? =some q→∃m,aDa N lab l q.c1.toNat q.c2.toNat m∧(aBw (aAy lab) b l qs)[k]? =some ⟨q.c0,m,0,0,0⟩:=by
 obtain⟨ag,ah⟩:=bKu hP hf hT hN hm
 have aa:aIb N qs:=⟨ac,ae.imp fun h=>by omega⟩
 have ai:∀q∈qs,∃m,aDa N lab l q.c1.toNat q.c2.toNat m:=fun q hq=>by
  have h:=ac q hq
  unfold okM at h
  exact bAm hP hf hT oM oM oM
 have ab:∀q∈qs,aDa N lab l q.c1.toNat q.c2.toNat (Classical.epsilon (aDa N lab l q.c1.toNat q.c2.toNat)):=fun q hq=>Classical.epsilon_spec (ai q hq)
 have hO:aBw (aAy lab) b l qs=qs.map fun q=>⟨q.c0,Classical.epsilon (aDa N lab l q.c1.toNat q.c2.toNat),0,0,0⟩:=by
  refine aXt (aQk hP hf hT oM ag ah aa ad) (BC.2 (ae.imp fun h=>h)) fun z=> ?_
  rw[(aQj hP hf hT oM ag ah aa ad).1,AU]
  constructor
  ·rintro⟨q,hq,m,h1,rfl⟩
   exact⟨q,hq,by rw[h1.one hT (ab q hq)]⟩
  ·rintro⟨q,hq,rfl⟩
   exact⟨q,hq,_,ab q hq,rfl⟩
 refine⟨aa,by rw[hO,AY],fun k q hk=>⟨_,ab q (A3 hk),?_⟩⟩
 rw[hO,List.getElem?_map,hk];rfl
end
theorem aJa:CtQ AC 15 [] [] (.bool true):=by
 have al:Ct AC 20 [.int .i64 9] [] fun v H'=>
  ∃bw bd ba bs cd ca cs,v=pv bw∧H'=[aAi bw bd ba bs,cd,ca,cs]∧Wc bd ba bs (wk0 10 9000 90) cd ca cs:=aJq 9 oM
 have ad:∀e∈([(0,1)]:List IE),inE ((2:Nat):Int) e:=by decide
 have ag:∀t∈([⟨4,1,0,0,0⟩]:List T5),okT 3 t:=by
  intro t ht
  simp only[AT] at ht;subst ht
  exact aUm ⟨by decide,by decide⟩ ⟨by decide,by decide⟩ ⟨by decide,by decide⟩
 refine Ct.go Tryz.func15 Tryz.ntmps15 fun w0=> ?_
 repeat(refine st ?_;intros)
 refine R.call (hct:=al) (h:= ?_)
 rintro _ _ ⟨bw,bd,ba,bs,cd,ca,cs,rfl,rfl,hW⟩
 try dsimp only[AA,AB]
 repeat(refine st ?_;intros)
 rename_i be bq
 have ah:=aKp bw bd ba bs 90 oM cd ca cs hW 2 oM (some ⟨be,0,none⟩) 1 1 [(0,1)] [(be,row [.int .i64 0,.int .i64 1] 53)] ⟨rfl,.inr ⟨be,0,_,_,_,rfl,rfl,rfl⟩⟩ oM ad (some ⟨bq,0,none⟩) 1 1 [⟨4,1,0,0,0⟩] [(bq,row [.int .i64 4,.int .i64 1,.int .i64 0,.int .i64 0,.int .i64 0] 33)] ⟨rfl,.inr ⟨bq,0,_,_,_,rfl,rfl,rfl⟩⟩ oM ag
 unfold gv at ah
 refine R.call (hct:=ah) (h:= ?_)
 rintro _ _ ⟨aq,au,av,W1,po,nl,oc,co,bz,kz,kc,qf,fs,lab,fl,r,bt,tl,l,e,rfl,rfl,aw,hP,hT,am,ax,ay,az,a0,a1,hc⟩
 try dsimp only[AA,AB]
 have ae:([⟨4,1,0,0,0⟩]:List T5).Pairwise fun a c=>a.c0<c.c0:=List.pairwise_singleton _ _
 obtain⟨ai,ac,aj⟩:=aOn hP ad hT oM oA15 (by intro q hq;rw[AT] at hq;subst hq;unfold okM;decide) ae ag
 have aa:(aBw (aAy lab) bt l [⟨4,1,0,0,0⟩]).length=1:=ac
 have ak:=aj 0 _ rfl
 clear aj ac am
 generalize aBw (aAy lab) bt l [⟨4,1,0,0,0⟩]=o at*
 rcases hc with⟨rfl,_,rfl,ab⟩|⟨_,an,_⟩
 rotate_left
 ·exact absurd ai an
 obtain⟨m,hm,hg⟩:=ak
 have hm:aDa 2 lab l 1 0 m:=hm
 have hg:o[0]? =some ⟨4,m,0,0,0⟩:=hg
 have h0:lab[0]? =some ((0:Nat):Int):=by
  obtain⟨x,h1,h2,_⟩:=hP.labs.root (v:=0) oM
  obtain rfl:x=0:=by omega
  exact h1
 have h1:lab[1]? =some ((0:Nat):Int):=by
  rw[←hP.labs.same (u:=0) (v:=1) oM oM (.one ⟨0,by simp,.inl ⟨rfl,rfl⟩⟩)];exact h0
 have ao:m=((0:Nat):Int):=hm.one hT (aSk hP hT oM oM (bFg hP ad hT oM oM h0 h1))
 subst ao
 rw[aa] at ab
 have ab:=RV.vec ab
 obtain⟨bo,a2,a3,To,a4,rfl,rfl,ap,a5⟩:=(RV.rw ab).pos aAr oA15
 have q1:=ap 0 _ hg
 rw[aa]
 repeat(refine st ?_;intros)
 (refine Dn.post (Hr:=[]) Tryz.results15 (hR:= ?_);exact⟨congrArg Value.bool (aBf ⟨rfl,rfl,rfl,rfl,rfl⟩),rfl⟩)
structure B9X where
 n:Nat
 v:Int
 ch:List Int
theorem aQm (p0:Option Addr) (n0 k0:Nat) (p1:Option Addr) (n1 k1:Nat) (p2:Option Addr) (n2 k2:Nat) (p3:Option Addr) (n3 k3:Nat) (p:Option Addr) (m cap:Nat) (ts:List T5) (c:aAc) (hv:RV p m ts c) (aj:0<m) (hm:m≤1000000) (u:Int) (v0:Int) (aa:List Int) (ac:Way (fun x=>(at5 ts x.toNat).c1) v0 aa) (ag:aa.length≤m) (ae:∀w∈aa,w<m) (bb:Bool) (ad:bb=decide (u∈aa)):
  CtQ AC 24 [.agg #[.slice p0 n0 k0,.slice p1 n1 k1,.slice p2 n2 k2,.slice p3 n3 k3,.slice p m cap],.int .i64 v0,.int .i64 u] [c] (.bool bb):=by
 subst ad
 have hl:=hv.1
 obtain⟨b,off,cs,T,fz,rfl,rfl,_,ab⟩:=(RV.rw hv).pos aAr oM
 have hg:∀j,j<m→cs[off+j*5+1]? =some (.int .i64 (at5 ts j).c1):=fun j hj=>ab j 1 _ _ (aCd oM) rfl
 refine Ct.go Tryz.func24 Tryz.ntmps24 fun w0=> ?_
 repeat(refine st ?_;intros)
 rename_i b3
 refine G.loop (X:=B9X) (fun s=>Way (fun x=>(at5 ts x.toNat).c1) s.v s.ch∧s.ch.length+s.n≤m∧(∀w∈s.ch,w<m)∧(u∈aa↔u∈s.ch))
  (fun s=>[(3,pv b3),(1,.int .i64 s.v),(2,.int .i64 u)])
  (fun _=>[[(b3,row [.slice p0 n0 k0,.slice p1 n1 k1,.slice p2 n2 k2,.slice p3 n3 k3,.slice (some ⟨b,off,none⟩) m cap] 30)],[(b,aBs cs T fz)]]) (fun s=>m-s.n) ⟨0,v0,aa⟩ ⟨ac,oD,ae,Iff.rfl⟩ (body:= ?_)
 rintro⟨n,v,ch⟩ ⟨hw,h1,h2,h3⟩
 dsimp only at hw h1 h2 h3⊢
 cases hw with
 |top ah=>
  have hb:decide (u∈aa)=false:=decide_eq_false (by rw[h3];simp)
  have ak:¬0≤v:=oM
  rw[hb]
  repeat(refine st ?_;intros)
  (refine Dn.post (Hr:=[[(b,aBs cs T fz)]]) Tryz.results24 (hR:= ?_);exact⟨rfl,rfl⟩)
 | @up _ ch ai hw=>
  simp only[AL] at h1
  have al:=h2 v AH
  obtain⟨k,rfl⟩:∃k:Nat,v=(k:Int):=⟨v.toNat,oM⟩
  have hq:=hg k oM
  rw[AR] at hw
  by_cases he:(k:Int)=u
  ·have hb:decide (u∈aa)=true:=decide_eq_true (by rw[h3,he];exact AH)
   rw[hb]
   repeat(refine st ?_;intros)
   (refine Dn.post (Hr:=[[(b,aBs cs T fz)]]) Tryz.results24 (hR:= ?_);exact⟨rfl,rfl⟩)
  ·repeat(refine st ?_;intros)
   refine Dn.round ⟨n+1,(at5 ts k).c1,ch⟩ ⟨hw,oD,fun w hw=>h2 w (AI _ hw),?_⟩ oD
   rw[h3,AM]
   dsimp only
   exact⟨fun h=>h.resolve_left fun hq=>he hq.symm,.inr⟩
structure MtX where
 n:Nat
 u:Int
 ch:List Int
theorem bOb {N:Nat} {es:List IE} {lab:List Int} {fl:List Bool} {r b:List T5} {tl:List (Nat×Fo)} {l:List T5} (hP:aAh N es lab fl r b) (hT:aAs N es lab b tl l) (hN:N≤1000000) (p0:Option Addr) (n0 k0:Nat) (p1:Option Addr) (n1 k1:Nat) (p2:Option Addr) (n2 k2:Nat) (p3:Option Addr) (n3 k3:Nat) (p:Option Addr) (cap:Nat) (c:aAc) (hv:RV p N l c) {u v:Nat} (hu:u<N) (ac:v<N) {m:Int} (hm:aDa N lab l u v m):
  CtQ AC 68 [.agg #[.slice p0 n0 k0,.slice p1 n1 k1,.slice p2 n2 k2,.slice p3 n3 k3,.slice p N cap],.int .i64 (u:Int),.int .i64 (v:Int)] [c] (.int .i64 m):=by
 have ap:=hT.len
 obtain⟨bb,off,cs,T,fz,rfl,rfl,_,ag⟩:=(RV.rw hv).pos aAr oM
 have hg:∀j,j<N→cs[off+j*5+1]? =some (.int .i64 (at5 l j).c1):=fun j hj=>ag j 1 _ _ (aCd oM) rfl
 obtain⟨cu,wu,lu,bu,iu⟩:=hT.below hu
 obtain⟨cv,wv,lv,bv,iv⟩:=hT.below ac
 have ah:=fun x:Int=>aQm p0 n0 k0 p1 n1 k1 p2 n2 k2 p3 n3 k3 (some ⟨bb,off,none⟩) N cap l [(bb,aBs cs T fz)] hv oM oM x (v:Int) cv wv lv bv
 refine Ct.go Tryz.func68 Tryz.ntmps68 fun w0=> ?_
 repeat(first|(refine st ?_;intros)|refine cq hB ?_)
 rename_i b3
 refine G.loop (X:=MtX) (fun s=>Way (fun x=>(at5 l x.toNat).c1) s.u s.ch∧s.ch.length+s.n≤N∧(∀w∈s.ch,w<(N:Int))∧-1≤s.u∧(∀z,z<N→(z:Int)∈s.ch→Sub l z u)∧∀z,z<N→Sub l z u→Sub l z v→(z:Int)∈s.ch)
  (fun s=>[(3,pv b3),(1,.int .i64 s.u),(2,.int .i64 (v:Int))])
  (fun _=>[[(b3,row [.slice p0 n0 k0,.slice p1 n1 k1,.slice p2 n2 k2,.slice p3 n3 k3,.slice (some ⟨bb,off,none⟩) N cap] 30)],[(bb,aBs cs T fz)]]) (fun s=>N-s.n) ⟨0,(u:Int),cu⟩ ⟨wu,oD,bu,oD,fun z hz h=>(iu z hz).1 h,fun z hz h _=>(iu z hz).2 h⟩ (body:= ?_)
 rintro⟨n,x,ch⟩ ⟨hw,h1,h2,h3,h4,h5⟩
 dsimp only at hw h1 h2 h3 h4 h5⊢
 have ak:=hw
 cases hw with
 |top an=>
  have aq:¬0≤x:=oM
  obtain rfl:x= -1:=by omega
  have ad:m= -1:=by
   rcases hm with⟨_,w,_,hw,g1,g2,_⟩|⟨_,h⟩
   ·exact absurd (h5 w hw g1 g2) oA15
   ·exact h
  subst ad
  repeat(first|(refine st ?_;intros)|refine cq hB ?_)
  (refine Dn.post (Hr:=[[(bb,aBs cs T fz)]]) Tryz.results68 (hR:= ?_);exact⟨rfl,rfl⟩)
 | @up _ ch ao hw=>
  simp only[AL] at h1
  have au:=h2 x AH
  obtain⟨k,rfl⟩:∃k:Nat,x=(k:Int):=⟨x.toNat,oM⟩
  have aa:k<N:=oM
  have ai:=h4 k aa AH
  rw[AR] at hw
  by_cases ab:Sub l k v
  ·have hB:=ah (k:Int) true (decide_eq_true ((iv k aa).2 ab)).symm
   have ad:m=(k:Int):=by
    rcases hm with⟨_,w,rfl,ae,g1,g2,g3⟩|⟨al,_⟩
    ·obtain⟨ck,wk,_,_,ik⟩:=hT.below aa
     have aj:=h5 w ae g1 g2
     rw[ak.one wk] at aj
     have e1:=(ik w ae).1 aj
     have e2:=g3 k aa ai ab
     rw[hT.num_inj ae aa oM]
    ·have av:=hT.bnd hu
     have aw:=hT.bnd ac
     exact absurd ((bAo hP hT N aa hu oM ai).symm.trans (bAo hP hT N aa ac oM ab)) al
   subst ad
   repeat(first|(refine st ?_;intros)|refine cq hB ?_)
   (refine Dn.post (Hr:=[[(bb,aBs cs T fz)]]) Tryz.results68 (hR:= ?_);exact⟨rfl,rfl⟩)
  ·have hB:=ah (k:Int) false (decide_eq_false fun h=>ab ((iv k aa).1 h)).symm
   have hq:=hg k aa
   have am: -1≤(at5 l k).c1:=by
    rcases hT.par aa with⟨g,_⟩|⟨p,_,g,_⟩<;>omega
   repeat(first|(refine st ?_;intros)|refine cq hB ?_)
   refine Dn.round ⟨n+1,(at5 l k).c1,ch⟩ ⟨hw,oD,fun w hw=>h2 w (AI _ hw),am,fun z hz h=>h4 z hz (AI _ h),fun z hz g1 g2=> ?_⟩ oD
   rcases AM.1 (h5 z hz g1 g2) with h6|h6
   ·obtain rfl:z=k:=by omega
    exact absurd g2 ab
   ·exact h6
structure MsX where
 i:Nat
 o:List T5
 p:Option Addr
 cap:Nat
 ch:aAc
structure MiX where
 kz:Int
 A:List T5
 B:List T5
theorem bAr {N:Nat} {es:List IE} {lab:List Int} {fl:List Bool} {r b:List T5} {tl:List (Nat×Fo)} {l:List T5} (hP:aAh N es lab fl r b) (hf:∀e∈es,inE N e) (hT:aAs N es lab b tl l) (hN:N≤1000000) (p0:Option Addr) (n0 k0:Nat) (p1:Option Addr) (n1 k1:Nat) (p2:Option Addr) (n2 k2:Nat) (p3:Option Addr) (n3 k3:Nat) (p:Option Addr) (cap:Nat) (c:aAc) (hv:RV p N l c) (p5:Option Addr) (m5 ae:Nat) (qs:List T5) (c5:aAc) (hq:RV p5 m5 qs c5) (hm:m5≤1000):
  Ct AC 31 [.agg #[.slice p0 n0 k0,.slice p1 n1 k1,.slice p2 n2 k2,.slice p3 n3 k3,.slice p N cap],.slice p5 m5 ae] [c,c5] fun v H'=>(∃po oc co o,v= .tuple #[.slice po m5 oc,.bool true]∧H'=[c,c5,co]∧bCy N lab l qs m5 o∧Vec 33 5 po m5 oc (flat o) co)∨(¬aIb N qs∧v= .tuple #[.slice none 0 0,.bool false]∧H'=[c,c5]):=by
 have be:=hT.len
 have bf:=hq.1
 have bg:=hv.1
 have an:∀u v,u<N→v<N→∃m,aDa N lab l u v m:=fun u v hu hv=>bAm hP hf hT hN hu hv
 refine Ct.go Tryz.func31 Tryz.ntmps31 fun w0=> ?_
 repeat(first|(refine st ?_;intros)|refine G.draw (id:=9) [(8,.quiet)] (h:= ?_)|refine G.draw [] (h:= ?_)|refine cq hMe ?_)
 rename_i b2
 refine G.loop (X:=MsX) (fun s=>s.i≤m5∧bCy N lab l qs s.i s.o∧Vec 33 5 s.p s.i s.cap (flat s.o) s.ch)
  (fun s=>[(8,.int .i64 (s.i:Int)),(7,.int .i64 (N:Int)),(6,.slice s.p s.i s.cap),(2,pv b2),(1,.slice p5 m5 ae)])
  (fun s=>[s.ch,[(b2,row [.slice p0 n0 k0,.slice p1 n1 k1,.slice p2 n2 k2,.slice p3 n3 k3,.slice p N cap] 30)],c,c5]) (fun s=>m5-s.i) ⟨0,[],none,0,[]⟩ ⟨AS _,bCy.start,Vec.nil _ _⟩ oA3 oA0 ?_
 rintro⟨i,o,q,qc,ch⟩ ⟨hi,hS,hV⟩
 dsimp only at hi hS hV⊢
 by_cases ao:i<m5
 rotate_left
 ·obtain rfl:i=m5:=by omega
  repeat(first|(refine st ?_;intros)|refine G.draw (id:=9) [(8,.quiet)] (h:= ?_)|refine G.draw [] (h:= ?_)|refine cq hMe ?_)
  (refine Dn.post (Hr:=[c,c5,ch]) Tryz.results31 (hR:= ?_);exact .inl ⟨q,qc,ch,o,rfl,rfl,hS,hV⟩)
 obtain⟨bq,ap,cw,Tq,ac,rfl,rfl,aq,a9⟩:=(RV.rw hq).pos aAr oM
 have hit:qs[i]? =some qs[i]:=AE oM
 have a1:=aq i _ hit
 generalize qs[i]=t at*
 obtain⟨t0,t1,t2,t3,t4⟩:=t
 have bc:(cw.drop (ap+i*5)).take 5=[.int .i64 t0,.int .i64 t1,.int .i64 t2,.int .i64 t3,.int .i64 t4]:=a1
 have ad:¬okM N ⟨t0,t1,t2,t3,t4⟩→¬aIb N qs:=fun h g=>h (g.1 _ (A3 hit))
 unfold okM at ad
 dsimp only at ad
 by_cases h0:t0<0
 ·have aa:=ad oM
  repeat(first|(refine st ?_;intros)|refine G.draw (id:=9) [(8,.quiet)] (h:= ?_)|refine G.draw [] (h:= ?_)|refine cq hMe ?_)
  (refine Dn.post (Hr:=[c,[(bq,aBs cw Tq ac)]]) Tryz.results31 (hR:= ?_);exact .inr ⟨aa,rfl,rfl⟩)
 by_cases h1:t1<0
 ·have aa:=ad oM
  repeat(first|(refine st ?_;intros)|refine G.draw (id:=9) [(8,.quiet)] (h:= ?_)|refine G.draw [] (h:= ?_)|refine cq hMe ?_)
  (refine Dn.post (Hr:=[c,[(bq,aBs cw Tq ac)]]) Tryz.results31 (hR:= ?_);exact .inr ⟨aa,rfl,rfl⟩)
 by_cases bh:(N:Int)≤t1
 ·have aa:=ad oM
  repeat(first|(refine st ?_;intros)|refine G.draw (id:=9) [(8,.quiet)] (h:= ?_)|refine G.draw [] (h:= ?_)|refine cq hMe ?_)
  (refine Dn.post (Hr:=[c,[(bq,aBs cw Tq ac)]]) Tryz.results31 (hR:= ?_);exact .inr ⟨aa,rfl,rfl⟩)
 by_cases h2:t2<0
 ·have aa:=ad oM
  repeat(first|(refine st ?_;intros)|refine G.draw (id:=9) [(8,.quiet)] (h:= ?_)|refine G.draw [] (h:= ?_)|refine cq hMe ?_)
  (refine Dn.post (Hr:=[c,[(bq,aBs cw Tq ac)]]) Tryz.results31 (hR:= ?_);exact .inr ⟨aa,rfl,rfl⟩)
 by_cases bi:(N:Int)≤t2
 ·have aa:=ad oM
  repeat(first|(refine st ?_;intros)|refine G.draw (id:=9) [(8,.quiet)] (h:= ?_)|refine G.draw [] (h:= ?_)|refine cq hMe ?_)
  (refine Dn.post (Hr:=[c,[(bq,aBs cw Tq ac)]]) Tryz.results31 (hR:= ?_);exact .inr ⟨aa,rfl,rfl⟩)
 obtain⟨u,rfl⟩:∃u:Nat,t1=(u:Int):=⟨t1.toNat,oM⟩
 obtain⟨v,rfl⟩:∃v:Nat,t2=(v:Int):=⟨t2.toNat,oM⟩
 obtain⟨m,au⟩:=an u v oM oM
 have hMe:=bOb hP hT hN p0 n0 k0 p1 n1 k1 p2 n2 k2 p3 n3 k3 p cap c hv oM oM au
 have bk:i+1≤maxLen:=by simp only[maxLen];omega
 have hl:o.length=i:=hS.len
 repeat(first|(refine st ?_;intros)|refine G.draw (id:=9) [(8,.quiet)] (h:= ?_)|refine G.draw [] (h:= ?_)|refine cq hMe ?_)
 rename_i b9 bo p' ab c' av
 have aw:Vec 33 5 p' (i+1) ab (flat (o++[⟨t0,m,0,0,0⟩])) c':=by rw[flat_append];exact av
 obtain⟨rb,re,rfl,rfl,a2,a3,a4⟩:=bEr aw (Nat.succ_pos _)
 clear hV av aw
 rw[aDq,AF,List.length_singleton,hl] at a2
 have a5:okM N ⟨t0,(u:Int),(v:Int),t3,t4⟩:=⟨oD,oD,oD,oD,oD⟩
 have a6:aDa N lab l (u:Int).toNat (v:Int).toNat m:=by rw[AR,AR];exact au
 have ag:=fun (A B:List T5) (h:bCy N lab l qs i (A++B)) hA hB=>h.put hT an hit a5 a6 hA hB
 have ax:=fun y (h:y∈o) he=>hS.twice hit (y:=y) h he
 have ay:∀{cs:List Value} {k:Nat} {x:Value} {ys:List Value},(cs.drop k).take 5=x::ys→cs[k]? =some x:=by
  intro cs k x ys h
  have:=congrArg (fun l=>l[0]?) h
  simpa using this
 dsimp only at ag ax
 refine G.loop (X:=MiX) (fun x=>x.A++x.B=o∧x.kz=(x.A.length:Int)∧∀y∈x.B,t0<y.c0)
  (fun x=>[(10,.int .i64 x.kz),(8,.int .i64 (i:Int)),(7,.int .i64 (N:Int)),(6,.slice (some ⟨rb,0,none⟩) (i+1) ab),(2,pv b2),(1,.slice (some ⟨bq,ap,none⟩) m5 ae)])
  (fun x=>[[(rb,row (flat (x.A++⟨t0,m,0,0,0⟩::x.B)++re) 33)],[(b2,row [.slice p0 n0 k0,.slice p1 n1 k1,.slice p2 n2 k2,.slice p3 n3 k3,.slice p N cap] 30)],c,[(bq,aBs cw Tq ac)]]) (fun x=>x.A.length) ⟨((i+1:Nat):Int)-1,o,[]⟩ ⟨by simp,oD,by simp⟩ (body:= ?_)
 rintro⟨kz,A,B⟩ ⟨ah,am,hB⟩
 dsimp only at ah am hB⊢
 have az:A.length+B.length=i:=by rw[←hl,←ah,AF]
 have ai:Vec 33 5 (some ⟨rb,0,none⟩) (i+1) ab (flat (A++⟨t0,m,0,0,0⟩::B)) [(rb,row (flat (A++⟨t0,m,0,0,0⟩::B)++re) 33)]:=
  Vec.mk' rfl (by rw[aDq];simp;omega) (by rw[AF,aDq];simp;omega) a3 a4
 have al:=hS
 rw[←ah] at al
 rcases List.eq_nil_or_concat A with rfl|⟨A',x,rfl⟩
 ·have bp:kz=0:=by simpa using am
  have hp:=ag [] B al oA15 hB
  repeat(first|(refine st ?_;intros)|refine G.draw (id:=9) [(8,.quiet)] (h:= ?_)|refine G.draw [] (h:= ?_)|refine cq hMe ?_)
  refine Dn.round ⟨i+1,[]++⟨t0,m,0,0,0⟩::B,some ⟨rb,0,none⟩,ab,_⟩ ⟨ao,hp,ai⟩ oD
 ·have bu:kz=((A'.length+1:Nat):Int):=by simpa using am
  have ek:kz.toNat=A'.length+1:=oM
  have bv:(kz-1).toNat=A'.length:=oM
  have bz:A'.length+1+B.length=i:=by simpa using az
  have aj:∀u v:T5,(A'++[u])++v::B=A'++u::v::B:=fun u v=>by simp
  rw[List.concat_eq_append] at*
  have hr:=al.rise
  rw[BS,BS] at hr
  have a7:∀y∈A',y.c0<x.c0:=fun y hy=>hr.1.2.2 y hy x AH
  have hp:=ag (A'++[x]) B al
  rw[aj] at ai hp⊢
  have c1:=bNf (A'++[x]) B ⟨t0,m,0,0,0⟩ re (k:=A'.length+1) oA15
  have c2:=bNf A' (⟨t0,m,0,0,0⟩::B) x re rfl
  have s1:=bNg (A'++[x]) B ⟨t0,m,0,0,0⟩ x re (k:=A'.length+1) oA15
  have s2:=bNg A' (x::B) x ⟨t0,m,0,0,0⟩ re rfl
  simp only[aj] at c1 s1
  dsimp only at c1 s2
  have l1:(A'.length+1)*5+5≤(flat (A'++x::⟨t0,m,0,0,0⟩::B)++re).length:=by rw[AF,aDq];simp;omega
  have l2:(A'.length+1)*5+5≤(flat (A'++x::x::B)++re).length:=by rw[AF,aDq];simp;omega
  have q1:=ay c1
  have q2:=ay c2
  generalize b1:flat (A'++x::⟨t0,m,0,0,0⟩::B)++re=r0 at*
  rcases Int.lt_trichotomy x.c0 t0 with ak|ak|ak
  ·have a8:=hp (fun y hy=>by
    rcases AO.1 hy with hy|hy
    ·have:=a7 y hy;omega
    ·rw[AT] at hy;subst hy;exact ak) hB
   have a0:¬t0≤x.c0:=oM
   repeat(first|(refine st ?_;intros)|refine G.draw (id:=9) [(8,.quiet)] (h:= ?_)|refine G.draw [] (h:= ?_)|refine cq hMe ?_)
   refine Dn.round ⟨i+1,A'++x::⟨t0,m,0,0,0⟩::B,some ⟨rb,0,none⟩,ab,[(rb,row r0 33)]⟩ ⟨ao,a8,ai⟩ oD
  ·have aa:=ax x (by rw[←ah];simp) ak
   have a0:t0≤x.c0:=oM
   repeat(first|(refine st ?_;intros)|refine G.draw (id:=9) [(8,.quiet)] (h:= ?_)|refine G.draw [] (h:= ?_)|refine cq hMe ?_)
   (refine Dn.post (Hr:=[c,[(bq,aBs cw Tq ac)]]) Tryz.results31 (hR:= ?_);exact .inr ⟨aa,rfl,rfl⟩)
  ·have a0:t0≤x.c0:=oM
   have b3:x.c0≠t0:=oM
   generalize b4:flat (A'++x::x::B)++re=r1 at*
   repeat(first|(refine st ?_;intros)|refine G.draw (id:=9) [(8,.quiet)] (h:= ?_)|refine G.draw [] (h:= ?_)|refine cq hMe ?_)
   refine Dn.round ⟨kz-1,A',x::B⟩ ⟨by rw[←ah];simp,oD,fun y hy=> ?_⟩ oA15
   rcases AM.1 hy with rfl|hy
   ·exact ak
   ·exact hB y hy
open Go.ChangeShapes Go.WideShapes Go.ChangeAt Go.RowKit
theorem bDd (cs:List Value):∀(len off:Nat),(∀i,i<len→∃e:IE,∀j,j<2→cs[off+i*2+j]? =(ecl e)[j]?)→∃es:List IE,es.length=len∧(cs.drop off).take (len*2)=es.flatMap ecl
 |0,off,_=>⟨[],rfl,by simp⟩
 |len+1,off,h=>by
  obtain⟨t,ht⟩:=h 0 oM
  obtain⟨ts,hl,he⟩:=bDd cs len (off+2) (fun i hi=>by
   obtain⟨t,ht⟩:=h (i+1) oM
   exact⟨t,fun j hj=>by rw[←ht j hj];congr 1;omega⟩)
  refine⟨t::ts,by simp[hl],?_⟩
  have hd:cs.drop off=ecl t++cs.drop (off+2):=by
   apply CH
   intro j
   rw[BR]
   by_cases hj:j<2
   ·rw[BI (by simpa[ecl] using hj),←ht j hj];simp
   ·rw[A9 (by simp[ecl];omega),BR]
    congr 1
    simp[ecl];omega
  rw[hd,A8,←he,List.take_append]
  rw[A4 (by simp[ecl];omega)]
  congr 2
  simp[ecl];omega
theorem aGi {H:Type} {enc:TypeId×Value→H} {P:Program} {w:World} {ae:Nat} {t E:TypeId} {f0 f1 g0 g1:Field} {v:Value} {d:DataW H} {ps:List MemPlace} (ht:P.underlying t=some (.struct #[f0,f1]))
  (hI:P.underlying f0.type=some (.int .i64)) (hE:P.underlying f1.type=some (.slice E)) (ap:P.underlying E=some (.struct #[g0,g1])) (au:P.underlying g0.type=some (.int .i64)) (ax:P.underlying g1.type=some (.int .i64))
  (am:f0.offset=0) (ay:f1.offset=1) (al:P.cellsOf f0.type=1) (ak:P.cellsOf f1.type=1) (hct:P.cellsOf t=2) (ce:P.cellsOf E=2) (av:g0.offset=0) (aw:g1.offset=1) (ao:P.cellsOf g0.type=1) (an:P.cellsOf g1.type=1)
  (h:DataW.Trod enc P w 0 (fun _=>true) true t v d ps) (aq:Value.okWide P w .any ae t v):
  ∃n p m cap es c,v=gv n p m cap∧Rw ecl 2 p m es c∧m≤maxLen∧(∀q∈c,w.heap[q.1]? =some q.2)∧(c.map (·.1)).Nodup:=by
 have h':∃cs,v= .agg cs∧cs.size=P.cellsOf t∧Row.okWide P w .any ae t cs:=by
  simpa only[Value.okWide,ht] using aq
 obtain⟨cs,rfl,ai,_⟩:=h'
 obtain⟨l⟩:=cs
 rw[hct] at ai
 obtain⟨a,b,rfl⟩:∃a b,l=[a,b]:=by
  match l,ai with
  |[a,b],_=>exact⟨a,b,rfl⟩
 obtain⟨a5,h⟩:=h
 obtain⟨y0,y1,k,_,_,h0,h1⟩:=trod_struct2 ht h
 rw[am,al] at h0
 rw[ay,ak] at h1
 simp only[Value.cells,CT,List.drop_succ_cons,List.take_succ_cons,EL] at h0 h1
 obtain⟨n,hn,_,_⟩:=DataW.trod_int hI h0
 obtain rfl:a= .int .i64 n:=by simpa using hn
 rcases Go.Deep.open_slice_pairs hE ap ce av aw ao an h1 with⟨hb,_⟩|⟨ad,len,cap,m,k',V0,V1,D0,D1,P0,P1,hb,_,hl,hm,aj,_,hx⟩
 ·obtain rfl:b= .slice none 0 0:=by simpa using hb
  exact⟨n,none,0,0,[],[],rfl,⟨rfl,.inl ⟨rfl,rfl⟩⟩,by decide,by simp,by simp⟩
 ·obtain rfl:b= .slice (some ad) len cap:=by simpa using hb
  by_cases hz:len=0
  ·subst hz
   exact⟨n,some ad,0,cap,[],[],rfl,⟨rfl,.inl ⟨rfl,rfl⟩⟩,by decide,by simp,by simp⟩
  ·simp only[if_true] at aj
   subst aj
   have each:∀i,i<len→∃e:IE,∀j,j<2→w.cell? (ad.add (i*2+j))=(ecl e)[j]? :=by
    intro i hi
    obtain⟨x0,x1,t0,t1⟩:=hx i oM
    obtain⟨a0,az,_,_⟩:=DataW.trod_int au t0
    obtain⟨a1,a2,_,_⟩:=DataW.trod_int ax t1
    refine⟨(a0,a1),fun j hj=> ?_⟩
    match j,hj with
    |0,_=>rw[CD,x0];simpa[ecl] using az
    |1,_=>rw[x1];simpa[ecl] using a2
   obtain⟨bk,off,ag⟩:=ad
   obtain⟨t0,a3⟩:=each 0 oM
   have aa:=a3 0 oM
   have hs:ag=none:=by
    cases ag with
    |none=>rfl
    |some s=>
     exfalso
     simp only[Addr.add,World.cell?,ecl,List.getElem?_cons_zero] at aa
     revert aa
     split<;>simp
   subst hs
   have ab:∀i,((⟨bk,off,none⟩:Addr).add i)=⟨bk,off+i,none⟩:=fun i=>Addr.add_mk ..
   cases hbk:w.heap[bk]? with
   |none=>rw[ab] at aa;simp[World.cell?,hbk,ecl] at aa
   |some ob=>
    cases ob with
    |cells ac T fz=>
     obtain⟨es,a4,ah⟩:=bDd ac.toList len off (fun i hi=>by
      obtain⟨t,ht⟩:=each i hi
      refine⟨t,fun j hj=> ?_⟩
      rw[←ht j hj,ab,cell_of_row w bk _ ac T fz hbk]
      simp[Nat.add_assoc])
     refine⟨n,_,len,_,es,[(bk,aBs ac.toList T fz)],rfl,⟨a4,.inr ⟨bk,off,ac.toList,T,fz,rfl,rfl,ah⟩⟩,oM,?_,by simp⟩
     intro q hq
     simp only[AT] at hq
     subst hq
     simpa[aBs] using hbk
    |_=>rw[ab] at aa;simp[World.cell?,hbk,ecl] at aa
def tqF (l:List T5) (N v:Nat):List T5:=[⟨((4*v:Nat):Int),((v*7%N:Nat):Int),(v:Int),0,0⟩,⟨((4*v+1:Nat):Int),(v:Int),(v:Int),0,0⟩,⟨((4*v+2:Nat):Int),(v:Int),max (at5 l v).c1 0,0,0⟩]
def tqs (l:List T5) (N:Nat):Nat→List T5
 |0=>[]
 |i+1=>tqs l N i++tqF l N i
def tpF (N v:Nat):T5:=⟨((4*v:Nat):Int),(v:Int),((v*7%N:Nat):Int),0,0⟩
def tps (N:Nat):Nat→List T5
 |0=>[]
 |i+1=>tps N i++[tpF N i]
section
variable {N:Nat} {es:List IE} {lab:List Int} {fl:List Bool} {r b:List T5} {tl:List (Nat×Fo)} {l:List T5} {qs:List T5}
theorem bAs:∀i,(tqs l N i).length=3*i
 |0=>rfl
 |i+1=>by rw[tqs,AF,bAs i];show 3*i+3=_;omega
theorem bAt:∀i,(tps N i).length=i
 |0=>rfl
 |i+1=>by rw[tps,AF,bAt i];rfl
theorem bAu {q:T5}:∀{i:Nat},q∈tqs l N i→∃v,v<i∧q∈tqF l N v
 |0,h=>by cases h
 |i+1,h=>by
  rw[tqs,AO] at h
  rcases h with h|h
  ·obtain⟨v,hv,hq⟩:=bAu h
   exact⟨v,oM,hq⟩
  ·exact⟨i,oM,h⟩
theorem bAv {q:T5}:∀{i:Nat},q∈tps N i→∃v,v<i∧q=tpF N v
 |0,h=>by cases h
 |i+1,h=>by
  rw[tps,AO] at h
  rcases h with h|h
  ·obtain⟨v,hv,hq⟩:=bAv h
   exact⟨v,oM,hq⟩
  ·exact⟨i,oM,AT.1 h⟩
theorem aUi {v j:Nat} (hj:j<3):∀{i:Nat},v<i→(tqs l N i)[3*v+j]? =(tqF l N v)[j]?
 |i+1,h=>by
  rw[tqs]
  have hl:=bAs (l:=l) (N:=N) i
  by_cases hv:v=i
  ·subst hv
   rw[A9 oM,hl]
   congr 1;omega
  ·rw[BI oM]
   exact aUi hj oM
theorem bKv {v:Nat}:∀{i:Nat},v<i→(tps N i)[v]? =some (tpF N v)
 |i+1,h=>by
  rw[tps]
  have hl:=bAt (N:=N) i
  by_cases hv:v=i
  ·subst hv
   rw[A9 oM,hl,DP];rfl
  ·rw[BI oM]
   exact bKv oM
theorem bDe:∀i,(tqs l N i).Pairwise fun a c=>a.c0<c.c0
 |0=>CI
 |i+1=>by
  rw[tqs,BS]
  refine⟨bDe i,?_,fun a ha c hc=> ?_⟩
  ·unfold tqF
   simp only[BF,AM,B6,or_false]
   refine⟨?_,?_,?_⟩
   ·rintro a (rfl|rfl)<;>dsimp only<;>omega
   ·rintro a rfl;dsimp only;omega
   ·exact⟨fun a h=>h.elim,CI⟩
  ·obtain⟨v,hv,h⟩:=bAu ha
   have h1:a.c0<((4*i:Nat):Int):=by
    unfold tqF at h
    simp only[AM,B6,or_false] at h
    rcases h with rfl|rfl|rfl<;>dsimp only<;>omega
   have h2:((4*i:Nat):Int)≤c.c0:=by
    unfold tqF at hc
    simp only[AM,B6,or_false] at hc
    rcases hc with rfl|rfl|rfl<;>dsimp only<;>omega
   omega
theorem bDf:∀i,(tps N i).Pairwise fun a c=>a.c0<c.c0
 |0=>CI
 |i+1=>by
  rw[tps,BS]
  refine⟨bDf i,List.pairwise_singleton _ _,fun a ha c hc=> ?_⟩
  obtain⟨v,hv,rfl⟩:=bAv ha
  rw[AT] at hc
  subst hc
  unfold tpF;dsimp only;omega
theorem bSw (hT:aAs N es lab b tl l) {v:Nat} (hv:v<N):0≤max (at5 l v).c1 0∧max (at5 l v).c1 0<(N:Int):=by
 rcases hT.par hv with⟨h,_⟩|⟨p,hp,h,_⟩<;>omega
theorem bKw (hT:aAs N es lab b tl l) (hN:N≤1000) {q:T5} (h:q∈tqs l N N):okM N q∧okT 3 q:=by
 obtain⟨v,hv,h⟩:=bAu h
 have h1:=bSw hT hv
 have h2:v*7%N<N:=EH _ oM
 unfold okM
 unfold tqF at h
 simp only[AM,B6,or_false] at h
 rcases h with rfl|rfl|rfl
 ·dsimp only
  exact⟨oM,aUm ⟨oM,oM⟩ ⟨oM,oM⟩ ⟨oM,oM⟩⟩
 ·dsimp only
  exact⟨oM,aUm ⟨oM,oM⟩ ⟨oM,oM⟩ ⟨oM,oM⟩⟩
 ·dsimp only
  exact⟨oM,aUm ⟨oM,oM⟩ ⟨oM,oM⟩ ⟨oM,oM⟩⟩
theorem bKx (hN:N≤1000) {q:T5} (h:q∈tps N N):okM N q∧okT 3 q:=by
 obtain⟨v,hv,rfl⟩:=bAv h
 have h2:v*7%N<N:=EH _ oM
 unfold okM tpF
 dsimp only
 exact⟨oM,aUm ⟨oM,oM⟩ ⟨oM,oM⟩ ⟨oM,oM⟩⟩
theorem aLp (hP:aAh N es lab fl r b) (hf:∀e∈es,inE N e) (hT:aAs N es lab b tl l) (hN:N≤1000) (hm:es.length≤1000):
  aIb N (tqs l N N)∧(aBw (aAy lab) b l (tqs l N N)).length=3*N∧aIb N (tps N N)∧(aBw (aAy lab) b l (tps N N)).length=N∧
   ∀v,v<N→∃m y:Int,(aBw (aAy lab) b l (tqs l N N))[3*v]? =some ⟨((4*v:Nat):Int),m,0,0,0⟩∧(aBw (aAy lab) b l (tps N N))[v]? =some ⟨((4*v:Nat):Int),m,0,0,0⟩∧
    (aBw (aAy lab) b l (tqs l N N))[3*v+1]? =some ⟨((4*v+1:Nat):Int),(v:Int),0,0,0⟩∧(aBw (aAy lab) b l (tqs l N N))[3*v+2]? =some ⟨((4*v+2:Nat):Int),y,0,0,0⟩∧(0≤(at5 l v).c1→y=(at5 l v).c1):=by
 obtain⟨a1,a2,a3⟩:=aOn hP hf hT hN hm (fun q h=>(bKw hT hN h).1) (bDe N) (fun q h=>(bKw hT hN h).2)
 obtain⟨b1,b2,b3⟩:=aOn hP hf hT hN hm (fun q h=>(bKx hN h).1) (bDf N) (fun q h=>(bKx hN h).2)
 rw[bAs] at a2
 rw[bAt] at b2
 refine⟨a1,a2,b1,b2,fun v hv=> ?_⟩
 have h7:v*7%N<N:=EH _ oM
 obtain⟨m,m1,m2⟩:=a3 (3*v) _ ((aUi (j:=0) oM hv).trans rfl)
 obtain⟨m',n1,n2⟩:=b3 v _ (bKv hv)
 obtain⟨x,x1,x2⟩:=a3 (3*v+1) _ ((aUi (j:=1) oM hv).trans rfl)
 obtain⟨y,y1,y2⟩:=a3 (3*v+2) _ ((aUi (j:=2) oM hv).trans rfl)
 dsimp only[tpF,AR] at m1 m2 n1 n2 x1 x2 y1 y2
 obtain rfl:=m1.one hT n1.symm
 obtain rfl:=x1.one hT (bNz hT hv)
 refine⟨m,y,m2,n2,x2,y2,fun h0=> ?_⟩
 rcases hT.par hv with⟨h,_⟩|⟨p,hp,h,_⟩
 ·omega
 ·rw[h,show(max (p:Int) 0).toNat=p by omega] at y1
  rw[h]
  exact y1.one hT (bOa hP hT hv hp h)
end
def abF (N by_ v:Nat):T5:=⟨(v:Int),(v:Int),(((v+by_)%N:Nat):Int),0,0⟩
def aUj (N by_:Nat):Nat→List T5
 |0=>[]
 |i+1=>aUj N by_ i++[abF N by_ i]
section
variable {N k:Nat} {es:List IE} {lab:List Int} {fl:List Bool} {r b:List T5} {tl:List (Nat×Fo)} {l:List T5} {qs:List T5}
theorem bAw:∀i,(aUj N k i).length=i
 |0=>rfl
 |i+1=>by rw[aUj,AF,bAw i];rfl
theorem bAx {q:T5}:∀{i:Nat},q∈aUj N k i→∃v,v<i∧q=abF N k v
 |0,h=>by cases h
 |i+1,h=>by
  rw[aUj,AO] at h
  rcases h with h|h
  ·obtain⟨v,hv,hq⟩:=bAx h
   exact⟨v,oM,hq⟩
  ·exact⟨i,oM,AT.1 h⟩
theorem aUk {v:Nat}:∀{i:Nat},v<i→(aUj N k i)[v]? =some (abF N k v)
 |i+1,h=>by
  rw[aUj]
  have hl:=bAw (N:=N) (k:=k) i
  by_cases hv:v=i
  ·subst hv
   rw[A9 oM,hl,DP];rfl
  ·rw[BI oM]
   exact aUk oM
theorem bDg:∀i,(aUj N k i).Pairwise fun a c=>a.c0<c.c0
 |0=>CI
 |i+1=>by
  rw[aUj,BS]
  refine⟨bDg i,List.pairwise_singleton _ _,fun a ha c hc=> ?_⟩
  obtain⟨v,hv,rfl⟩:=bAx ha
  rw[AT] at hc
  subst hc
  unfold abF;dsimp only;omega
theorem bKy (hN:N≤1000) {q:T5} (h:q∈aUj N k N):okM N q∧okT 3 q:=by
 obtain⟨v,hv,rfl⟩:=bAx h
 have h2:(v+k)%N<N:=EH _ oM
 unfold okM abF
 dsimp only
 exact⟨oM,aUm ⟨oM,oM⟩ ⟨oM,oM⟩ ⟨oM,oM⟩⟩
theorem aUl (hP:aAh N es lab fl r b) (hf:∀e∈es,inE N e) (hT:aAs N es lab b tl l) (hN:N≤1000) (hm:es.length≤1000):
  aIb N (aUj N k N)∧(aBw (aAy lab) b l (aUj N k N)).length=N∧∀v,v<N→∃m:Int,aDa N lab l v ((v+k)%N) m∧(aBw (aAy lab) b l (aUj N k N))[v]? =some ⟨(v:Int),m,0,0,0⟩:=by
 obtain⟨b1,b2,b3⟩:=aOn hP hf hT hN hm (fun q h=>(bKy hN h).1) (bDg N) (fun q h=>(bKy hN h).2)
 rw[bAw] at b2
 refine⟨b1,b2,fun v hv=> ?_⟩
 obtain⟨m',n1,n2⟩:=b3 v _ (aUk hv)
 dsimp only[abF,AR] at n1 n2
 exact⟨m',n1,n2⟩
theorem climb (hT:aAs N es lab b tl l) {x u v:Nat} (hx:x<N) (hu:u<N) (hv:v<N) (h1:Sub l x u) (h2:u≠x) (h3:Sub l u v):∃p:Nat,p<N∧(at5 l u).c1=(p:Int)∧Sub l x p∧Sub l p v:=by
 rcases hT.par hu with⟨h,_⟩|⟨p,hp,h,_,h5,h6,_⟩
 ·exact absurd ((aOf hT hx hu h).1 h1).symm h2
 ·refine⟨p,hp,h,((aLk hT hx hu hp h).1 h1).resolve_left fun h=>h2 h.symm,?_⟩
  obtain⟨g1,g2⟩:=h3
  exact⟨oM,oM⟩
theorem bOc (hT:aAs N es lab b tl l) {x u v c:Nat} (hx:x<N) (hc:c<N) (h1:(at5 l c).c1=(x:Int)) (h2:Sub l c u) (h3:Sub l c v) (aa:∀z,z<N→Sub l z u→Sub l z v→(at5 l z).c2≤(at5 l x).c2):False:=by
 rcases hT.par hc with⟨h,_⟩|⟨p,hp,h,_,h5,_⟩
 ·omega
 ·obtain rfl:p=x:=by omega
  have:=aa c hc h2 h3
  omega
end
end Go.Proofs.YtaofijjjheiknaaGreat
