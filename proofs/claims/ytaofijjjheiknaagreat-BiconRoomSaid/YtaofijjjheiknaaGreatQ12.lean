/-
  Parts of the proof, put together (12). No condition.
-/
import Derived.Test.YtaofijjjheiknaaGreatQ11
set_option linter.unusedVariables false
set_option linter.unusedSimpArgs false
set_option linter.unnecessarySimpa false
set_option maxHeartbeats 4000000
open Bool renaming and_eq_true→D3
open Classical renaming byContradiction→BX
open Go.IntKind renaming wrap→AL
open Go.Proofs.Tryz renaming prog→AC
open Int renaming toNat_natCast→AV
open List renaming cons_append→AA,nil_append→AB,mem_cons_self→AE,mem_cons_of_mem→AF,getElem?_eq_getElem→AG,length_append→AH,length_cons→AJ,getElem?_eq_some_iff→AK,mem_cons→AM,mem_map→AN,getD_eq_getElem?_getD→AP,append_nil→AQ,length_map→AR,mem_append→AS,mem_singleton→AW,mem_of_getElem?→AY,map_cons→AZ,map_append→A0,flatMap_cons→A7,count_append→A8,pairwise_iff_getElem→A9,pairwise_map→BA,mem_range→BD,range→BE,pairwise_cons→BF,length_take→BJ,getElem?_map→BM,mem_filter→BQ,replicate→BT,getElem?_eq_none→BY,mem_flatMap→BZ,mem_iff_getElem→B3,pairwise_append→B8,nodup_append→B9,singleton_append→CA,nodup_cons→CC,map_map→CH,flatMap_append→CJ,map_congr_left→CM,getElem?_range→CO,getElem?_set_ne→CQ,mem_iff_getElem?→CZ,mem_of_find?_eq_some→DC,ext_getElem?→DG,getElem?_set_self→DI,filter_eq_nil_iff→DR,length_set→DS,not_mem_nil→DU,find?_eq_none→DY,range_succ→D2,pairwise_lt_range→D7,getElem?_zip_eq_some→D8,perm_ext_iff_of_nodup→EN
open List.Pairwise renaming nil→DH,imp_of_mem→EC
open List.Perm renaming swap→CS,of_eq→DD
open Nat renaming reduceAdd→AD,le_refl→AI,zero_le→AU,succ_mul→BH,lt_trichotomy→CK
open Option renaming map_some→DL
open Option.some renaming inj→BC,injEq→BG
open Go.Proofs.Tryz
open Go.Value renaming int→Z9
open Go.IntKind renaming i64→Z8
namespace Go.Proofs.YtaofijjjheiknaaGreat
open Go.SL Go.Spc Go.Tup Go.Srt
def dv0 (s n:Nat):Dv:=⟨s,n,fun _=>none,-1,0⟩
def wk0 (s n room:Nat):Wk:=⟨dv0 s n,⟨room,0,0,[]⟩,⟨n,[(0,n)]⟩,[]⟩
theorem wV (s n:Nat) (hs:8≤s∧s≤256) (hb:n≤1000000):Ct AC 46 [Z9 Z8 s,Z9 Z8 n] [] fun v H'=> ∃bd c,v= .tuple #[pv bd,Z9 Z8 0]∧H'=[c]∧Dg bd (dv0 s n) c:=by
 refine Ct.convP (pR s n hs hb) (.refl _) ?_;rintro v H' ⟨bd,bl,bn,rfl,rfl⟩;refine⟨_,⟨bd,_,rfl,rfl,bl,bn,none,0,0,[],[],[],0,[],rfl,Vec.nil _ _,by simp,fun _=>rfl,AU _,hs,hb,by simp[dv0]⟩,by simp[Bi,chs,dv0]⟩
theorem wW (bd ba bs:Nat):Ct AC 47 [pv bd,pv ba,pv bs] [] fun v H'=>∃bw,v=pv bw∧H'=[Ab bw bd ba bs]:=by
 refine cG func47 fun _=>?_;repeat(refine sA ?_;intros)
 rename_i bw;(refine dP [[(bw,row [pv bd,pv ba,pv bs] 105)]] ?_;exact⟨bw,rfl,rfl⟩)
theorem live0 (n:Nat) (h:1≤n):Ht ⟨n,[(0,n)]⟩ [] where
 fit:=by simp
 apart:=DH
 free:=fun x hx=>by simp[inF];exact hx
 sum:=by simp[Bc]
theorem wc0 {bd ba bs s n room:Nat} {cd ca cs:Aa} (hn:1≤n) (h1:Dg bd (dv0 s n) cd) (h2:Jt ba ⟨room,0,0,[]⟩ ca) (h3:Kf bs ⟨n,[(0,n)]⟩ cs):Wc bd ba bs (wk0 s n room) cd ca cs:=
 ⟨h1,h2.ar,h3,rfl,live0 n hn⟩
theorem jX (bd:Nat) (δ:Dv) (c:Aa) (h:Dg bd δ c) (n:Int) (hn: -1≤n∧n≤1000000000):Ct AC 35 [pv bd,Z9 Z8 n] [c] fun v H'=> ∃c',v= .tuple #[]∧H'=[c']∧Dg bd {δ with fault:=n} c':=by
 obtain⟨bl,bn,pp,np,cp,xs,pc,es,ck,aa,rfl,h1,h2,h3,h4,h5,h6,h7⟩:=h;refine Ct.convP (H2:=[[(bd,row (Df δ.size δ.blocks bl bn pp np cp δ.fault δ.acts) 116)],(bn,Bi Ei (es.map (Db.ent δ.size)) ck)::(pc++(chs es++aa))])
  (R2:=fun v H'=>v= .tuple #[]∧H'=[[(bd,row (Df δ.size δ.blocks bl bn pp np cp n δ.acts) 116)],(bn,Bi Ei (es.map (Db.ent δ.size)) ck)::(pc++(chs es++aa))]) ?_ oA19 ?_
 ·unfold Df;have ab:max n (-1)=n:=oM;refine cG func35 fun _=>?_;repeat(refine sA ?_;intros)
  rw[ab];(refine dE [[(bd,row [Z9 Z8 δ.size,Z9 Z8 δ.blocks,.map (some bl),.map (some bn),.slice pp np cp,Z9 Z8 (-1),Z9 Z8 n,.bool false,Z9 Z8 δ.acts] 116)],(bn,Bi Ei (es.map (Db.ent δ.size)) ck)::(pc++(chs es++aa))] ?_;exact⟨rfl,rfl⟩)
 ·rintro v H' ⟨rfl,rfl⟩;exact⟨_,⟨_,rfl,rfl,bl,bn,pp,np,cp,xs,pc,es,ck,aa,rfl,h1,h2,h3,h4,h5,h6,hn⟩,by simp⟩
theorem big0 (s n room:Nat):big (wk0 s n room).σ.free=n:=by simp[wk0,big]
theorem Lay_k (bw bd ba bs:Nat) (W:Wk) (cd ca cs:Aa) (h:Wc bd ba bs W cd ca cs) (k:Nat) (h1:1≤k) (h2:k≤5) (p:Option Addr) (n cap:Nat) (ts:List T5) (c:Aa) (hv:RV p n ts c) (hn:n≤100000000) (ac:∀t∈ts,okT k t) (hr:W.δ.size≤W.α.room-W.α.used) (hf:W.δ.fault= -1) (ab:W.δ.acts≤100000000000) (hb:Ac W.δ.size k n≤big W.σ.free):Ct AC 73 [pv bw,Z9 Z8 k,.slice p n cap] [Ab bw bd ba bs,cd,ca,cs,c] fun v H'=> ∃cd' ca' cs' W' f,v= .tuple #[flv f,Z9 Z8 0]∧H'=[Ab bw bd ba bs,cd',ca',cs',c]∧Wc bd ba bs W' cd' ca' cs'∧Ev W W' (Ac W.δ.size k n) (Ac W.δ.size k n)∧Ap W.live W W'∧W'.α.gs.Perm W.α.gs∧W'.live.Perm (Az f W.live)∧f.width=k∧f.count=n∧f.blocks=Ac W.δ.size k n∧Be W'.δ.disk W.δ.size [f.ext] f ts:=by
 refine(Lay_ct bw bd ba bs W cd ca cs h k h1 h2 p n cap ts c hv hn ac hr hf ab).mono ?_;rintro v H' ⟨cd',ca',cs',W',rfl,hW,hE,hK,hg,⟨_,f,rfl,hl,hw,hc,aa⟩|⟨hx,_⟩⟩
 ·exact⟨cd',ca',cs',W',f,rfl,rfl,hW,hE,hK,hg,by rw[hl];exact .refl _,hw,hc,by rw[aa.blk,hw,hc],aa⟩
 ·omega
theorem Ce.stay {W W':Wk} {x:Fl×List T5} (h:Ce W x) (hs:W'.δ.size=W.δ.size) (hk:Ap W.live W W') (hl:∀e∈W.live,e∈W'.live):Ce W' x:=by obtain⟨Lv,h1,h2⟩:=h;refine⟨Lv,?_,fun e he=>hl e (h2 e he)⟩;rw[hs];exact h1.keep fun y ⟨e,he,h3⟩=>hk y ⟨e,h2 e he,h3⟩
theorem Ce.new {W':Wk} {s:Nat} {f:Fl} {ts:List T5} {l:List Ext} (h:Be W'.δ.disk s [f.ext] f ts) (hs:W'.δ.size=s) (hl:W'.live.Perm (Az f l)):Ce W' (f,ts):=by subst hs;exact fo_sub h hl
theorem jY {f:Fl} {l l':List Ext} (h:l'.Perm (Az f l)):∀e∈l,e∈l':=fun _ he=>h.mem_iff.2 (Vr he)
theorem jZ {p:Jp} {W W':Wk} {A T:Nat} {ts:List T5} {f:Fl} {e:Int} (h:Hz p W W' A T none ts f e) (hf:W.δ.fault= -1):e=0∧W'.live.Perm (Az f W.live)∧Be W'.δ.disk W.δ.size [f.ext] f ts∧W'.δ.fault= -1:=by
 rcases h.res with⟨h1,_,h2,h3⟩|⟨_,_,_,⟨_,h1⟩|⟨m,h1,_⟩⟩
 ·exact⟨h1,h2,h3,h.fault hf⟩
 ·exact absurd hf h1
 ·cases h1
open Go.Gr
theorem kA (lab:List Int):(Ay lab).length=lab.length:=by unfold Ay;simp
namespace Aq
variable {N:Nat} {es:List IE} {lab:List Int} {fl:List Bool} {r b:List T5}
theorem arc_of (h:Aq N es lab fl r b) (hf:∀e∈es,inE N e) {k:Nat} (hk:k<r.length):∃(i:Nat) (d:IE) (x:Nat),es[i]? =some d∧fl[i]? =some true∧x<N∧lab[d.1.toNat]? =some (x:Int)∧(at5 r k=⟨2*(i:Int),d.1,d.2,(x:Int),0⟩∨at5 r k=⟨2*(i:Int)+1,d.2,d.1,(x:Int),0⟩):=by
 obtain⟨e,he,hx⟩:=h.arcs.edge hk;obtain⟨i,d,hd,ab,rfl⟩:=h.edge he;have h1:=hf d (AY hd);unfold inE at h1;obtain⟨x,aa,ac,_⟩:=h.labs.root (v:=d.1.toNat) oM;refine⟨i,d,x,hd,ab,oM,aa,?_⟩;rw[Sk aa] at hx;exact hx
theorem b_len (h:Aq N es lab fl r b) (hf:∀e∈es,inE N e) (hN:N≤1000000):b.length≤2*N:=by have h1:=h.tours_len hf;have h2:=h.for_le hf;omega
end Aq
def edx (r:List T5) (k:Nat):Nat:=((at5 r k).c0/2).toNat
def Fs (fl:List Bool) (i:Nat):Prop:=fl[i]? =some true
def Rch (r:List T5) (j k:Nat):Prop:=∃n,itF (Aw r) n j=k
theorem Rch.trans {r:List T5} {a b c:Nat} (h1:Rch r a b) (h2:Rch r b c):Rch r a c:=by obtain⟨n,rfl⟩:=h1;obtain⟨m,rfl⟩:=h2;exact⟨m+n,Pb ..⟩
theorem kC {f:Nat→Nat} {P i:Nat} (h:itF f P i=i):∀n,itF f (n*P) i=i
 |0=>by rw[Nat.zero_mul];rfl
 |n+1=>by rw[BH,Pb,h,kC h n]
theorem wX {es:List IE} {fl:List Bool} {i:Nat} {d:IE} (hd:es[i]? =some d) (hf:fl[i]? =some true):(⟨(i:Int),d.1,d.2,0,0⟩:T5)∈Ba (edT es) fl:=by unfold Ba;refine List.mem_filterMap.2 ⟨(⟨(i:Int),d.1,d.2,0,0⟩,true),?_,rfl⟩;exact AY (D8.2 ⟨Ma hd,hf⟩)
namespace Cr
variable {a f r:List T5}
theorem pos0 (A:Cr a f r) {k:Nat} (h:k<r.length):0≤(at5 r k).c0:=by obtain⟨e,he,hk⟩:=A.edge h;have:=A.pos e he;rcases hk with hk|hk<;>rw[hk]<;>dsimp only<;>omega
theorem bro_bro (A:Cr a f r) {k:Nat} (h:k<r.length):Fe r (Fe r k)=k:=by have h0:=A.pos0 h;refine A.num (Mz (Mz h)) h ?_;rw[A.bro (Mz h),A.bro h];dsimp only;unfold Ff;split<;>split<;>omega
theorem bro_ne (A:Cr a f r) {k:Nat} (h:k<r.length):Fe r k≠k:=by intro hq;have h1:=congrArg T5.c0 (A.bro h);rw[hq] at h1;dsimp only at h1;unfold Ff at h1;split at h1<;>omega
theorem edx_eq (A:Cr a f r) {j k:Nat} (hj:j<r.length) (hk:k<r.length) (h:edx r j=edx r k):j=k∨j=Fe r k:=by
 have h1:=A.pos0 hj;have h2:=A.pos0 hk;unfold edx at h;by_cases he:(at5 r j).c0=(at5 r k).c0
 ·exact .inl (A.num hj hk he)
 ·refine .inr (A.num hj (Mz hk) ?_);rw[A.bro hk];dsimp only;unfold Ff;split<;>omega
theorem symm (A:Cr a f r) {j k:Nat} (hj:j<r.length) (h:Rch r j k):Rch r k j:=by obtain⟨n,rfl⟩:=h;obtain⟨P0,_,P2,_⟩:=A.per hj;refine⟨n*Bz r j-n,?_⟩;rw[←Pb,Nat.sub_add_cancel (Nat.le_mul_of_pos_right n P0),kC P2]
theorem pos_of (A:Cr a f r) {i k:Nat} (hi:i<r.length) (h:Rch r i k):∃n,n<Bz r i∧itF (Aw r) n i=k:=by
 obtain⟨n,hn⟩:=h;obtain⟨m,_,h2,h3⟩:=Wv (p:=fun n=>itF (Aw r) n i=k) hn;obtain⟨P0,_,P2,_⟩:=A.per hi;refine⟨m,?_,h2⟩;rcases Nat.lt_or_ge m (Bz r i) with h|h
 ·exact h
 ·refine(h3 (m-Bz r i) oM ?_).elim;rw[←h2]
  conv=>rhs;rw[show m=(m-Bz r i)+Bz r i by omega,Pb,P2]
theorem pos_inj (A:Cr a f r) {i m n:Nat} (hi:i<r.length) (hm:m<Bz r i) (hn:n<Bz r i) (h:itF (Aw r) m i=itF (Aw r) n i):m=n:=by
 obtain⟨_,_,_,P3⟩:=A.per hi;have key:∀{x y:Nat},x<y→y<Bz r i→itF (Aw r) x i≠itF (Aw r) y i:=by intro x y h1 h2 h3;rw[show y=x+(y-x) by omega,Pb] at h3;have:=Wr (f:=Aw r) Dr A.sig_inj hi (Di Dr hi _) x h3;exact P3 (y-x) oM oM this.symm
 rcases CK m n with h1|h1|h1
 ·exact(key h1 hn h).elim
 ·exact h1
 ·exact(key h1 hm h.symm).elim
end Cr
namespace Aq
variable {N:Nat} {es:List IE} {lab:List Int} {fl:List Bool} {r b:List T5}
theorem bridge (h:Aq N es lab fl r b) (i:Nat) (hi:Fs fl i):¬Cn (gE es) (fun j=>Fs fl j∧j≠i) (gE es i).1 (gE es i).2:=by intro hc;have hk:=(h.fors.2 i true hi).1 rfl;exact hk.bridge (hc.mono fun j hj=>⟨(h.fors.2 j true hj.1).1 rfl,hj.2⟩)
theorem arc_g (h:Aq N es lab fl r b) (hf:∀e∈es,inE N e) {k:Nat} (hk:k<r.length):Fs fl (edx r k)∧((gE es (edx r k)).1=(at5 r k).c1.toNat∧(gE es (edx r k)).2=(at5 r k).c2.toNat∨(gE es (edx r k)).1=(at5 r k).c2.toNat∧(gE es (edx r k)).2=(at5 r k).c1.toNat)∧0≤(at5 r k).c1∧(at5 r k).c1<N∧0≤(at5 r k).c2∧(at5 r k).c2<N:=by
 obtain⟨i,d,x,hd,aa,_,_,hx⟩:=h.arc_of hf hk;have h1:=hf d (AY hd);unfold inE at h1;have hg:gE es i=(d.1.toNat,d.2.toNat):=by unfold gE;rw[hd]
 unfold edx;rcases hx with hx|hx
 ·have e1:((at5 r k).c0/2).toNat=i:=by rw[hx];dsimp only;omega
  rw[e1,hg,hx];dsimp only;exact⟨aa,.inl ⟨rfl,rfl⟩,oM,oM,oM,oM⟩
 ·have e1:((at5 r k).c0/2).toNat=i:=by rw[hx];dsimp only;omega
  rw[e1,hg,hx];dsimp only;exact⟨aa,.inr ⟨rfl,rfl⟩,oM,oM,oM,oM⟩
theorem rch_bro (h:Aq N es lab fl r b) (hf:∀e∈es,inE N e) {k:Nat} (hk:k<r.length):Rch r k (Fe r k):=by
 refine BX fun ab=>?_;obtain⟨P0,_,P2,P3⟩:=h.arcs.per hk;have hw:∀n,n<Bz r k→Cn (gE es) (fun j=>Fs fl j∧j≠edx r k) (at5 r k).c2.toNat (at5 r (itF (Aw r) (n+1) k)).c1.toNat:=by
  intro n;induction n with
  |zero=>
   intro _;show Cn _ _ _ (at5 r (Aw r k)).c1.toNat;rw[h.arcs.sig_from hk];exact .refl _
  |succ n ih=>
   intro hn;have aa:itF (Aw r) (n+1) k<r.length:=Di Dr hk _;refine(ih oM).trans ?_;show Cn _ _ _ (at5 r (Aw r (itF (Aw r) (n+1) k))).c1.toNat;rw[h.arcs.sig_from aa];obtain⟨g1,g2,_⟩:=h.arc_g hf aa;refine .one ⟨edx r (itF (Aw r) (n+1) k),⟨g1,fun hq=>?_⟩,g2⟩;rcases h.arcs.edx_eq aa hk hq with h1|h1
   ·exact P3 (n+1) oM oM h1
   ·exact ab ⟨n+1,h1⟩
 have h1:=hw (Bz r k-1) oM;rw[show Bz r k-1+1=Bz r k by omega,P2] at h1;obtain⟨g1,g2,_⟩:=h.arc_g hf hk;rcases g2 with⟨g2,g3⟩|⟨g2,g3⟩
 ·exact h.bridge _ g1 (by rw[g2,g3];exact h1.symm)
 ·exact h.bridge _ g1 (by rw[g2,g3];exact h1)
theorem rch_behind (h:Aq N es lab fl r b) (hf:∀e∈es,inE N e) {k:Nat} (hk:k<r.length):Rch r k (Gb r k):=by refine(h.rch_bro hf hk).trans ⟨1,?_⟩;show Gb r (Fe r (Fe r k))=_;rw[h.arcs.bro_bro hk]
theorem rch_to (h:Aq N es lab fl r b) (hf:∀e∈es,inE N e) {k:Nat} (hk:k<r.length):∀m,k+m<r.length→(at5 r k).c1=(at5 r (k+m)).c1→Rch r k (k+m)
 |0,_,_=>⟨0,rfl⟩
 |m+1,hm,hc=>by
  have e1:=Pc h.arcs.sa (show k≤k+m by omega) oM;have e2:=Pc h.arcs.sa (show k+m≤k+(m+1) by omega) hm;refine(h.rch_to hf hk m oM oM).trans ?_;have hb:=h.rch_behind hf (k:=k+m) oM;have e3:Gb r (k+m)=k+m+1:=by unfold Gb;rw[if_pos ⟨oM,by rw[show k+m+1=k+(m+1) by omega];omega⟩]
  rw[e3] at hb;exact hb
theorem rch_same (h:Aq N es lab fl r b) (hf:∀e∈es,inE N e) {j k:Nat} (hj:j<r.length) (hk:k<r.length) (hc:(at5 r j).c1=(at5 r k).c1):Rch r j k:=by
 rcases Nat.le_total j k with h1|h1
 ·have:=h.rch_to hf hj (k-j) oM (by rw[show j+(k-j)=k by omega];exact hc);rwa[show j+(k-j)=k by omega] at this
 ·have:=h.rch_to hf hk (j-k) oM (by rw[show k+(j-k)=j by omega];exact hc.symm);rw[show k+(j-k)=j by omega] at this;exact h.arcs.symm hk this
theorem arc_at (h:Aq N es lab fl r b) (hf:∀e∈es,inE N e) {x y:Nat} (hj:Jn (gE es) (Fs fl) x y):∃k,k<r.length∧(at5 r k).c1=x∧(at5 r k).c2=y:=by
 obtain⟨i,hi,he⟩:=hj;have aa:i<es.length:=by have:=(AK.1 hi).1;rw[←h.fors.1];exact this
 have hd:es[i]? =some es[i]:=AG aa;have h1:=hf _ (AY hd);unfold inE at h1;have hg:gE es i=(es[i].1.toNat,es[i].2.toNat):=by unfold gE;rw[hd]
 rw[hg] at he;have hm:=wX hd hi;rcases he with⟨e1,e2⟩|⟨e1,e2⟩
 ·obtain⟨k,hk,hq⟩:=h.arcs.arc hm (t:=⟨2*(i:Int),es[i].1,es[i].2,(at5 (Ay lab) es[i].1.toNat).c1,0⟩) (by simp[Lf]);exact⟨k,hk,by rw[hq];dsimp only at e1⊢;omega,by rw[hq];dsimp only at e2⊢;omega⟩
 ·obtain⟨k,hk,hq⟩:=h.arcs.arc hm (t:=⟨2*(i:Int)+1,es[i].2,es[i].1,(at5 (Ay lab) es[i].1.toNat).c1,0⟩) (by simp[Lf]);exact⟨k,hk,by rw[hq];dsimp only at e2⊢;omega,by rw[hq];dsimp only at e1⊢;omega⟩
theorem rch_cn (h:Aq N es lab fl r b) (hf:∀e∈es,inE N e) {u x:Nat} (hc:Cn (gE es) (Fs fl) u x):∀{j k:Nat},j<r.length→k<r.length→(at5 r j).c1=u→(at5 r k).c1=x→Rch r j k:=by
 induction hc with
 |refl=>intro j k hj hk e1 e2;exact h.rch_same hf hj hk (e1.trans e2.symm)
 |step _ aa ih=>
  intro j k hj hk e1 e2;obtain⟨m,hm,m1,m2⟩:=h.arc_at hf aa;refine((ih hj hm e1 m1).trans (h.rch_bro hf hm)).trans (h.rch_same hf (Mz hm) hk ?_);rw[h.arcs.bro hm,e2];exact m2
theorem cn_f (h:Aq N es lab fl r b) {u x:Nat}:Cn (gE es) (fun i=>i<es.length) u x↔Cn (gE es) (Fs fl) u x:=by
 rw[Kr.conn];refine Cn.congr fun i=>⟨fun hk=>?_,fun hk=>(h.fors.2 i true hk).1 rfl⟩
 have hi:i<fl.length:=by rw[h.fors.1];exact hk.1
 have:=(h.fors.2 i fl[i] (AG hi)).2 hk;unfold Fs;rw[AG hi,this]
theorem lab_at (h:Aq N es lab fl r b) (hf:∀e∈es,inE N e) {k:Nat} (hk:k<r.length):∃x:Nat,(at5 r k).c3=x∧x<N∧lab[(at5 r k).c1.toNat]? =some (x:Int)∧Cn (gE es) (Fs fl) (at5 r k).c1.toNat x∧lab[x]? =some (x:Int):=by
 obtain⟨_,_,c1,c2,_,_⟩:=h.arc_g hf hk;obtain⟨x,h1,h2,h3,h4⟩:=h.labs.root (v:=(at5 r k).c1.toNat) oM;have aa:x<N:=oM;refine⟨x,?_,aa,h1,h.cn_f.1 h3,?_⟩
 ·rw[h.arcs.lab (h.hl hf) hk,Sk h1]
 ·rw[←h1];exact h.labs.same aa oM h3.symm
theorem root_of (h:Aq N es lab fl r b) (hf:∀e∈es,inE N e) {k:Nat} (hk:k<r.length):∃i,i<r.length∧Fg r i=true∧(at5 r i).c3=(at5 r k).c3∧Rch r i k:=by
 obtain⟨x,h1,h2,h3,h4,h5⟩:=h.lab_at hf hk;obtain⟨_,_,c1,c2,_,_⟩:=h.arc_g hf hk;have ab:∃k0,k0<r.length∧(at5 r k0).c1=x:=by
  generalize hu:(at5 r k).c1.toNat=u at h4;cases h4 with
  |refl=>exact⟨k,hk,oM⟩
  |step _ hj=>
   obtain⟨m,hm,m1,m2⟩:=h.arc_at hf hj.symm;exact⟨m,hm,m1⟩
 obtain⟨k0,ac,ad⟩:=ab;obtain⟨i,i1,⟨i2,i3⟩,i4⟩:=Wv (p:=fun i=>i<r.length∧(at5 r i).c1=x) ⟨ac,ad⟩;have aa:(at5 r i).c3=x:=by rw[h.arcs.lab (h.hl hf) i2,i3];exact Sk h5
 refine⟨i,i2,?_,by rw[aa,h1],h.rch_cn hf h4.symm i2 hk i3 oM⟩;unfold Fg;refine decide_eq_true ⟨by rw[i3,aa],fun h0 hq=>i4 (i-1) oM ⟨oM,by rw[hq,i3]⟩⟩
end Aq
def posF (r:List T5) (i k:Nat):Nat:=((BE (Bz r i)).find? fun n=>itF (Aw r) n i==k).getD 0
theorem Aq.posF_spec {N:Nat} {es:List IE} {lab:List Int} {fl:List Bool} {r b:List T5} (h:Aq N es lab fl r b) {i k:Nat} (hi:i<r.length) (hR:Rch r i k):posF r i k<Bz r i∧itF (Aw r) (posF r i k) i=k:=by
 obtain⟨n,hn,he⟩:=h.arcs.pos_of hi hR;unfold posF;cases hf:(BE (Bz r i)).find? fun n=>itF (Aw r) n i==k with
 |none=>
  rw[DY] at hf;exact(hf n (BD.2 hn) (by simp[he])).elim
 |some q=>
  have h1:=List.find?_some hf;have h2:=BD.1 (DC hf);exact⟨h2,by simpa using h1⟩
def vtA (r:List T5) (i n:Nat):Nat:=(at5 r (itF (Aw r) n i)).c1.toNat
def edA (r:List T5) (i n:Nat):Nat:=edx r (itF (Aw r) n i)
def Hg (r:List T5) (i n:Nat):Nat:=posF r i (Fe r (itF (Aw r) n i))
theorem Aq.bro_at {N:Nat} {es:List IE} {lab:List Int} {fl:List Bool} {r b:List T5} (h:Aq N es lab fl r b) (hf:∀e∈es,inE N e) {i n:Nat} (hi:i<r.length):Hg r i n<Bz r i∧itF (Aw r) (Hg r i n) i=Fe r (itF (Aw r) n i):=
 h.posF_spec hi (Rch.trans ⟨n,rfl⟩ (h.rch_bro hf (Di Dr hi n)))
theorem Aq.vt_succ {N:Nat} {es:List IE} {lab:List Int} {fl:List Bool} {r b:List T5} (h:Aq N es lab fl r b) {i n:Nat} (hi:i<r.length):vtA r i (n+1)=(at5 r (itF (Aw r) n i)).c2.toNat:=by show(at5 r (Aw r (itF (Aw r) n i))).c1.toNat=_;rw[h.arcs.sig_from (Di Dr hi n)]
theorem Aq.tw {N:Nat} {es:List IE} {lab:List Int} {fl:List Bool} {r b:List T5} (h:Aq N es lab fl r b) (hf:∀e∈es,inE N e) {i:Nat} (hi:i<r.length):Tw (gE es) (Fs fl) (Bz r i) (vtA r i) (edA r i) (Hg r i) where
 mem k hk:=(h.arc_g hf (Di Dr hi k)).1
 ends k hk:=by rw[h.vt_succ hi];exact(h.arc_g hf (Di Dr hi k)).2.1
 round:=by unfold vtA;rw[(h.arcs.per hi).2.2.1];rfl
 bro_lt k _:=(h.bro_at hf hi).1
 bro_ne k _ hq:=by have h1:=(h.bro_at hf (n:=k) hi).2;rw[hq] at h1;exact h.arcs.bro_ne (Di Dr hi k) h1.symm
 bro_bro k hk:=by
  have h1:=(h.bro_at hf (n:=k) hi)
  have h2:=(h.bro_at hf (n:=Hg r i k) hi)
  refine h.arcs.pos_inj hi h2.1 hk ?_;rw[h2.2,h1.2,h.arcs.bro_bro (Di Dr hi k)]
 bro_from k _:=by rw[h.vt_succ hi];unfold vtA;rw[(h.bro_at hf hi).2,h.arcs.bro (Di Dr hi k)]
 bro_to k _:=by rw[h.vt_succ hi,(h.bro_at hf hi).2,h.arcs.bro (Di Dr hi k)];rfl
 uniq j k hj hk he:=by
  rcases h.arcs.edx_eq (Di Dr hi j) (Di Dr hi k) he with h1|h1
  ·exact .inl (h.arcs.pos_inj hi hj hk h1)
  ·refine .inr (h.arcs.pos_inj hi hj (h.bro_at hf hi).1 ?_);rw[h1,(h.bro_at hf hi).2]
 bridge:=h.bridge
theorem srtOf {o:T5} {l A:List T5} (hp:A.Perm l) (hs:A.Pairwise fun a b=>ltO o a b=true):srt (ltO o) false l=A:=by
 have ac:∀a,ltO o a a=false:=fun a=>by
  cases h:ltO o a a with
  |false=>rfl
  |true=>have:=(Ee o).asym a a h;rw[h] at this;simp at this
 refine List.Perm.eq_of_pairwise (le:=fun a b=>ltO o b a=false) ?_ ((Kz (Ee o) false l).imp fun {a b} h=>by simpa using h) (hs.imp fun {a b} h=>(Ee o).asym a b h) ((Bs l).trans hp.symm);intro a b ha hb h1 h2;have aa:a∈A:=hp.mem_iff.2 (Io ha);refine BX fun ab=>?_;have key:ltO o a b=true∨ltO o b a=true:=by
  obtain⟨i,hi,rfl⟩:=B3.1 aa;obtain⟨j,hj,rfl⟩:=B3.1 hb;rcases CK i j with h3|h3|h3
  ·exact .inl (A9.1 hs i j hi hj h3)
  ·subst h3;exact(ab rfl).elim
  ·exact .inr (A9.1 hs j i hj hi h3)
 rcases key with h3|h3
 ·rw[h2] at h3;cases h3
 ·rw[h1] at h3;cases h3
theorem kD (r:List T5):∀n,(Gp r n).map (·.c0)=(Na r n).map fun k=>(at5 r k).c0
 |0=>rfl
 |n+1=>by
  rw[Wu,aX,A0,A0,kD r n];congr 1;split
  ·unfold Lg Ds;rw[CH,CH];rfl
  ·rfl
theorem wY (r:List T5):(BE r.length).map (at5 r)=r:=by
 apply List.ext_getElem
 ·simp
 ·intro i h1 h2;rw[List.getElem_map,List.getElem_range];unfold at5;rw[AP,AG h2];rfl
namespace Aq
variable {N:Nat} {es:List IE} {lab:List Int} {fl:List Bool} {r b:List T5}
theorem idx_perm (h:Aq N es lab fl r b) (hf:∀e∈es,inE N e):(Na r r.length).Perm (BE r.length):=by
 rw[EN (h.arcs.idx_nodup (h.hl hf) (AI _)) List.nodup_range];intro k;rw[BD];constructor
 ·intro hk;obtain⟨i,hi,_,n,_,rfl⟩:=aY hk;exact Di Dr hi n
 ·intro hk;obtain⟨i,hi,hr,_,hR⟩:=h.root_of hf hk;obtain⟨n,hn,he⟩:=h.arcs.pos_of hi hR;unfold Na;refine BZ.2 ⟨i,BD.2 hi,?_⟩;rw[if_pos hr];exact AN.2 ⟨n,BD.2 hn,he⟩
theorem arc_b (h:Aq N es lab fl r b) {i n:Nat} (hi:i<r.length) (hr:Fg r i=true) (hn:n<Bz r i):Ds r i n∈b:=by rw[h.tours];unfold Jx Gp;refine BZ.2 ⟨i,BD.2 hi,?_⟩;rw[if_pos hr];exact List.mem_map_of_mem (BD.2 hn)
theorem b_arc (h:Aq N es lab fl r b) {t:T5} (ht:t∈b):∃i n,i<r.length∧Fg r i=true∧n<Bz r i∧t=Ds r i n:=by
 rw[h.tours] at ht;unfold Jx Gp at ht;obtain⟨i,hi,hx⟩:=BZ.1 ht;split at hx
 next hr=>
  obtain⟨n,hn,rfl⟩:=AN.1 hx;exact⟨i,n,BD.1 hi,hr,BD.1 hn,rfl⟩
 next=>simp at hx
end Aq
def trv (x:Int):Nat→Int→Fo→List T5
 |_,_,.nil=>[]
 |p,u,.node v s r=>⟨x,(p:Int),(v:Int),u,((s.sz+1:Nat):Int)⟩::(trv x (p+1) v s++⟨x,((p+1+2*s.sz:Nat):Int),-1,-1,0⟩::trv x (p+2+2*s.sz) u r)
def Ca:Int→Int→Nat→Fo→List T5
 |_,_,_,.nil=>[]
 |u,d,n,.node v s r=>⟨(v:Int),u,(n:Int),((s.sz+1:Nat):Int),d+1⟩::(Ca v (d+1) (n+1) s++Ca u d (n+1+s.sz) r)
theorem Qm:∀(T:Fo) (u d:Int) (n:Nat),(Ca u d n T).map (·.c0)=T.vs.map fun (v:Nat)=>(v:Int)
 | .nil,_,_,_=>rfl
 | .node v s r,u,d,n=>by simp only[Ca,Fo.vs,AZ,A0,Qm s,Qm r]
theorem bA (T:Fo) (u d:Int) (n:Nat):(Ca u d n T).length=T.sz:=by rw[←T.vs_len,←AR (f:=fun t:T5=>t.c0),Qm,AR]
theorem Ww:∀(T:Fo) (u d:Int) (n:Nat),(Ca u d n T).map (·.c2)=(List.range' n T.sz).map fun (v:Nat)=>(v:Int)
 | .nil,_,_,_=>rfl
 | .node v s r,u,d,n=>by simp only[Ca,Fo.sz,AZ,A0,Ww s,Ww r];rw[←A0,List.range'_append_1,show s.sz+1+r.sz=(s.sz+r.sz)+1 by omega,List.range'_succ,AZ]
theorem Nb:∀{T:Fo} {u d:Int} {n:Nat} {e:T5},e∈Ca u d n T→(n:Int)≤e.c2∧1≤e.c3∧e.c2+e.c3≤((n+T.sz:Nat):Int)∧d+1≤e.c4∧e.c4≤d+(T.sz:Int)
 | .nil,_,_,_,_,h=>by simp[Ca] at h
 | .node v s r,u,d,n,e,h=>by
  simp only[Ca,AM,AS] at h;simp only[Fo.sz];rcases h with rfl|h|h
  ·dsimp only;omega
  ·have:=Nb h;omega
  ·have:=Nb h;omega
theorem Uc {T:Fo} {u d:Int} {n:Nat} {e:T5} (h:e∈Ca u d n T):∃v:Nat,v∈T.vs∧e.c0=v:=by have h1:=List.mem_map_of_mem (f:=fun t:T5=>t.c0) h;rw[Qm] at h1;obtain⟨v,hv,he⟩:=AN.1 h1;exact⟨v,hv,he.symm⟩
theorem Wx:∀{T:Fo} {u d:Int} {n:Nat} {e:T5},e∈Ca u d n T→(e.c1=u∧e.c4=d+1)∨∃e'∈Ca u d n T,e'.c0=e.c1∧e.c4=e'.c4+1∧e'.c2<e.c2∧e.c2+e.c3≤e'.c2+e'.c3
 | .nil,_,_,_,_,h=>by simp[Ca] at h
 | .node v s r,u,d,n,e,h=>by
  simp only[Ca,AM,AS] at h⊢;rcases h with rfl|h|h
  ·exact .inl ⟨rfl,rfl⟩
  ·right;have hb:=Nb h;rcases Wx h with⟨h1,h2⟩|⟨e',h1,h2⟩
   ·exact⟨_,.inl rfl,h1.symm,h2,oD,oD⟩
   ·exact⟨e',.inr (.inl h1),h2⟩
  ·rcases Wx h with h1|⟨e',h1,h2⟩
   ·exact .inl h1
   ·exact .inr ⟨e',.inr (.inr h1),h2⟩
theorem bB {J:Int→Nat→Prop}:∀{T:Fo} {u d:Int} {n:Nat} {e:T5},T.Jo J u→e∈Ca u d n T→J e.c1 e.c0.toNat
 | .nil,_,_,_,_,_,h=>by simp[Ca] at h
 | .node v s r,u,d,n,e,hj,h=>by
  obtain⟨h1,h2,h3⟩:=hj;simp only[Ca,AM,AS] at h;rcases h with rfl|h|h
  ·dsimp only;rw[AV];exact h1
  ·exact bB h2 h
  ·exact bB h3 h
def Jc (p:T5→Bool) (f:T5→Int) (l:List T5):Int:=((l.filter p).map f).sum
theorem wZ (p:T5→Bool) (f:T5→Int):Jc p f []=0:=rfl
theorem Pe (p:T5→Bool) (f:T5→Int) (e:T5) (l:List T5):Jc p f (e::l)=(if p e then f e else 0)+Jc p f l:=by unfold Jc;rw[List.filter_cons];split<;>simp
theorem kE (p:T5→Bool) (f:T5→Int) (a b:List T5):Jc p f (a++b)=Jc p f a+Jc p f b:=by unfold Jc;rw[List.filter_append,A0,List.sum_append]
theorem xA (p:T5→Bool) (f:T5→Int) {a b:List T5} (h:a.Perm b):Jc p f a=Jc p f b:=by
 induction h with
 |nil=>rfl
 |cons x _ ih=>rw[Pe,Pe,ih]
 |swap x y l=>rw[Pe,Pe,Pe,Pe];omega
 |trans _ _ h1 h2=>rw[h1,h2]
theorem bC (p:T5→Bool) (f:T5→Int) {l:List T5} (h:∀e∈l,p e=false):Jc p f l=0:=by unfold Jc;rw[DR.2 (fun e he=>by rw[h e he];decide)];rfl
def chF:Int→List Int→Int→Nat→Fo→List (T5×List Int)
 |_,_,_,_,.nil=>[]
 |u,up,d,n,.node v s r=>(⟨(v:Int),u,(n:Int),((s.sz+1:Nat):Int),d+1⟩,(v:Int)::up)::(chF v ((v:Int)::up) (d+1) (n+1) s++chF u up d (n+1+s.sz) r)
theorem Sl:∀(T:Fo) (u:Int) (up:List Int) (d:Int) (n:Nat),(chF u up d n T).map (·.1)=Ca u d n T
 | .nil,_,_,_,_=>rfl
 | .node v s r,u,up,d,n=>by simp only[chF,Ca,AZ,A0,Sl s,Sl r]
theorem Wy {T:Fo} {u:Int} {up:List Int} {d:Int} {n:Nat} {x:T5×List Int} (h:x∈chF u up d n T):x.1∈Ca u d n T:=by rw[←Sl T u up d n];exact List.mem_map_of_mem h
theorem chF_of {T:Fo} {u:Int} (up:List Int) {d:Int} {n:Nat} {e:T5} (h:e∈Ca u d n T):∃c,(e,c)∈chF u up d n T:=by rw[←Sl T u up d n] at h;obtain⟨⟨e',c⟩,hx,rfl⟩:=AN.1 h;exact⟨c,hx⟩
inductive Way (par:Int→Int):Int→List Int→Prop
 |top {v:Int}:v<0→Way par v []
 |up {v:Int} {c:List Int}:0≤v→Way par (par v) c→Way par v (v::c)
theorem bD {par:Int→Int}:∀{T:Fo} {u:Int} {up:List Int} {d:Int} {n:Nat},(∀e∈Ca u d n T,par e.c0=e.c1)→Way par u up→∀x∈chF u up d n T,Way par x.1.c0 x.2
 | .nil,_,_,_,_,_,_,x,h=>by simp[chF] at h
 | .node v s r,u,up,d,n,hp,hu,x,h=>by
  simp only[Ca,AM,AS] at hp;simp only[chF,AM,AS] at h;have hv:Way par v ((v:Int)::up):= .up oM (by rw[hp _ (.inl rfl)];exact hu);rcases h with rfl|h|h
  ·exact hv
  ·exact bD (fun e he=>hp e (.inr (.inl he))) hv x h
  ·exact bD (fun e he=>hp e (.inr (.inr he))) hu x h
theorem Qn:∀{T:Fo} {u:Int} {up:List Int} {d:Int} {n:Nat} {x:T5×List Int},x∈chF u up d n T→(∀w∈up,w∈x.2)∧(∀w∈x.2,w∈up∨∃v∈T.vs,w=(v:Int))∧(x.2.length:Int)+d=x.1.c4+up.length
 | .nil,_,_,_,_,x,h=>by simp[chF] at h
 | .node v s r,u,up,d,n,x,h=>by
  simp only[chF,AM,AS] at h;simp only[Fo.vs,AM,AS];rcases h with rfl|h|h
  ·dsimp only;refine⟨fun w hw=>AF _ hw,fun w hw=>?_,?_⟩
   ·rcases AM.1 hw with rfl|hw
    ·exact .inr ⟨v,.inl rfl,rfl⟩
    ·exact .inl hw
   ·simp only[AJ];omega
  ·obtain⟨h1,h2,h3⟩:=Qn h;refine⟨fun w hw=>h1 w (AF _ hw),fun w hw=>?_,by simp only[AJ] at h3;omega⟩;rcases h2 w hw with h4|⟨y,h4,h5⟩
   ·rcases AM.1 h4 with rfl|h4
    ·exact .inr ⟨v,.inl rfl,rfl⟩
    ·exact .inl h4
   ·exact .inr ⟨y,.inr (.inl h4),h5⟩
  ·obtain⟨h1,h2,h3⟩:=Qn h;refine⟨h1,fun w hw=>?_,h3⟩;rcases h2 w hw with h4|⟨y,h4,h5⟩
   ·exact .inl h4
   ·exact .inr ⟨y,.inr (.inr h4),h5⟩
theorem bE:∀{T:Fo} {u:Int} {up:List Int} {d:Int} {n:Nat},T.vs.Nodup→(∀v∈T.vs,(v:Int)∉up)→∀x∈chF u up d n T,∀e∈Ca u d n T,(e.c0∈x.2↔e.c2≤x.1.c2∧x.1.c2<e.c2+e.c3)
 | .nil,_,_,_,_,_,_,x,h=>by simp[chF] at h
 | .node v s r,u,up,d,n,hn,hu,x,h=>by
  intro e he;simp only[Fo.vs,CC,AS,B9,not_or] at hn;obtain⟨⟨ag,ab⟩,ah,ai,ad⟩:=hn;simp only[Fo.vs,AM,AS] at hu;simp only[chF,AM,AS] at h;simp only[Ca,AM,AS] at he;have ae:∀y∈s.vs,(y:Int)∉(v:Int)::up:=fun y hy hq=>by
   rcases AM.1 hq with h1|h1
   ·exact ag (by rw[show v=y by omega];exact hy)
   ·exact hu y (.inr (.inl hy)) h1
  have ac:∀y∈r.vs,(y:Int)∉up:=fun y hy=>hu y (.inr (.inr hy));rcases h with rfl|h|h
  ·
   dsimp only;rcases he with rfl|he|he
   ·dsimp only;simp;omega
   ·obtain⟨y,hy,aa⟩:=Uc he;have hb:=Nb he;rw[aa];refine⟨fun hq=>(ae y hy hq).elim,fun hq=>by omega⟩
   ·obtain⟨y,hy,aa⟩:=Uc he;have hb:=Nb he;rw[aa];refine⟨fun hq=>?_,fun hq=>by omega⟩;rcases AM.1 hq with h1|h1
    ·exact(ab (by rw[show v=y by omega];exact hy)).elim
    ·exact(ac y hy h1).elim
  ·have hx:=Nb (Wy h);obtain⟨u1,u2,_⟩:=Qn h;rcases he with rfl|he|he
   ·dsimp only;exact⟨fun _=>by omega,fun _=>u1 _ AE⟩
   ·exact bE ah ae x h e he
   ·obtain⟨y,hy,aa⟩:=Uc he;have hb:=Nb he;rw[aa];refine⟨fun hq=>?_,fun hq=>by omega⟩;rcases u2 _ hq with h1|⟨z,hz,h1⟩
    ·rcases AM.1 h1 with h1|h1
     ·exact(ab (by rw[show v=y by omega];exact hy)).elim
     ·exact(ac y hy h1).elim
    ·exact(ad z hz y hy oM).elim
  ·have hx:=Nb (Wy h);obtain⟨u1,u2,_⟩:=Qn h;rcases he with rfl|he|he
   ·dsimp only;refine⟨fun hq=>?_,fun hq=>by omega⟩;rcases u2 _ hq with h1|⟨z,hz,h1⟩
    ·exact(hu v (.inl rfl) h1).elim
    ·exact(ab (by rw[show v=z by omega];exact hz)).elim
   ·obtain⟨y,hy,aa⟩:=Uc he;have hb:=Nb he;rw[aa];refine⟨fun hq=>?_,fun hq=>by omega⟩;rcases u2 _ hq with h1|⟨z,hz,h1⟩
    ·exact(hu y (.inr (.inl hy)) h1).elim
    ·exact(ad y hy z hz oM).elim
   ·exact bE ai ac x h e he
theorem bF (w:Int):∀{T:Fo} {u:Int} {up:List Int} {d:Int} {n:Nat},T.vs.Nodup→(((chF u up d n T).countP fun x=>decide (w∈x.2):Nat):Int)=if w∈up then(T.sz:Int) else Jc (fun e=>decide (e.c0=w)) (·.c3) (Ca u d n T)
 | .nil,_,_,_,_,_=>by simp[chF,Ca,Fo.sz,wZ]
 | .node v s r,u,up,d,n,hn=>by
  simp only[Fo.vs,CC,AS,B9,not_or] at hn;obtain⟨⟨aa,ae⟩,ab,ac,_⟩:=hn;have h1:=bF w (T:=s) (u:=v) (up:=(v:Int)::up) (d:=d+1) (n:=n+1) ab;have h2:=bF w (T:=r) (u:=u) (up:=up) (d:=d) (n:=n+1+s.sz) ac;simp only[chF,Ca,List.countP_cons,List.countP_append,Pe,kE,Fo.sz,decide_eq_true_eq,AM] at h1 h2⊢;by_cases hu:w∈up
  ·simp only[hu,or_true,if_true] at h1 h2⊢;omega
  ·by_cases hv:w=(v:Int)
   ·have hz:Jc (fun e=>decide (e.c0=w)) (·.c3) (Ca (v:Int) (d+1) (n+1) s)=0:=bC _ _ fun e he=>by obtain⟨y,hy,ag⟩:=Uc he;refine decide_eq_false fun hq=>aa ?_;rw[show v=y by omega];exact hy
    simp only[hu,or_false,if_false] at h1 h2⊢;rw[if_pos hv] at h1;rw[if_pos hv,if_pos hv.symm,hz];omega
   ·have ad:¬((v:Int)=w):=fun hq=>hv hq.symm;simp only[hu,hv,ad,or_self,if_false] at h1 h2⊢;omega
def Pf (bh bd:Nat):Aj (Bool×T5) where
 C k:=[[(bh,row [.bool k.1] 4)],[(bd,row (Ak k.2) 33)]]
 outs k t:=if k.1 then[⟨(if t.c4<k.2.c4 then t else k.2).c3,(if t.c4<k.2.c4 then t else k.2).c4,(if t.c4<k.2.c4 then t else k.2).c2,(if t.c4<k.2.c4 then t else k.2).c1,
  AL .i64 ((AL .i64 (AL .i64 ((if t.c4<k.2.c4 then k.2 else t).c4-(if t.c4<k.2.c4 then t else k.2).c4)+1)).tdiv 2)⟩,
  ⟨(if t.c4<k.2.c4 then k.2 else t).c3,(if t.c4<k.2.c4 then k.2 else t).c4,-1,-1,0⟩] else[]
 next k t:=if k.1 then(false,if t.c4<k.2.c4 then t else k.2) else(true,t)
 err _ _:=none
def Hh (bl bn:Nat):Aj (Int×Int) where
 C k:=[[(bl,row [Z9 Z8 k.1] 2)],[(bn,row [Z9 Z8 k.2] 2)]]
 outs k t:=if t.c0=k.1 then[] else if k.1= -1 then[] else[⟨k.1,-1,k.1,-1,k.2⟩]
 next k t:=if t.c0=k.1 then(k.1,AL .i64 (k.2+1)) else(t.c0,1)
 err _ _:=none
def Eh (bd bn:Nat):Aj (Int×Int) where
 C k:=[[(bd,row [Z9 Z8 k.1] 2)],[(bn,row [Z9 Z8 k.2] 2)]]
 outs k t:=if t.c2= -1 then[] else[⟨t.c2,t.c3,AL .i64 (AL .i64 (k.2+1)-1),t.c4,if t.c3= -1 then 0 else AL .i64 (k.1+1)⟩]
 next k t:=if t.c2= -1 then(AL .i64 (k.1-1),k.2) else(if t.c3= -1 then 0 else AL .i64 (k.1+1),AL .i64 (k.2+1))
 err _ _:=none
def rootsOut (sts:List T5) (last n:Int):List T5:=sts++if last= -1 then[] else[⟨last,-1,last,-1,n⟩]
def Wz (lts:List T5):List T5:=
 rootsOut ((Hh 0 0).all (-1,0) (srt (ltO o1) false (lts.map fun t=>⟨t.c1,0,0,0,0⟩))) ((Hh 0 0).st (-1,0) (srt (ltO o1) false (lts.map fun t=>⟨t.c1,0,0,0,0⟩))).1 ((Hh 0 0).st (-1,0) (srt (ltO o1) false (lts.map fun t=>⟨t.c1,0,0,0,0⟩))).2
def bG (tts:List T5):List T5:=(Pf 0 0).all (false,T5.zero) (srt (ltO o1) false tts)
def Xa (lts tts:List T5):List T5:=srt (ltO o12) false (Wz lts++bG tts)
def Nc (lts tts:List T5):List T5:=srt (ltO o1) false ((Eh 0 0).all (0,0) (Xa lts tts))
def key (x:Int):T5:=⟨x,0,0,0,0⟩
def Mb (l:List (Int×Nat)):List T5:=l.flatMap fun x=>BT x.2 (key x.1)
def rootT (x:Int×Nat):T5:=⟨x.1,-1,x.1,-1,(x.2:Int)⟩
theorem Sm (x:Int×Nat) (l:List (Int×Nat)):Mb (x::l)=BT x.2 (key x.1)++Mb l:=by unfold Mb;rw[A7]
theorem kF {l:List (Int×Nat)} {t:T5} (h:t∈Mb l):∃x∈l,t=key x.1:=by obtain⟨x,hx,h⟩:=BZ.1 h;exact⟨x,hx,(List.mem_replicate.1 h).2⟩
theorem kG (x:Int) (rest:List T5):∀(n m:Nat),m+n≤1000000000→(Hh 0 0).all (x,(m:Int)) (BT n (key x)++rest)=(Hh 0 0).all (x,((m+n:Nat):Int)) rest∧(Hh 0 0).st (x,(m:Int)) (BT n (key x)++rest)=(Hh 0 0).st (x,((m+n:Nat):Int)) rest
 |0,m,_=>⟨rfl,rfl⟩
 |n+1,m,h=>by
  have ih:=kG x rest n (m+1) oM;have hn:(Hh 0 0).next (x,(m:Int)) (key x)=(x,((m+1:Nat):Int)):=by unfold Hh key;dsimp only;rw[if_pos rfl,Ah oM];rfl
  have ho:(Hh 0 0).outs (x,(m:Int)) (key x)=[]:=by unfold Hh key;dsimp only;rw[if_pos rfl]
  rw[List.replicate_succ,AA];simp only[Aj.all,Aj.st,hn,ho,AB];rw[ih.1,ih.2,show m+1+n=m+(n+1) by omega];exact⟨rfl,rfl⟩
theorem kH:∀(l:List (Int×Nat)) (k:Int×Int),(∀x∈l,x.1≠-1∧1≤x.2∧x.2≤1000000000)→l.Pairwise (fun a b=>a.1<b.1)→(∀x∈l,x.1≠k.1)→rootsOut ((Hh 0 0).all k (Mb l)) ((Hh 0 0).st k (Mb l)).1 ((Hh 0 0).st k (Mb l)).2=(if k.1= -1 then[] else[⟨k.1,-1,k.1,-1,k.2⟩])++l.map rootT
 |[],k,_,_,_=>by
  show[]++_=_++[];rw[AB,AQ];rfl
 |(x,n)::l,k,h1,h2,h3=>by
  rw[BF] at h2;obtain⟨hx,hn,aa⟩:=h1 _ AE;dsimp only at hx hn aa;have hk:=h3 _ AE;dsimp only at hk;obtain⟨n,rfl⟩:∃m,n=m+1:=⟨n-1,oM⟩
  have ih:=kH l (x,((n+1:Nat):Int)) (fun y hy=>h1 y (AF _ hy)) h2.2 (fun y hy=>by have:=h2.1 y hy;dsimp only at this⊢;omega);rw[if_neg hx] at ih;have hr:=kG x (Mb l) n 1 oM;rw[show 1+n=n+1 by omega,show((1:Nat):Int)=1 from rfl] at hr;have ab:(Hh 0 0).next k (key x)=(x,1):=by unfold Hh key;dsimp only;rw[if_neg hk]
  have ho:(Hh 0 0).outs k (key x)=if k.1= -1 then[] else[⟨k.1,-1,k.1,-1,k.2⟩]:=by unfold Hh key;dsimp only;rw[if_neg hk]
  rw[Sm,List.replicate_succ,AA];simp only[Aj.all,Aj.st,ab,ho,hr.1,hr.2];unfold rootsOut at ih⊢;rw[List.append_assoc,ih];rfl
theorem kI:∀(s:List T5),s.Pairwise (fun a b=>a.c0≤b.c0)→(∀t∈s,t=key t.c0)→∃l,s=Mb l∧l.Pairwise (fun a b=>a.1<b.1)∧∀x∈l,1≤x.2∧key x.1∈s
 |[],_,_=>⟨[],rfl,DH,by simp⟩
 |t::s,h1,h2=>by
  rw[BF] at h1;obtain⟨l,rfl,hl,hx⟩:=kI s h1.2 fun u hu=>h2 u (AF _ hu);have ht:=h2 t AE;have aa:∀x∈l,t.c0≤x.1:=fun x ab=>h1.1 _ (hx x ab).2;cases l with
  |nil=>
   refine⟨[(t.c0,1)],by rw[Sm];show[t]=[key t.c0]++[];rw[←ht];rfl,List.pairwise_singleton _ _,?_⟩;intro x hx;simp only[AW] at hx;subst hx;exact⟨AI _,by rw[←ht];exact AE⟩
  |cons y l=>
   obtain⟨x,n⟩:=y;by_cases ac:x=t.c0
   ·subst ac;refine⟨(t.c0,n+1)::l,by rw[Sm,Sm];dsimp only;rw[List.replicate_succ,AA,←ht],?_,?_⟩
    ·rw[BF] at hl⊢;exact hl
    ·intro z hz;rcases AM.1 hz with rfl|hz
     ·exact⟨oD,by dsimp only;rw[←ht];exact AE⟩
     ·exact⟨(hx z (AF _ hz)).1,AF _ (hx z (AF _ hz)).2⟩
   ·refine⟨(t.c0,1)::(x,n)::l,by rw[Sm (t.c0,1)];dsimp only;rw[←ht];rfl,?_,?_⟩
    ·rw[BF];refine⟨fun z hz=>?_,hl⟩;have h3:=aa _ AE;dsimp only at h3⊢;rcases AM.1 hz with rfl|ad
     ·dsimp only;omega
     ·have:=(BF.1 hl).1 z ad;dsimp only at this;omega
    ·intro z hz;rcases AM.1 hz with rfl|hz
     ·exact⟨AI _,by dsimp only;rw[←ht];exact AE⟩
     ·exact⟨(hx z hz).1,AF _ (hx z hz).2⟩
theorem kJ:∀{l:List (Int×Nat)},l.Pairwise (fun a b=>a.1<b.1)→∀{x:Int×Nat},x∈l→(Mb l).count (key x.1)=x.2
 |y::l,h,x,hx=>by
  rw[BF] at h;rw[Sm,A8,List.count_replicate];rcases AM.1 hx with rfl|hx
  ·have h0:(Mb l).count (key x.1)=0:=by rw[List.count_eq_zero];intro hm;obtain⟨z,hz,he⟩:=kF hm;have:=h.1 z hz;have:=congrArg T5.c0 he;simp only[key] at this;omega
   rw[h0];simp
  ·have ih:=kJ h.2 hx;have aa:¬(key y.1=key x.1):=by intro he;have:=h.1 x hx;have:=congrArg T5.c0 he;simp only[key] at this;omega
   rw[ih];simp[aa]
theorem bH {x y:Int} (h:key x=key y):x=y:=congrArg T5.c0 h
theorem xB (lab:List Int):(Ay lab).map (fun t=>(⟨t.c1,0,0,0,0⟩:T5))=lab.map key:=by
 refine DG fun i=>?_;unfold Ay;rw[CH,BM,BM];by_cases h:i<lab.length
 ·rw[CO h,AG h];simp[key,AP,h]
 ·rw[BY oA15,BY oM];rfl
theorem xC (lab:List Int) (x:Int):(lab.map key).count (key x)=lab.count x:=by
 induction lab with
 |nil=>rfl
 |cons y l ih=>
  rw[AZ,List.count_cons,List.count_cons,ih];by_cases h:y=x
  ·subst h;simp
  ·have:¬key y=key x:=fun e=>h (bH e);simp[h,this]
theorem kK {lab:List Int} (h0:∀x∈lab,0≤x) (ae:lab.length≤1000000):∃l:List (Int×Nat),Wz (Ay lab)=l.map rootT∧l.Pairwise (fun a b=>a.1<b.1)∧(∀x∈l,x.1∈lab∧x.2=lab.count x.1)∧∀y∈lab,∃x∈l,x.1=y:=by
 have hp:(srt (ltO o1) false (lab.map key)).Perm (lab.map key):=Bs _;have hs:(srt (ltO o1) false (lab.map key)).Pairwise (fun a b=>a.c0≤b.c0):=(Kz (Ee o1) false (lab.map key)).imp fun {a b} h=>by
  simp only[Bool.false_eq_true,if_false] at h;have h2:¬(ltO o1 b a=true):=by rw[h];decide
  rw[Ow] at h2;omega
 obtain⟨l,hl,aa,ac⟩:=kI _ hs (fun t ht=>by
  obtain⟨x,_,rfl⟩:=AN.1 (hp.mem_iff.1 ht);rfl)
 have ab:∀x∈l,x.1∈lab:=fun x hx=>by obtain⟨y,hy,he⟩:=AN.1 (hp.mem_iff.1 (ac x hx).2);rw[←bH he];exact hy
 have ad:∀x∈l,x.2=lab.count x.1:=fun x hx=>by rw[←kJ aa hx,←hl,hp.count_eq,xC]
 refine⟨l,?_,aa,fun x hx=>⟨ab x hx,ad x hx⟩,fun y hy=>?_⟩
 ·unfold Wz;rw[xB,hl,kH l (-1,0) (fun x hx=>⟨fun he=>by have:=h0 _ (ab x hx);omega,(ac x hx).1,by have:=List.count_le_length (a:=x.1) (l:=lab);have:=ad x hx;omega⟩) aa (fun x hx he=>by have:=h0 _ (ab x hx);dsimp only at he;omega)];rfl
 ·obtain⟨x,hx,he⟩:=kF (l:=l) (by rw[←hl];exact hp.mem_iff.2 (AN.2 ⟨y,hy,rfl⟩));exact⟨x,hx,(bH he).symm⟩
namespace Aq
variable {N:Nat} {es:List IE} {lab:List Int} {fl:List Bool} {r b:List T5}
theorem roots_for (h:Aq N es lab fl r b) (hf:∀e∈es,inE N e) (hN:N≤1000000):(Wz (Ay lab)).length+(Ba (edT es) fl).length≤N:=by
 classical
 obtain⟨l,hl,ac,aa,_⟩:=kK (lab:=lab) (fun x hx=>by obtain⟨v,rfl,_⟩:=h.labs.mem hx;omega) (by rw[h.labs.len];exact hN);have hc:=aZ (g:=gE es) (n:=N) (fun k v=>decide (Mn (gE es) (fun j=>j<k) v)) (fun i=>decide (¬Cn (gE es) (fun j=>j<i) (gE es i).1 (gE es i).2)) (fun k v=>decide_eq_true_iff) (fun i=>decide_eq_true_iff) es.length (gE_lt hf);have h1:(l.map fun x=>x.1.toNat).length≤((BE N).filter fun v=>decide (Mn (gE es) (fun j=>j<es.length) v)).length:=by
  refine List.Nodup.length_le_of_subset ?_ ?_
  ·refine List.Pairwise.map _ (R:=fun (a b:Int×Nat)=>a.1<b.1∧0≤a.1) (fun a b h=>by omega) ?_;refine EC ?_ ac;intro a b ha _ ab;obtain⟨v,hv,_⟩:=h.labs.mem (aa a ha).1;omega
  ·intro v hv;obtain⟨x,hx,rfl⟩:=AN.1 hv;obtain⟨v,hv,ag,hm⟩:=h.labs.mem (aa x hx).1;rw[hv];exact BQ.2 ⟨BD.2 oM,decide_eq_true (by simpa using hm)⟩
 have h2:((Ba (edT es) fl).map fun t=>t.c0.toNat).length≤((BE es.length).filter fun i=>decide (¬Cn (gE es) (fun j=>j<i) (gE es i).1 (gE es i).2)).length:=by
  refine List.Nodup.length_le_of_subset ?_ ?_
  ·refine List.Pairwise.map _ (R:=fun (a b:T5)=>a.c0<b.c0∧0≤a.c0) (fun a b h=>by omega) ?_;have hp:(Ba (edT es) fl).Pairwise fun a b=>a.c0<b.c0:=by have:=List.Pairwise.sublist (R:=fun x y:Int=>x<y) (Ql (edT es) fl) (by rw[BA];exact Pd es);rwa[BA] at this
   refine EC ?_ hp;intro a b ha _ ab;obtain⟨i,d,_,_,rfl⟩:=h.edge ha;exact⟨ab,oD⟩
  ·intro v hv;obtain⟨t,ht,rfl⟩:=AN.1 hv;obtain⟨i,d,hd,ad,rfl⟩:=h.edge ht;have hi:=(AK.1 hd).1;have hk:=(h.fors.2 i true ad).1 rfl;refine BQ.2 ⟨BD.2 oD,decide_eq_true ?_⟩;dsimp only;rw[AV];exact fun ae=>hk.2 (ae.mono fun j hj=>⟨oM,hj⟩)
 rw[AR] at h1 h2;rw[hl,AR];omega
end Aq
theorem Xb {α β:Type} {f:α→β}:∀{l:List α},(l.map f).Nodup→∀{x y:α},x∈l→y∈l→f x=f y→x=y
 |[],_,_,_,h,_,_=>by simp at h
 |a::l,hn,x,y,hx,hy,h=>by
  rw[AZ,CC] at hn;rcases AM.1 hx with rfl|ab
  ·rcases AM.1 hy with rfl|aa
   ·rfl
   ·exact(hn.1 (h▸List.mem_map_of_mem aa)).elim
  ·rcases AM.1 hy with rfl|aa
   ·exact(hn.1 (h▸List.mem_map_of_mem ab)).elim
   ·exact Xb hn.2 ab aa h
def Et (b:List T5) (x:Int):T5:=(b.find? fun t=>t.c0==x).getD T5.zero
theorem Qo {b:List T5} (hn:(b.map (·.c0)).Nodup) {t:T5} (ht:t∈b):Et b t.c0=t:=by
 unfold Et;cases hf:b.find? fun u=>u.c0==t.c0 with
 |none=>
  rw[DY] at hf;exact(hf t ht oA19).elim
 |some q=>
  have h1:=List.find?_some hf;exact Xb hn (DC hf) ht (by simpa using h1)
def Dc (b:List T5) (t:T5):T5:=
 if t.c4<(Et b (Ff t.c0)).c4 then⟨t.c3,t.c4,t.c2,t.c1,((Et b (Ff t.c0)).c4-t.c4+1)/2⟩ else⟨t.c3,t.c4,-1,-1,0⟩
def Jz (b f:List T5):List T5:=f.flatMap fun e=>[Et b (2*e.c0),Et b (2*e.c0+1)]
theorem xD (b:List T5) (f:List T5):Jz b f=(f.flatMap fun e=>[2*e.c0,2*e.c0+1]).map (Et b):=by unfold Jz;rw[List.map_flatMap];rfl
theorem tdiv2 {x y:Int} (hx:0≤x) (aa:x<y) (hy:y≤1000000000):AL .i64 ((AL .i64 (AL .i64 (y-x)+1)).tdiv 2)=(y-x+1)/2:=by rw[Ah (n:=y-x) oM,Ah (n:=y-x+1) oM,Int.tdiv_eq_ediv_of_nonneg oM,Ah oM]
theorem kL (b:List T5):∀(f:List T5) (d:T5),(∀e∈f,0≤e.c0∧(Et b (2*e.c0)).c0=2*e.c0∧(Et b (2*e.c0+1)).c0=2*e.c0+1∧0≤(Et b (2*e.c0)).c4∧(Et b (2*e.c0)).c4≤1000000000∧0≤(Et b (2*e.c0+1)).c4∧(Et b (2*e.c0+1)).c4≤1000000000∧(Et b (2*e.c0)).c4≠(Et b (2*e.c0+1)).c4)→((Pf 0 0).all (false,d) (Jz b f)).Perm ((Jz b f).map (Dc b))
 |[],_,_=> .refl _
 |e::f,d,h=>by
  obtain⟨h0,h1,h2,h3,h4,h5,h6,h7⟩:=h e AE;have ih:=fun d=>kL b f d fun e he=>h e (AF _ he);have e1:Jz b (e::f)=Et b (2*e.c0)::Et b (2*e.c0+1)::Jz b f:=by unfold Jz;rw[A7];rfl
  have f1:Ff (Et b (2*e.c0)).c0=2*e.c0+1:=by rw[h1];unfold Ff;rw[if_pos oM]
  have f2:Ff (Et b (2*e.c0+1)).c0=2*e.c0:=by rw[h2];unfold Ff;rw[if_neg oM];omega
  generalize hu:Et b (2*e.c0)=u at*;generalize ht:Et b (2*e.c0+1)=t at*;rw[e1];show((Pf 0 0).all (false,d) (u::t::Jz b f)).Perm (Dc b u::Dc b t::(Jz b f).map (Dc b));have e2:(Pf 0 0).all (false,d) (u::t::Jz b f)=(Pf 0 0).outs (true,u) t++(Pf 0 0).all (false,if t.c4<u.c4 then t else u) (Jz b f):=by simp only[Aj.all];rfl
  rw[e2];have aa:Dc b u=if u.c4<t.c4 then⟨u.c3,u.c4,u.c2,u.c1,(t.c4-u.c4+1)/2⟩ else⟨u.c3,u.c4,-1,-1,0⟩:=by unfold Dc;rw[f1,ht]
  have ab:Dc b t=if t.c4<u.c4 then⟨t.c3,t.c4,t.c2,t.c1,(u.c4-t.c4+1)/2⟩ else⟨t.c3,t.c4,-1,-1,0⟩:=by unfold Dc;rw[f2,hu]
  have ho:(Pf 0 0).outs (true,u) t=if t.c4<u.c4 then[Dc b t,Dc b u] else[Dc b u,Dc b t]:=by
   unfold Pf;dsimp only;rw[if_pos rfl,aa,ab];by_cases hc:t.c4<u.c4
   ·rw[if_pos hc,if_pos hc,if_pos hc,if_pos hc,if_neg oM,tdiv2 h5 hc h4]
   ·rw[if_neg hc,if_neg hc,if_neg hc,if_neg hc,if_pos oM,tdiv2 h3 oM h6]
  rw[ho];split
  ·exact(CS _ _ _).trans (((ih _).cons _).cons _)
  ·exact((ih _).cons _).cons _
namespace Aq
variable {N:Nat} {es:List IE} {lab:List Int} {fl:List Bool} {r b:List T5}
theorem nums (h:Aq N es lab fl r b) (hf:∀e∈es,inE N e):(b.map (·.c0)).Perm ((Ba (edT es) fl).flatMap fun e=>[2*e.c0,2*e.c0+1]):=by
 have h1:(b.map (·.c0)).Perm (r.map (·.c0)):=by
  rw[h.tours];unfold Jx;rw[kD]
  conv=>rhs;rw[←wY r,CH]
  exact(h.idx_perm hf).map _
 refine h1.trans ((h.arcs.perm.map _).trans (DD ?_));unfold Kn;rw[List.map_flatMap];rfl
theorem nums_nodup (h:Aq N es lab fl r b) (hf:∀e∈es,inE N e):(b.map (·.c0)).Nodup:=by refine(h.nums hf).nodup_iff.2 ?_;have:=aV h.arcs.nd (Ay lab);unfold Kn at this;rw[List.map_flatMap] at this;exact this
theorem pair_perm (h:Aq N es lab fl r b) (hf:∀e∈es,inE N e):(Jz b (Ba (edT es) fl)).Perm b:=by
 rw[xD];refine(((h.nums hf).map (Et b)).symm).trans (DD ?_);rw[CH]
 conv=>rhs;rw[←List.map_id b]
 exact CM fun t ht=>Qo (h.nums_nodup hf) ht
theorem num_b (h:Aq N es lab fl r b) (hf:∀e∈es,inE N e) {e:T5} (he:e∈Ba (edT es) fl) {x:Int} (hx:x=2*e.c0∨x=2*e.c0+1):∃t∈b,t.c0=x:=by have:=(h.nums hf).mem_iff (a:=x);obtain⟨t,ht,hq⟩:=AN.1 (this.2 (BZ.2 ⟨e,he,by simpa using hx⟩));exact⟨t,ht,hq⟩
theorem look_flip (h:Aq N es lab fl r b) (hf:∀e∈es,inE N e) {i n:Nat} (hi:i<r.length) (hr:Fg r i=true):Et b (Ff (Ds r i n).c0)=Ds r i (Hg r i n):=by
 obtain⟨h1,h2⟩:=h.bro_at hf (n:=n) hi;have h3:(Ds r i (Hg r i n)).c0=Ff (Ds r i n).c0:=by unfold Ds;dsimp only;rw[h2,h.arcs.bro (Di Dr hi n)]
 rw[←h3];exact Qo (h.nums_nodup hf) (h.arc_b hi hr h1)
theorem vis_at (h:Aq N es lab fl r b) (hf:∀e∈es,inE N e) {i n:Nat} (hi:i<r.length) (hr:Fg r i=true):Dc b (Ds r i n)=if n<Hg r i n then⟨(at5 r i).c3,(n:Int),(vtA r i (n+1):Int),(vtA r i n:Int),((Hg r i n:Int)-n+1)/2⟩ else⟨(at5 r i).c3,(n:Int),-1,-1,0⟩:=by
 obtain⟨_,_,c1,_,c2,_⟩:=h.arc_g hf (Di Dr hi n);have e1:((Ds r i n).c4)=(n:Int):=rfl;have e2:(Ds r i n).c3=(at5 r i).c3:=h.arcs.it_lab (h.hl hf) hi n;have e3:(Ds r i n).c2=(vtA r i (n+1):Int):=by rw[h.vt_succ hi];show(at5 r (itF (Aw r) n i)).c2=_;omega
 have e4:(Ds r i n).c1=(vtA r i n:Int):=by unfold vtA;show(at5 r (itF (Aw r) n i)).c1=_;omega
 unfold Dc;rw[h.look_flip hf hi hr,e1,e2,e3,e4];show(if(n:Int)<(Hg r i n:Int) then _ else _)=_;by_cases hc:n<Hg r i n
 ·rw[if_pos hc,if_pos oM];rfl
 ·rw[if_neg hc,if_neg oM]
theorem pairs_sorted (h:Aq N es lab fl r b) (hf:∀e∈es,inE N e):(Jz b (Ba (edT es) fl)).Pairwise fun x y=>ltO o1 x y=true:=by
 have h1:(Ba (edT es) fl).Pairwise fun a b=>a.c0<b.c0:=by have:=List.Pairwise.sublist (R:=fun x y:Int=>x<y) (Ql (edT es) fl) (by rw[BA];exact Pd es);rwa[BA] at this
 have aa:∀e∈Ba (edT es) fl,(Et b (2*e.c0)).c0=2*e.c0∧(Et b (2*e.c0+1)).c0=2*e.c0+1:=fun e he=>by obtain⟨t,ht,hq⟩:=h.num_b hf he (.inl rfl);obtain⟨u,hu,ab⟩:=h.num_b hf he (.inr rfl);rw[←ab,Qo (h.nums_nodup hf) hu,←hq,Qo (h.nums_nodup hf) ht];exact⟨rfl,rfl⟩
 unfold Jz;rw[List.pairwise_flatMap];refine⟨fun e he=>?_,EC (fun {a c} ha hc ac=>?_) h1⟩
 ·obtain⟨l1,l2⟩:=aa e he;simp only[BF,AW,DU,false_implies,implies_true,DH,and_true,forall_eq];rw[Ow];omega
 ·obtain⟨a1,a2⟩:=aa a ha;obtain⟨c1,c2⟩:=aa c hc;intro x hx y hy;rw[Ow];simp only[AM,DU,or_false] at hx hy;rcases hx with rfl|rfl<;>rcases hy with rfl|rfl<;>omega
theorem turns_perm (h:Aq N es lab fl r b) (hf:∀e∈es,inE N e) (hN:N≤1000000):(bG b).Perm (b.map (Dc b)):=by
 unfold bG;rw[srtOf (h.pair_perm hf) (h.pairs_sorted hf)];refine(kL b _ _ ?_).trans ((h.pair_perm hf).map _);intro e he;obtain⟨j,d,_,_,rfl⟩:=h.edge he;obtain⟨t,ht,hq⟩:=h.num_b hf he (.inl rfl);obtain⟨u,hu,aa⟩:=h.num_b hf he (.inr rfl);rw[←aa,Qo (h.nums_nodup hf) hu,←hq,Qo (h.nums_nodup hf) ht];dsimp only at hq aa;obtain⟨i,n,hi,hr,hn,rfl⟩:=h.b_arc ht;have ab:u=Ds r i (Hg r i n):=by rw[←h.look_flip hf hi hr,hq,show Ff (2*(j:Int))=2*j+1 by unfold Ff;rw[if_pos oM],←aa,Qo (h.nums_nodup hf) hu]
 obtain⟨ac,_⟩:=h.bro_at hf (n:=n) hi;have ad:=(h.tw hf hi).bro_ne n hn;have hp:=(h.arcs.per hi).2.1;have ae:=h.len;have ag:=h.roots_for hf hN;refine⟨oD,rfl,rfl,?_,?_,?_,?_,?_⟩
 ·show 0≤((n:Nat):Int);omega
 ·show((n:Nat):Int)≤_;omega
 ·rw[ab];show 0≤((Hg r i n:Nat):Int);omega
 ·rw[ab];show((Hg r i n:Nat):Int)≤_;omega
 ·rw[ab];show((n:Nat):Int)≠((Hg r i n:Nat):Int);omega
end Aq
theorem Iq.vis {P:Nat} {vt bro:Nat→Nat} {x:Int} {f:Nat→T5} (hf:∀n,n<P→f n=if n<bro n then⟨x,(n:Int),(vt (n+1):Int),(vt n:Int),((bro n:Int)-n+1)/2⟩ else⟨x,(n:Int),-1,-1,0⟩):∀{T:Fo} {p q:Nat},Iq P vt bro T p q→(List.range' p (2*T.sz)).map f=trv x p (vt p) T
 | .nil,p,q,h=>rfl
 | .node v s r,p,q,h=>by
  obtain⟨hp,hd,ad,rfl,ab,ac,h1,h2⟩:=h;have e1:=h1.len;have i1:=h1.vis hf;have i2:=h2.vis hf;have e2:2*(Fo.node (vt (p+1)) s r).sz=(2*s.sz+(2*r.sz+1))+1:=by simp only[Fo.sz];omega
  rw[e2,List.range'_succ,←List.range'_append_1,List.range'_succ,AZ,A0,AZ,i1];have aa:bro p=p+1+2*s.sz:=e1;rw[ac,aa] at i2;rw[show p+1+2*s.sz+1=p+2+2*s.sz by omega] at i2⊢;rw[i2];simp only[trv];congr 1
  ·rw[hf p hp,if_pos hd,aa];congr 1;omega
  ·congr 2;rw[hf _ oM,if_neg (by rw[←aa,ab];omega)]
theorem kM {α:Type} (L:List α) (i:Nat) {p:Nat→Bool}:∀{n:Nat},(∀j,j<n→p j=true→j=i)→(BE n).flatMap (fun j=>if p j then(if j=i then L else[]) else[])=if i<n∧p i=true then L else[]
 |0,_=>by simp
 |n+1,h=>by
  rw[D2,CJ,kM L i (n:=n) fun j hj=>h j oM,A7,List.flatMap_nil,AQ];by_cases hp:p n=true
  ·have:=h n oM hp;subst this;rw[if_pos hp,if_pos rfl,if_neg oM,if_pos ⟨oM,hp⟩,AB]
  ·rw[if_neg hp,AQ];by_cases hi:i<n∧p i=true
   ·rw[if_pos hi,if_pos ⟨oM,hi.2⟩]
   ·rw[if_neg hi,if_neg];rintro⟨h1,h2⟩;have h4:i<n:=by
     rcases Nat.eq_or_lt_of_le (Nat.lt_succ_iff.1 h1) with rfl|h3
     ·exact(hp h2).elim
     ·exact h3
    exact hi ⟨h4,h2⟩
theorem Xc {α β:Type} {f g:α→List β}:∀{l:List α},(∀x∈l,f x=g x)→l.flatMap f=l.flatMap g
 |[],_=>rfl
 |x::l,h=>by rw[A7,A7,h x AE,Xc fun y hy=>h y (AF _ hy)]
def Je (es:List IE) (u:Int) (v:Nat):Prop:=0≤u∧Jn (gE es) (fun i=>i<es.length) u.toNat v
def Hi (b:List T5) (x:Int):List T5:=b.filter fun t=>decide (t.c3=x)
structure LabT (es:List IE) (lab:List Int) (b:List T5) (x:Nat) (T:Fo):Prop where
 vis:(Hi b x).map (Dc b)=trv x 0 x T
 nd:T.vs.Nodup
 vs:∀v,v∈T.vs↔lab[v]? =some (x:Int)∧v≠x
 jo:T.Jo (Je es) x
 root:lab[x]? =some (x:Int)
namespace Aq
variable {N:Nat} {es:List IE} {lab:List Int} {fl:List Bool} {r b:List T5}
theorem lab_cn (h:Aq N es lab fl r b) {v x:Nat} (hv:lab[v]? =some (x:Int)):v<N∧Cn (gE es) (Fs fl) v x:=by
 have hN:v<N:=by rw[←h.labs.len];exact(AK.1 hv).1
 obtain⟨y,h1,_,h3,_⟩:=h.labs.root hN;have:=BC (hv.symm.trans h1);obtain rfl:x=y:=by omega
 exact⟨hN,h.cn_f.1 h3⟩
theorem lab_arc (h:Aq N es lab fl r b) (hf:∀e∈es,inE N e) {v x:Nat} (hv:lab[v]? =some (x:Int)) (aa:v≠x):∃k,k<r.length∧(at5 r k).c1=v∧(at5 r k).c3=x:=by
 obtain⟨hN,hc⟩:=h.lab_cn hv;have hs:=hc.symm;cases hs with
 |refl=>exact(aa rfl).elim
 |step _ hj=>
  obtain⟨k,hk,k1,_⟩:=h.arc_at hf hj.symm;obtain⟨y,y1,_,y2,_⟩:=h.lab_at hf hk;refine⟨k,hk,k1,?_⟩;rw[k1,AV,hv] at y2;rw[y1];exact(BC y2).symm
theorem ofLab_eq (h:Aq N es lab fl r b) (hf:∀e∈es,inE N e) (x:Int):Hi b x=(BE r.length).flatMap fun j=>if Fg r j then(if(at5 r j).c3=x then Lg r j else[]) else[]:=by
 unfold Hi
 conv=>lhs;rw[h.tours]
 unfold Jx Gp;rw[List.filter_flatMap];refine Xc fun j hj=>?_;have hj:=BD.1 hj;split
 next hr=>
  have hc:∀t∈Lg r j,t.c3=(at5 r j).c3:=fun t ht=>by obtain⟨n,_,rfl⟩:=AN.1 ht;exact h.arcs.it_lab (h.hl hf) hj n
  split
  next hx=>exact List.filter_eq_self.2 fun t ht=>decide_eq_true (by rw[hc t ht,hx])
  next hx=>
   exact DR.2 fun t ht=>by have:=hc t ht;simp only[decide_eq_true_eq];rw[this];exact hx
 next=>rfl
theorem label_tree (h:Aq N es lab fl r b) (hf:∀e∈es,inE N e) {x:Nat} (hx:lab[x]? =some (x:Int)):∃T,LabT es lab b x T:=by
 by_cases ah:∃i,i<r.length∧Fg r i=true∧(at5 r i).c3=(x:Int)
 ·obtain⟨i,hi,hr,ac⟩:=ah;have ab:∀j,j<r.length→Fg r j=true→(at5 r j).c3=(x:Int)→j=i:=by
   intro j hj al am;rcases CK i j with h1|h1|h1
   ·exact(h.arcs.root_uniq h1 hj hr al (by rw[ac,am])).elim
   ·exact h1.symm
   ·exact(h.arcs.root_uniq h1 hi al hr (by rw[ac,am])).elim
  have hb:Hi b x=Lg r i:=by
   rw[h.ofLab_eq hf];have:=kM (Lg r i) i (p:=fun j=>Fg r j&&decide ((at5 r j).c3=(x:Int))) (n:=r.length) (fun j hj hp=>by
    rw[D3,decide_eq_true_eq] at hp;exact ab j hj hp.1 hp.2)
   rw[if_pos ⟨hi,by rw[D3,decide_eq_true_eq];exact⟨hr,ac⟩⟩] at this;rw[←this];refine Xc fun j hj=>?_;have hj:=BD.1 hj;by_cases h1:Fg r j=true
   ·by_cases h2:(at5 r j).c3=(x:Int)
    ·have:=ab j hj h1 h2;subst this;simp[h1,h2]
    ·simp[h1,h2]
   ·simp[h1]
  have ad:=h.tw hf hi;obtain⟨T,hT⟩:=ad.trees;have ao:=hT.len;have aa:=hr;unfold Fg at aa;obtain⟨aa,_⟩:=of_decide_eq_true aa;have ae:vtA r i 0=x:=by show(at5 r i).c1.toNat=x;rw[aa,ac,AV]
  refine⟨T,?_,ad.vs_nodup (AI _) hT,?_,?_,hx⟩
  ·rw[hb];have hv:=hT.vis (x:=(x:Int)) (f:=fun n=>Dc b (Ds r i n)) (fun n hn=>by
    rw[h.vis_at hf hi hr,ac])
   rw[ae] at hv;rw[←hv,show 2*T.sz=Bz r i by omega];unfold Lg;rw[CH,List.range_eq_range'];rfl
  ·intro v;rw[hT.vs_mem v];constructor
   ·rintro⟨k,_,k2,k3,rfl⟩;refine⟨?_,fun hq=>ad.first k2 k3 (AU k) (by rw[ae];exact hq.symm)⟩;obtain⟨y,y1,_,y2,_⟩:=h.lab_at hf (Di (f:=Aw r) Dr hi (k+1));rw[h.arcs.it_lab (h.hl hf) hi,ac] at y1;unfold vtA;rw[y2,←y1]
   ·rintro⟨hv,ag⟩;obtain⟨k,hk,k1,k2⟩:=h.lab_arc hf hv ag;obtain⟨i',ai,aj,ak,hR⟩:=h.root_of hf hk;have:=ab i' ai aj (by rw[ak,k2]);subst this;obtain⟨n,hn,he⟩:=h.arcs.pos_of hi hR;have an:vtA r i' n=v:=by unfold vtA;rw[he,k1,AV]
    obtain⟨p,p1,p2,p3⟩:=ad.down_of (j:=n) oM (by rw[an,ae];exact ag);exact⟨p,oM,oM,p2,by rw[p3,an]⟩
  ·have:=hT.jo (J:=Je es) (fun k hk=>by
    refine⟨oM,edA r i k,?_,?_⟩
    ·have:=ad.mem k hk;unfold Fs at this;have:=(AK.1 this).1;rw[←h.fors.1];exact this
    ·have:=ad.ends k hk;rw[AV];exact this)
   rwa[ae] at this
 ·have hb:Hi b x=[]:=by
   rw[h.ofLab_eq hf];refine List.flatMap_eq_nil_iff.2 fun j hj=>?_;have hj:=BD.1 hj;split
   next h1=>
    split
    next h2=>exact(ah ⟨j,hj,h1,h2⟩).elim
    next=>rfl
   next=>rfl
  refine⟨.nil,by rw[hb];rfl,by simp[Fo.vs],?_,trivial,hx⟩;intro v;simp only[Fo.vs,DU,false_iff];rintro⟨hv,ag⟩;obtain⟨k,hk,k1,k2⟩:=h.lab_arc hf hv ag;obtain⟨i',ai,aj,ak,_⟩:=h.root_of hf hk;exact ah ⟨i',ai,aj,by rw[ak,k2]⟩
end Aq
def vsT (tl:List (Nat×Fo)):List T5:=tl.flatMap fun y=>⟨(y.1:Int),-1,(y.1:Int),-1,((y.2.sz+1:Nat):Int)⟩::trv y.1 0 y.1 y.2
def Cg:List (Nat×Fo)→Fo
 |[]=> .nil
 |y::tl=> .node y.1 y.2 (Cg tl)
theorem Sq (y:Nat×Fo) (tl:List (Nat×Fo)):vsT (y::tl)=⟨(y.1:Int),-1,(y.1:Int),-1,((y.2.sz+1:Nat):Int)⟩::(trv y.1 0 y.1 y.2++vsT tl):=by unfold vsT;rw[A7];rfl
theorem Nd {x:Int}:∀{T:Fo} {p:Nat} {u:Int} {e:T5},e∈trv x p u T→e.c0=x∧(p:Int)≤e.c1∧e.c1<((p+2*T.sz:Nat):Int)
 | .nil,_,_,_,h=>by simp[trv] at h
 | .node v s r,p,u,e,h=>by
  simp only[trv,AM,AS] at h;simp only[Fo.sz];rcases h with rfl|h|rfl|h
  ·refine⟨rfl,oD,oD⟩
  ·have:=Nd h;exact⟨this.1,oM,oM⟩
  ·refine⟨rfl,oD,oD⟩
  ·have:=Nd h;exact⟨this.1,oM,oM⟩
theorem bI {x:Int}:∀{T:Fo} {p:Nat} {u:Int},(trv x p u T).Pairwise fun a b=>ltO o12 a b=true
 | .nil,_,_=> .nil
 | .node v s r,p,u=>by
  simp only[trv,BF,B8,AS,AM];refine⟨?_,bI,⟨?_,bI⟩,?_⟩
  ·rintro e (h|rfl|h)<;>rw[Qi]
   ·have:=Nd h;dsimp only;omega
   ·dsimp only;omega
   ·have:=Nd h;dsimp only;omega
  ·intro e h;have:=Nd h;rw[Qi];dsimp only;omega
  ·rintro a ha e (rfl|h)<;>rw[Qi]<;>have h1:=Nd ha
   ·dsimp only;omega
   ·have:=Nd h;omega
theorem bJ:∀{tl:List (Nat×Fo)} {e:T5},e∈vsT tl→∃y∈tl,e.c0=(y.1:Int)
 |[],_,h=>by simp[vsT] at h
 |y::tl,e,h=>by
  rw[Sq] at h;simp only[AM,AS] at h;rcases h with rfl|h|h
  ·exact⟨y,AE,rfl⟩
  ·exact⟨y,AE,(Nd h).1⟩
  ·obtain⟨z,hz,he⟩:=bJ h;exact⟨z,AF _ hz,he⟩
theorem kN:∀{tl:List (Nat×Fo)},tl.Pairwise (fun a b=>a.1<b.1)→(vsT tl).Pairwise fun a b=>ltO o12 a b=true
 |[],_=> .nil
 |y::tl,h=>by
  rw[BF] at h;rw[Sq];simp only[BF,B8,AS];refine⟨?_,bI,kN h.2,?_⟩
  ·rintro e (he|he)<;>rw[Qi]
   ·have:=Nd he;dsimp only;omega
   ·obtain⟨z,hz,hq⟩:=bJ he;have:=h.1 z hz;dsimp only;omega
  ·intro a ha e he;rw[Qi];obtain⟨z,hz,hq⟩:=bJ he;have:=h.1 z hz;have:=Nd ha;omega
theorem kO {α:Type} (a:α→T5) (g:α→List T5):∀l:List α,(l.flatMap fun y=>a y::g y).Perm (l.map a++l.flatMap g)
 |[]=> .refl _
 |y::l=>by rw[A7,A7,AZ,AA,AA];exact(((kO a g l).append_left (g y)).trans (List.perm_append_comm_assoc ..)).cons _
theorem kP (b:List T5):∀{l:List Int},l.Pairwise (·<·)→(l.flatMap (Hi b)).Perm (b.filter fun t=>decide (t.c3∈l))
 |[],_=>by simp
 |y::l,h=>by
  rw[BF] at h;rw[A7];have h1:=List.filter_append_perm (fun t:T5=>decide (t.c3=y)) (b.filter fun t=>decide (t.c3∈y::l));rw[List.filter_filter,List.filter_filter] at h1;refine List.Perm.trans ?_ h1;refine List.Perm.trans ((kP b h.2).append_left _) (DD ?_);unfold Hi;congr 1
  ·refine List.filter_congr fun t _=>?_;by_cases hq:t.c3=y<;>simp[hq]
  ·refine List.filter_congr fun t _=>?_;by_cases hq:t.c3=y
   ·have:¬t.c3∈l:=fun hm=>by have:=h.1 _ hm;omega
    simp[hq] at this⊢;exact this
   ·simp[hq]
theorem bK {x:Int}:∀{T:Fo} {p u:Nat} {d:Int} {n:Nat},-1≤d→d+T.sz≤1000000000→n+T.sz≤1000000000→(Eh 0 0).all (d,(n:Int)) (trv x p u T)=Ca u d n T∧(Eh 0 0).st (d,(n:Int)) (trv x p u T)=(d,((n+T.sz:Nat):Int))
 | .nil,_,_,_,_,_,_,_=>⟨rfl,rfl⟩
 | .node v s r,p,u,d,n,h1,h2,h3=>by
  simp only[Fo.sz] at h2 h3⊢;obtain⟨a1,a2⟩:=bK (x:=x) (T:=s) (p:=p+1) (u:=v) (d:=d+1) (n:=n+1) oM oM oM;obtain⟨b1,b2⟩:=bK (x:=x) (T:=r) (p:=p+2+2*s.sz) (u:=u) (d:=d) (n:=n+1+s.sz) oM oM oM;have e1:AL .i64 (d+1)=d+1:=Ah oM;have e2:AL .i64 ((n:Int)+1)=((n+1:Nat):Int):=Ah oM;have e3:AL .i64 (((n+1:Nat):Int)-1)=(n:Int):=by rw[Ah oM];omega
  have e4:AL .i64 (d+1-1)=d:=by rw[Ah oM];omega
  have v1:¬(v:Int)= -1:=oM;have u1:¬(u:Int)= -1:=oM;have f1:(Eh 0 0).outs (d,(n:Int)) ⟨x,(p:Int),(v:Int),(u:Int),((s.sz+1:Nat):Int)⟩=[⟨(v:Int),(u:Int),(n:Int),((s.sz+1:Nat):Int),d+1⟩]:=by unfold Eh;dsimp only;rw[if_neg v1,if_neg u1,e1,e2,e3]
  have f2:(Eh 0 0).next (d,(n:Int)) ⟨x,(p:Int),(v:Int),(u:Int),((s.sz+1:Nat):Int)⟩=(d+1,((n+1:Nat):Int)):=by unfold Eh;dsimp only;rw[if_neg v1,if_neg u1,e1,e2]
  have g1:∀m q:Int,(Eh 0 0).outs (d+1,m) ⟨x,q,-1,-1,0⟩=[]:=fun m q=>rfl;have g2:∀m q:Int,(Eh 0 0).next (d+1,m) ⟨x,q,-1,-1,0⟩=(d,m):=fun m q=>by unfold Eh;dsimp only;rw[if_pos rfl,e4]
  simp only[trv,Ca,Aj.all,Aj.st,Aj.all_app,Aj.st_app,f1,f2,a1,a2,g1,g2,b1,b2,CA,AB];refine⟨trivial,?_⟩;congr 1;omega
theorem bL:∀{tl:List (Nat×Fo)} {d:Int} {n:Nat},n+(Cg tl).sz≤1000000000→(Eh 0 0).all (d,(n:Int)) (vsT tl)=Ca (-1) (-1) n (Cg tl)
 |[],_,_,_=>rfl
 |y::tl,d,n,h=>by
  simp only[Cg,Fo.sz] at h;obtain⟨a1,a2⟩:=bK (x:=(y.1:Int)) (T:=y.2) (p:=0) (u:=y.1) (d:=0) (n:=n+1) oM oM oM;have b1:=bL (tl:=tl) (d:=0) (n:=n+1+y.2.sz) oM;have e2:AL .i64 ((n:Int)+1)=((n+1:Nat):Int):=Ah oM;have e3:AL .i64 (((n+1:Nat):Int)-1)=(n:Int):=by rw[Ah oM];omega
  have v1:¬(y.1:Int)= -1:=oM;have f1:(Eh 0 0).outs (d,(n:Int)) ⟨(y.1:Int),-1,(y.1:Int),-1,((y.2.sz+1:Nat):Int)⟩=[⟨(y.1:Int),-1,(n:Int),((y.2.sz+1:Nat):Int),0⟩]:=by unfold Eh;dsimp only;rw[if_neg v1,if_pos rfl,e2,e3]
  have f2:(Eh 0 0).next (d,(n:Int)) ⟨(y.1:Int),-1,(y.1:Int),-1,((y.2.sz+1:Nat):Int)⟩=(0,((n+1:Nat):Int)):=by unfold Eh;dsimp only;rw[if_neg v1,if_pos rfl,e2]
  rw[Sq];simp only[Cg,Ca,Aj.all,Aj.all_app,f1,f2,a1,a2,b1,CA];rfl
theorem xE (x:Int):∀(l:List Int) (S:List Nat),S.Nodup→(∀v,v∈S↔l[v]? =some x)→l.count x=S.length:=by
 intro l S hn hS;have h1:S.Perm ((BE l.length).filter fun v=>l[v]? ==some x):=by
  rw[EN hn (List.nodup_range.sublist List.filter_sublist)];intro v;rw[hS,BQ,BD];constructor
  ·intro h;exact⟨(AK.1 h).1,by simp[h]⟩
  ·intro h;simpa using h.2
 rw[h1.length_eq,←List.countP_eq_length_filter];clear h1 hS hn;induction l with
 |nil=>rfl
 |cons a l ih=>
  rw[AJ,List.range_succ_eq_map,List.countP_cons,List.countP_map,List.count_cons,ih];congr 1
theorem xF {l:List (Int×Nat)} {Q:Nat→Fo→Prop} (h:∀y∈l,∃(x:Nat) (T:Fo),y=((x:Int),T.sz+1)∧Q x T):∃tl:List (Nat×Fo),l=tl.map (fun z=>((z.1:Int),z.2.sz+1))∧∀z∈tl,Q z.1 z.2:=by
 induction l with
 |nil=>exact⟨[],rfl,by simp⟩
 |cons y l ih=>
  obtain⟨tl,h1,h2⟩:=ih fun z hz=>h z (AF _ hz);obtain⟨x,T,hy,hq⟩:=h y AE;refine⟨(x,T)::tl,by rw[AZ,←h1,hy],fun z hz=>?_⟩;rcases AM.1 hz with rfl|hz
  ·exact hq
  ·exact h2 z hz
structure Ns (N:Nat) (es:List IE) (lab:List Int) (b:List T5) (tl:List (Nat×Fo)):Prop where
 up:tl.Pairwise fun a b=>a.1<b.1
 tree:∀y∈tl,LabT es lab b y.1 y.2
 all:∀v,v<N→∃y∈tl,lab[v]? =some (y.1:Int)
 len:lab.length=N
theorem Aq.tl {N:Nat} {es:List IE} {lab:List Int} {fl:List Bool} {r b:List T5} (h:Aq N es lab fl r b) (hf:∀e∈es,inE N e) (hN:N≤1000000):∃tl,Ns N es lab b tl∧Xa (Ay lab) b=vsT tl:=by
 obtain⟨l,hl,ac,ai,aj⟩:=kK (lab:=lab) (fun x hx=>by obtain⟨v,rfl,_⟩:=h.labs.mem hx;omega) (by rw[h.labs.len];exact hN);have aa:∀x:Int,x∈lab→∃v:Nat,x=(v:Int)∧v<N∧lab[v]? =some (v:Int):=fun x hx=>by
  obtain⟨i,hi,rfl⟩:=B3.1 hx;obtain⟨v,h1,h2,h3,_⟩:=h.labs.root (v:=i) (by rw[←h.labs.len];exact hi);have ak:i<N:=by rw[←h.labs.len];exact hi
  have h4:=h.labs.same (u:=v) (v:=i) oM ak h3.symm;rw[AG hi] at h1;exact⟨v,BC h1,oM,by rw[h4,AG hi,h1]⟩
 obtain⟨tl,ht,hQ⟩:=xF (l:=l) (Q:=fun x T=>LabT es lab b x T) (fun y hy=>by
  obtain⟨h1,h2⟩:=ai y hy;obtain⟨v,hv,an,ad⟩:=aa _ h1;obtain⟨T,hT⟩:=h.label_tree hf ad;refine⟨v,T,?_,hT⟩;have hc:=xE (v:Int) lab (v::T.vs) (CC.2 ⟨fun hm=>((hT.vs v).1 hm).2 rfl,hT.nd⟩) (fun w=>by
   rw[AM,hT.vs w];constructor
   ·rintro(rfl|hw)
    ·exact ad
    ·exact hw.1
   ·intro hw;by_cases hq:w=v
    ·exact .inl hq
    ·exact .inr ⟨hw,hq⟩)
  rw[AJ,T.vs_len] at hc;refine Prod.ext hv ?_;rw[h2,hv,hc])
 have ab:tl.Pairwise fun a b=>a.1<b.1:=by rw[ht,BA] at ac;exact ac.imp fun {a b} ae=>by simpa using ae
 have hO:Ns N es lab b tl:=by
  refine⟨ab,hQ,fun v hv=>?_,h.labs.len⟩;have ag:v<lab.length:=by rw[h.labs.len];exact hv
  obtain⟨x,hx,he⟩:=aj lab[v] (List.getElem_mem ag);rw[ht] at hx;obtain⟨z,hz,rfl⟩:=AN.1 hx;exact⟨z,hz,by rw[AG ag,←he]⟩
 refine⟨tl,hO,?_⟩;have al:vsT tl=tl.flatMap fun y=>(⟨(y.1:Int),-1,(y.1:Int),-1,((y.2.sz+1:Nat):Int)⟩:T5)::(Hi b y.1).map (Dc b):=by unfold vsT;refine Xc fun y hy=>?_;rw[(hQ y hy).vis]
 refine srtOf ?_ (kN ab);rw[al];refine(kO _ _ tl).trans ?_;rw[hl,ht,CH];refine List.Perm.append (DD (CM fun y _=>rfl)) ?_;refine List.Perm.trans ?_ (h.turns_perm hf hN).symm;rw[show(tl.flatMap fun y=>(Hi b y.1).map (Dc b))=((tl.map fun y=>(y.1:Int)).flatMap (Hi b)).map (Dc b) by rw[List.map_flatMap,List.flatMap_map]];refine List.Perm.map _ ((kP b (by rw[BA];exact ab.imp fun {a b} ae=>by omega)).trans (DD (List.filter_eq_self.2 fun t am=>?_)));obtain⟨i,n,hi,hr,hn,rfl⟩:=h.b_arc am;obtain⟨y,y1,y2,y3,_⟩:=h.lab_at hf (Di (f:=Aw r) Dr hi n);obtain⟨_,_,c1,c2,_⟩:=h.arc_g hf (Di (f:=Aw r) Dr hi n);obtain⟨z,hz,ah⟩:=hO.all (at5 r (itF (Aw r) n i)).c1.toNat oM;refine decide_eq_true (AN.2 ⟨z,hz,?_⟩);show(z.1:Int)=(at5 r (itF (Aw r) n i)).c3;rw[y1];rw[y3] at ah;exact(BC ah).symm
namespace Ns
variable {N:Nat} {es:List IE} {lab:List Int} {b:List T5}
theorem grove_mem:∀{tl:List (Nat×Fo)},(∀y∈tl,LabT es lab b y.1 y.2)→∀v,v∈(Cg tl).vs↔∃y∈tl,lab[v]? =some (y.1:Int)
 |[],_,v=>by simp[Cg,Fo.vs]
 |y::tl,h,v=>by
  have hy:=h y AE;simp only[Cg,Fo.vs,AM,AS,grove_mem (fun z hz=>h z (AF _ hz)) v,hy.vs v];constructor
  ·rintro(rfl|h1|h1)
   ·exact⟨y,.inl rfl,hy.root⟩
   ·exact⟨y,.inl rfl,h1.1⟩
   ·obtain⟨z,hz,h1⟩:=h1;exact⟨z,.inr hz,h1⟩
  ·rintro⟨z,rfl|hz,h1⟩
   ·by_cases hq:v=z.1
    ·exact .inl hq
    ·exact .inr (.inl ⟨h1,hq⟩)
   ·exact .inr (.inr ⟨z,hz,h1⟩)
theorem grove_nodup:∀{tl:List (Nat×Fo)},(∀y∈tl,LabT es lab b y.1 y.2)→tl.Pairwise (fun a b=>a.1<b.1)→(Cg tl).vs.Nodup
 |[],_,_=>by simp[Cg,Fo.vs]
 |y::tl,h,hp=>by
  have hy:=h y AE;rw[BF] at hp;have ht:=fun z hz=>h z (AF y hz);have aa:∀v,lab[v]? =some (y.1:Int)→v∉(Cg tl).vs:=fun v hv hm=>by obtain⟨z,hz,hq⟩:=(grove_mem ht v).1 hm;have:=BC (hv.symm.trans hq);have:=hp.1 z hz;omega
  simp only[Cg,Fo.vs,CC,AS,B9,not_or];refine⟨⟨fun hm=>((hy.vs _).1 hm).2 rfl,aa _ hy.root⟩,hy.nd,grove_nodup ht hp.2,?_⟩;intro a ha c hc ab;subst ab;exact aa a ((hy.vs a).1 ha).1 hc
def Jr (es:List IE) (lab:List Int) (u:Int) (v:Nat):Prop:=Je es u v∨(u= -1∧lab[v]? =some (v:Int))
theorem jo_mono {J J':Int→Nat→Prop} (hJ:∀u v,J u v→J' u v):∀{T:Fo} {u:Int},T.Jo J u→T.Jo J' u
 | .nil,_,_=>trivial
 | .node v s r,u,h=>⟨hJ _ _ h.1,jo_mono hJ h.2.1,jo_mono hJ h.2.2⟩
theorem grove_jo:∀{tl:List (Nat×Fo)},(∀y∈tl,LabT es lab b y.1 y.2)→(Cg tl).Jo (Jr es lab) (-1)
 |[],_=>trivial
 |y::tl,h=>⟨.inr ⟨rfl,(h y AE).root⟩,jo_mono (fun _ _=> .inl) (h y AE).jo,grove_jo fun z hz=>h z (AF _ hz)⟩
variable {tl:List (Nat×Fo)}
theorem vs_perm (h:Ns N es lab b tl):(Cg tl).vs.Perm (BE N):=by
 rw[EN (grove_nodup h.tree h.up) List.nodup_range];intro v;rw[grove_mem h.tree,BD];constructor
 ·rintro⟨y,_,hv⟩;rw[←h.len];exact(AK.1 hv).1
 ·exact h.all v
theorem sz (h:Ns N es lab b tl):(Cg tl).sz=N:=by rw[←(Cg tl).vs_len,h.vs_perm.length_eq,List.length_range]
end Ns
structure Am (N:Nat) (es:List IE) (lab:List Int) (b:List T5) (tl:List (Nat×Fo)) (l:List T5):Prop where
 tlo:Ns N es lab b tl
 perm:l.Perm (Ca (-1) (-1) 0 (Cg tl))
 len:l.length=N
 at_:∀v,v<N→(at5 l v).c0=(v:Int)
theorem Aq.tab {N:Nat} {es:List IE} {lab:List Int} {fl:List Bool} {r b:List T5} (h:Aq N es lab fl r b) (hf:∀e∈es,inE N e) (hN:N≤1000000):∃tl,Xa (Ay lab) b=vsT tl∧Am N es lab b tl (Nc (Ay lab) b):=by
 obtain⟨tl,hO,hv⟩:=h.tl hf hN;have ad:=hO.sz;have aa:(Eh 0 0).all (0,0) (Xa (Ay lab) b)=Ca (-1) (-1) 0 (Cg tl):=by rw[hv];exact bL (d:=0) (n:=0) oM
 have hp:(Nc (Ay lab) b).Perm (Ca (-1) (-1) 0 (Cg tl)):=by unfold Nc;rw[aa];exact Bs _
 have ab:(Nc (Ay lab) b).length=N:=by rw[hp.length_eq,bA,ad]
 refine⟨tl,hv,hO,hp,ab,fun v ae=>?_⟩;have h1:(Nc (Ay lab) b).map (·.c0)=(BE N).map fun (v:Nat)=>(v:Int):=by
  refine List.Perm.eq_of_pairwise (le:=fun x y:Int=>x≤y) (fun a b _ _ h1 h2=>by omega) ?_ ?_ ?_
  ·rw[BA];unfold Nc;refine(Kz (Ee o1) false _).imp fun {a b} ac=>?_;have h2:ltO o1 b a=false:=by simpa using ac
   have h3:¬(ltO o1 b a=true):=by rw[h2];decide
   rw[Ow] at h3;omega
  ·rw[BA];exact D7.imp fun {a b} ac=>by omega
  ·refine(hp.map _).trans ?_;rw[Qm];exact hO.vs_perm.map _
 have h2:=congrArg (·[v]?) h1;rw[BM,BM,CO ae,Dx oM] at h2;exact BC h2
namespace Am
variable {N:Nat} {es:List IE} {lab:List Int} {b:List T5} {tl:List (Nat×Fo)} {l:List T5}
theorem mem (h:Am N es lab b tl l) {v:Nat} (hv:v<N):at5 l v∈Ca (-1) (-1) 0 (Cg tl):=h.perm.mem_iff.1 (Ws (by rw[h.len];exact hv))
theorem of (h:Am N es lab b tl l) {e:T5} (he:e∈Ca (-1) (-1) 0 (Cg tl)):∃v,v<N∧e.c0=(v:Int)∧at5 l v=e:=by obtain⟨v,hv,hq⟩:=Wt (h.perm.mem_iff.2 he);rw[h.len] at hv;exact⟨v,hv,by rw[←hq,h.at_ v hv],hq⟩
theorem nodup (h:Am N es lab b tl l):(Cg tl).vs.Nodup:=Ns.grove_nodup h.tlo.tree h.tlo.up
theorem bnd (h:Am N es lab b tl l) {v:Nat} (hv:v<N):0≤(at5 l v).c2∧(at5 l v).c2<N∧1≤(at5 l v).c3∧(at5 l v).c2+(at5 l v).c3≤N∧0≤(at5 l v).c4∧(at5 l v).c4<N:=by have:=Nb (h.mem hv);have:=h.tlo.sz;omega
theorem par (h:Am N es lab b tl l) {v:Nat} (hv:v<N):((at5 l v).c1= -1∧(at5 l v).c4=0∧lab[v]? =some (v:Int))∨ ∃p:Nat,p<N∧(at5 l v).c1=(p:Int)∧(at5 l v).c4=(at5 l p).c4+1∧(at5 l p).c2<(at5 l v).c2∧(at5 l v).c2+(at5 l v).c3≤(at5 l p).c2+(at5 l p).c3∧Jn (gE es) (fun i=>i<es.length) p v:=by
 have hm:=h.mem hv;have hj:=bB (Ns.grove_jo h.tlo.tree) hm;rw[h.at_ v hv,AV] at hj;rcases Wx hm with⟨h1,h2⟩|⟨e',h1,h2,h3,h4,h5⟩
 ·refine .inl ⟨h1,oM,?_⟩;rcases hj with hj|hj
  ·have:=hj.1;omega
  ·exact hj.2
 ·obtain⟨p,hp,hq,he⟩:=h.of h1;subst he;refine .inr ⟨p,hp,oM,h3,h4,h5,?_⟩;rcases hj with hj|hj
  ·have:=hj.2;rwa[show(at5 l v).c1.toNat=p by omega] at this
  ·omega
theorem num_inj (h:Am N es lab b tl l) {u v:Nat} (hu:u<N) (hv:v<N) (he:(at5 l u).c2=(at5 l v).c2):u=v:=by
 have hn:((Ca (-1) (-1) 0 (Cg tl)).map (·.c2)).Nodup:=by rw[Ww];refine List.Pairwise.map _ (fun a b aa=>?_) (List.nodup_range' (step:=1));exact fun hq=>aa oM
 have:=Xb hn (h.mem hu) (h.mem hv) he;have:=congrArg T5.c0 this;rw[h.at_ u hu,h.at_ v hv] at this;omega
theorem way (h:Am N es lab b tl l) {v:Nat} (hv:v<N):∃c,(at5 l v,c)∈chF (-1) [] (-1) 0 (Cg tl)∧Way (fun x=>(at5 l x.toNat).c1) v c∧(c.length:Int)=(at5 l v).c4+1∧∀u,u<N→((u:Int)∈c↔(at5 l u).c2≤(at5 l v).c2∧(at5 l v).c2<(at5 l u).c2+(at5 l u).c3):=by
 obtain⟨c,hc⟩:=chF_of [] (h.mem hv);refine⟨c,hc,?_,?_,?_⟩
 ·have:=bD (par:=fun x=>(at5 l x.toNat).c1) (fun e he=>by
   obtain⟨w,hw,hq,he⟩:=h.of he;rw[hq,AV,he]) (.top oA18) _ hc
  rw[h.at_ v hv] at this;exact this
 ·have:=(Qn hc).2.2;simp only[List.length_nil] at this;omega
 ·intro u hu;have:=bE h.nodup oA19 _ hc _ (h.mem hu);rw[h.at_ u hu] at this;exact this
end Am
theorem Am.below {N:Nat} {es:List IE} {lab:List Int} {b:List T5} {tl:List (Nat×Fo)} {l:List T5} (h:Am N es lab b tl l) {v:Nat} (hv:v<N):∃c,Way (fun x=>(at5 l x.toNat).c1) v c∧c.length≤N∧(∀w∈c,w<(N:Int))∧∀u,u<N→((u:Int)∈c↔(at5 l u).c2≤(at5 l v).c2∧(at5 l v).c2<(at5 l u).c2+(at5 l u).c3):=by
 obtain⟨c,h1,h2,h3,h4⟩:=h.way hv;have hb:=h.bnd hv;refine⟨c,h2,oM,fun w hw=>?_,h4⟩;rcases(Qn h1).2.1 w hw with h5|⟨y,hy,rfl⟩
 ·simp at h5
 ·have:=BD.1 (h.tlo.vs_perm.mem_iff.1 hy);omega
theorem xG {N:Nat} {es:List IE} {lab:List Int} {b:List T5} {tl:List (Nat×Fo)} {l:List T5} (hT:Am N es lab b tl l) {v:Nat} (hv:v<N) (f:T5→Int):Jc (fun e=>decide (e.c0=(v:Int))) f l=f (at5 l v):=by
 have hl:=hT.len;have e1:l=l.take v++at5 l v::l.drop (v+1):=by have:=List.drop_eq_getElem_cons (l:=l) (i:=v) oM;have h2:=Dx (r:=l) (k:=v) oM;rw[AG oM] at h2;rw[←BC h2,←this,List.take_append_drop]
 have aa:∀i,i<N→i≠v→decide ((at5 l i).c0=(v:Int))=false:=fun i hi ab=>decide_eq_false (by rw[hT.at_ i hi];omega);rw[e1,kE,Pe,bC (l:=l.take v),bC (l:=l.drop (v+1)),decide_eq_true (hT.at_ v hv),if_pos rfl]
 ·rw[←e1];omega
 ·intro e he;obtain⟨i,hi,rfl⟩:=B3.1 he;rw[List.length_drop] at hi;have h2:=Dx (r:=l) (k:=v+1+i) oM;rw[AG oM] at h2;rw[List.getElem_drop,BC h2];exact aa _ oM oM
 ·intro e he;obtain⟨i,hi,rfl⟩:=B3.1 he;rw[BJ] at hi;have h2:=Dx (r:=l) (k:=i) oM;rw[AG oM] at h2;rw[List.getElem_take,BC h2];exact aa _ oM oM
def Ko (b:List T5) (i:Nat):Bool:=(b.take i).any fun t=>decide (t.c2=(at5 b i).c2)
namespace Aq
variable {N:Nat} {es:List IE} {lab:List Int} {fl:List Bool} {r b:List T5}
theorem b_order (h:Aq N es lab fl r b) (hf:∀e∈es,inE N e):b.Pairwise fun a c=>a.c3=c.c3→a.c4<c.c4:=by
 rw[h.tours];unfold Jx Gp;rw[List.pairwise_flatMap];refine⟨fun i hi=>?_,?_⟩
 ·split
  ·unfold Lg;rw[BA];exact D7.imp fun {a c} ab _=>by show((a:Nat):Int)<((c:Nat):Int);omega
  ·exact .nil
 ·refine EC (fun {i j} hi hj aa=>?_) D7;have hi:=BD.1 hi;have hj:=BD.1 hj;intro a ha c hc he;split at ha
  next hri=>
   split at hc
   next hrj=>
    obtain⟨n,_,rfl⟩:=AN.1 ha;obtain⟨m,_,rfl⟩:=AN.1 hc;refine(h.arcs.root_uniq aa hj hri hrj ?_).elim;rw[←h.arcs.it_lab (h.hl hf) hi n,←h.arcs.it_lab (h.hl hf) hj m];exact he
   next=>simp at hc
  next=>simp at ha
theorem vis_seen (h:Aq N es lab fl r b) (hf:∀e∈es,inE N e) {p:Nat} {t:T5} (hp:b[p]? =some t):((Dc b t).c2= -1∧(Ko b p=true∨t.c2=t.c3))∨((Dc b t).c2=t.c2∧(Dc b t).c3=t.c1∧Ko b p=false∧t.c2≠t.c3∧t.c2≠-1):=by
 have ae:=(AK.1 hp).1;have ak:at5 b p=t:=by have:=Dx ae;rw[hp] at this;exact(BC this).symm
 obtain⟨i,n,hi,hr,hn,rfl⟩:=h.b_arc (AY hp);have ah:=h.tw hf hi;have aa:=hr;unfold Fg at aa;obtain⟨aa,_⟩:=of_decide_eq_true aa;have e3:∀{i:Nat},i<r.length→∀m,(Ds r i m).c3=(at5 r i).c3:=fun hi m=>h.arcs.it_lab (h.hl hf) hi m;have e2:∀{i:Nat},i<r.length→∀m,(Ds r i m).c2=(vtA r i (m+1):Int):=fun {i} hi m=>by obtain⟨_,_,_,_,c2,_⟩:=h.arc_g hf (Di (f:=Aw r) Dr hi m);rw[h.vt_succ hi];show(at5 r (itF (Aw r) m i)).c2=_;omega
 have e1:(Ds r i n).c1=(vtA r i n:Int):=by obtain⟨_,_,c1,_⟩:=h.arc_g hf (Di (f:=Aw r) Dr hi n);unfold vtA;show(at5 r (itF (Aw r) n i)).c1=_;omega
 have al:(vtA r i 0:Int)=(at5 r i).c3:=by obtain⟨_,_,c1,_⟩:=h.arc_g hf hi;show((at5 r i).c1.toNat:Int)=_;omega
 have hl:∀{i:Nat} (m:Nat),i<r.length→∃x:Nat,(at5 r i).c3=x∧lab[vtA r i m]? =some (x:Int):=fun {i} m hi=>by obtain⟨y,y1,_,y2,_⟩:=h.lab_at hf (Di (f:=Aw r) Dr hi m);rw[h.arcs.it_lab (h.hl hf) hi] at y1;exact⟨y,y1,y2⟩
 have ag:=A9.1 (h.b_order hf);have ai:b[p]=Ds r i n:=by have:=AG ae;rw[hp] at this;exact(BC this).symm
 rw[h.vis_at hf hi hr];by_cases hd:n<Hg r i n
 ·right;rw[if_pos hd];refine⟨(e2 hi n).symm,e1.symm,?_,?_,by rw[e2 hi];omega⟩
  ·unfold Ko;rw[List.any_eq_false];intro u hu;obtain⟨q,hq,ab⟩:=B3.1 hu;rw[BJ] at hq;rw[List.getElem_take] at ab;simp only[decide_eq_true_eq];intro hc;rw[ak] at hc;obtain⟨i',n',aj,am,av,rfl⟩:=h.b_arc (List.mem_of_mem_take hu);rw[e2 hi,e2 aj] at hc;have an:vtA r i' (n'+1)=vtA r i (n+1):=oM;obtain⟨x,x1,x2⟩:=hl (n'+1) aj;obtain⟨y,y1,y2⟩:=hl (n+1) hi;rw[an,y2] at x2;have ao:=BC x2;have ac:(at5 r i').c3=(at5 r i).c3:=by rw[x1,y1,ao]
   have aq:i'=i:=by
    rcases CK i' i with h1|h1|h1
    ·exact(h.arcs.root_uniq h1 hi am hr ac).elim
    ·exact h1
    ·exact(h.arcs.root_uniq h1 aj hr am ac.symm).elim
   subst aq;have h1:=ag q p oM ae oM;rw[ab,ai,e3 hi,e3 hi] at h1;have h2:((n':Nat):Int)<((n:Nat):Int):=h1 rfl;exact ah.first hn hd (j:=n'+1) oM an
  ·rw[e2 hi,e3 hi,←al];intro hq;exact ah.first hn hd (AU n) oM
 ·left;rw[if_neg hd];refine⟨rfl,?_⟩;obtain⟨j,hj,ad⟩:=ah.again hn hd
  match j,hj,ad with
  |0,hj,ad=>
   right;rw[e2 hi,e3 hi,←al,ad]
  |j+1,hj,ad=>
   left;unfold Ko;rw[List.any_eq_true];refine⟨Ds r i j,?_,decide_eq_true ?_⟩
   ·obtain⟨q,hq,ab⟩:=B3.1 (h.arc_b hi hr (show j<Bz r i by omega));have au:q<p:=by
     rcases CK q p with h1|h1|h1
     ·exact h1
     ·exfalso;subst h1;rw[ai] at ab;have h2:((n:Nat):Int)=((j:Nat):Int):=congrArg T5.c4 ab;omega
     ·exfalso;have h2:=ag p q ae hq h1;rw[ab,ai,e3 hi,e3 hi] at h2;have h3:((n:Nat):Int)<((j:Nat):Int):=h2 rfl;omega
    refine AY (i:=q) ?_;rw[List.getElem?_take,if_pos au,AG hq,ab]
   ·rw[ak,e2 hi,e2 hi,ad]
end Aq
def Eu (P:List T5):Nat:=((Eh 0 0).all (0,0) P).length
theorem xH {P:List T5} {v:T5} (h:v.c2= -1):Eu (P++[v])=Eu P:=by
 unfold Eu;rw[Aj.all_app,AH];simp only[Aj.all];have:(Eh 0 0).outs ((Eh 0 0).st (0,0) P) v=[]:=by unfold Eh;dsimp only;rw[if_pos h]
 rw[this];rfl
theorem kQ {P Q:List T5} {v:T5} (h:v.c2≠-1):Eu (P++[v])=Eu P+1∧∃e,((Eh 0 0).all (0,0) (P++v::Q))[Eu P]? =some e∧e.c0=v.c2∧e.c1=v.c3:=by
 have ho:∃e,(Eh 0 0).outs ((Eh 0 0).st (0,0) P) v=[e]∧e.c0=v.c2∧e.c1=v.c3:=by unfold Eh;dsimp only;rw[if_neg h];exact⟨_,rfl,rfl,rfl⟩
 obtain⟨e,he,h1,h2⟩:=ho;refine⟨?_,e,?_,h1,h2⟩
 ·unfold Eu;rw[Aj.all_app,AH];simp only[Aj.all];rw[he];rfl
 ·unfold Eu;rw[Aj.all_app,List.getElem?_append_right (AI _),Nat.sub_self];simp only[Aj.all];rw[he];rfl
structure Wrt (N:Nat) (L:List T5) (k:Nat) (o:List T5):Prop where
 len:o.length=N
 got:∀j e,j<k→L[j]? =some e→o[e.c0.toNat]? =some {e with c3:=0}
def Ew (tl:List (Nat×Fo)):List T5:=Ca (-1) (-1) 0 (Cg tl)
namespace Am
variable {N:Nat} {es:List IE} {lab:List Int} {b:List T5} {tl:List (Nat×Fo)} {l:List T5}
theorem tabL_len (h:Am N es lab b tl l):(Ew tl).length=N:=by unfold Ew;rw[bA,h.tlo.sz]
theorem tab_c2 {k:Nat} {e:T5} (hk:(Ew tl)[k]? =some e):e.c2=(k:Int):=by
 have h1:=congrArg (·[k]?) (Ww (Cg tl) (-1) (-1) 0);unfold Ew at hk;simp only[BM,hk,DL] at h1;have aa:k<(Cg tl).sz:=by rw[←bA (Cg tl) (-1) (-1) 0];exact(AK.1 hk).1
 rw[List.getElem?_range' oM] at h1;simp only[DL,BG] at h1;omega
theorem entry (h:Am N es lab b tl l) {k:Nat} {e:T5} (hk:(Ew tl)[k]? =some e):k<N∧e.c2=(k:Int)∧∃v,v<N∧e.c0=(v:Int)∧at5 l v=e∧((e.c1= -1∧e.c4=0)∨∃j e',j<k∧(Ew tl)[j]? =some e'∧e'.c0=e.c1∧e.c4=e'.c4+1):=by
 have aa:k<N:=by rw[←h.tabL_len];exact(AK.1 hk).1
 have hm:=AY hk;have hc:=tab_c2 hk;obtain⟨v,hv,h1,h2⟩:=h.of hm;refine⟨aa,hc,v,hv,h1,h2,?_⟩;rcases Wx hm with⟨h3,h4⟩|⟨e',h3,h4,h5,h6,_⟩
 ·exact .inl ⟨h3,oM⟩
 ·obtain⟨j,hj⟩:=CZ.1 h3;have ab:=tab_c2 (tl:=tl) hj;exact .inr ⟨j,e',oM,hj,h4,h5⟩
theorem c0inj (h:Am N es lab b tl l) {j k:Nat} {e e':T5} (hj:(Ew tl)[j]? =some e') (hk:(Ew tl)[k]? =some e) (hq:e'.c0=e.c0):j=k:=by
 obtain⟨_,c1,v,_,v1,v2,_⟩:=h.entry hj;obtain⟨_,d1,w,_,w1,w2,_⟩:=h.entry hk;obtain rfl:v=w:=by omega
 rw[v2] at w2;subst w2;omega
theorem wstart (N:Nat) (tl:List (Nat×Fo)):Wrt N (Ew tl) 0 (BT N T5.zero):=⟨by simp,fun j e hj=>by omega⟩
theorem wstep (h:Am N es lab b tl l) {k:Nat} {o:List T5} {e:T5} (hw:Wrt N (Ew tl) k o) (hk:(Ew tl)[k]? =some e):Wrt N (Ew tl) (k+1) (o.set e.c0.toNat {e with c3:=0}):=by
 obtain⟨_,_,v,hv,h1,_⟩:=h.entry hk;refine⟨by rw[DS];exact hw.len,fun j e' hj aa=>?_⟩;by_cases ab:j=k
 ·subst ab;rw[hk] at aa;obtain rfl:=BC aa;rw[DI (by rw[hw.len];omega)]
 ·have ac:e.c0.toNat≠e'.c0.toNat:=fun hq=>by obtain⟨_,_,w,_,w1,_⟩:=h.entry aa;rw[h1,w1,AV,AV] at hq;exact ab (h.c0inj aa hk (by rw[h1,w1,hq]))
  rw[CQ ac];exact hw.got j e' oM aa
def outC (N:Nat) (l:List T5) (dn:List Int):List T5:=(BE N).map fun w=>{at5 l w with c3:=(dn.count (w:Int):Int)}
theorem outC_get {dn:List Int} {v:Nat} (hv:v<N):(outC N l dn)[v]? =some {at5 l v with c3:=(dn.count (v:Int):Int)}:=by unfold outC;rw[BM,CO hv];rfl
theorem wend (h:Am N es lab b tl l) {o:List T5} (hw:Wrt N (Ew tl) N o):o=outC N l []:=by
 apply DG;intro v;by_cases hv:v<N
 ·rw[outC_get hv];obtain⟨j,hj⟩:=CZ.1 (h.mem hv);obtain⟨aa,_⟩:=h.entry hj;have:=hw.got j _ aa hj;have h0:=h.at_ v hv;rw[show(at5 l v).c0.toNat=v by omega] at this;exact this
 ·rw[BY (by rw[hw.len];omega),BY (by unfold outC;simp;omega)]
theorem outC_set {dn:List Int} {v:Nat} (hv:v<N) {x:Int} (hx:x=(dn.count (v:Int):Int)+1):(outC N l dn).set v {at5 l v with c3:=x}=outC N l ((v:Int)::dn):=by
 apply DG;intro w;by_cases hw:w<N
 ·rw[outC_get hw];by_cases hq:v=w
  ·subst hq;rw[DI (by unfold outC;simpa using hv),List.count_cons_self,hx];congr 1
  ·rw[CQ hq,outC_get hw,List.count_cons_of_ne oM]
 ·rw[BY (by rw[DS];unfold outC;simp;omega),BY (by unfold outC;simp;omega)]
def wayF (tl:List (Nat×Fo)) (v:Nat):List Int:=(((chF (-1) [] (-1) 0 (Cg tl)).find? fun x=>decide (x.1.c0=(v:Int))).map (·.2)).getD []
theorem chF_nd:∀{T:Fo} {u:Int} {up:List Int} {d:Int} {n:Nat},T.vs.Nodup→(∀v∈T.vs,(v:Int)∉up)→up.Nodup→∀x∈chF u up d n T,x.2.Nodup
 | .nil,_,_,_,_,_,_,_,x,h=>by simp[chF] at h
 | .node v s r,u,up,d,n,hn,hu,hup,x,h=>by
  simp only[Fo.vs,CC,AS,B9,not_or] at hn;obtain⟨⟨ab,ae⟩,ac,ad,_⟩:=hn;simp only[Fo.vs,AM,AS] at hu;simp only[chF,AM,AS] at h;have aa:((v:Int)::up).Nodup:=CC.2 ⟨hu v (.inl rfl),hup⟩;rcases h with rfl|h|h
  ·exact aa
  ·refine chF_nd ac (fun y hy hq=>?_) aa x h;rcases AM.1 hq with h1|h1
   ·exact ab (by rw[show v=y by omega];exact hy)
   ·exact hu y (.inr (.inl hy)) h1
  ·exact chF_nd ad (fun y hy=>hu y (.inr (.inr hy))) hup x h
theorem way_mem (h:Am N es lab b tl l) {v:Nat} (hv:v<N):(at5 l v,wayF tl v)∈chF (-1) [] (-1) 0 (Cg tl):=by
 obtain⟨c,hc,_⟩:=h.way hv;unfold wayF;cases hf:(chF (-1) [] (-1) 0 (Cg tl)).find? fun x=>decide (x.1.c0=(v:Int)) with
 |none=>
  rw[DY] at hf;exact(hf _ hc (by simp[h.at_ v hv])).elim
 |some x=>
  have h1:x.1.c0=(v:Int):=by simpa using List.find?_some hf
  have h2:=DC hf;obtain⟨w,hw,h3,h4⟩:=h.of (Wy h2);obtain rfl:w=v:=by omega
  rw[h4];exact h2
theorem ch_inj (h:Am N es lab b tl l) {x y:T5×List Int} (hx:x∈chF (-1) [] (-1) 0 (Cg tl)) (hy:y∈chF (-1) [] (-1) 0 (Cg tl)) (he:x.1.c0=y.1.c0):x=y:=by
 have hn:((chF (-1) [] (-1) 0 (Cg tl)).map fun x=>x.1.c0).Nodup:=by have h1:=congrArg (List.map fun t:T5=>t.c0) (Sl (Cg tl) (-1) [] (-1) 0);rw[Qm,CH] at h1;rw[show(fun x:T5×List Int=>x.1.c0)=(fun t:T5=>t.c0)∘(fun x:T5×List Int=>x.1) from rfl,h1];exact List.Pairwise.map _ (fun a c aa=>fun hq=>aa oM) h.nodup
 exact Xb hn hx hy he
theorem way_is (h:Am N es lab b tl l) {v:Nat} (hv:v<N):Way (fun x=>(at5 l x.toNat).c1) v (wayF tl v)∧(wayF tl v).length≤N∧(∀w∈wayF tl v,w<(N:Int))∧(wayF tl v).Nodup:=by
 obtain⟨c,h1,h2,h3,_⟩:=h.way hv;have h5:=h.ch_inj h1 (h.way_mem hv) rfl;have hb:=h.bnd hv;obtain rfl:c=wayF tl v:=congrArg Prod.snd h5;refine⟨h2,oM,fun w hw=>?_,chF_nd h.nodup oA19 .nil _ h1⟩;rcases(Qn h1).2.1 w hw with h5|⟨y,hy,rfl⟩
 ·simp at h5
 ·have:=BD.1 (h.tlo.vs_perm.mem_iff.1 hy);omega
theorem count_flat {α:Type} {f:α→List Int} (w:Int):∀{l:List α},(∀x∈l,(f x).Nodup)→(l.flatMap f).count w=l.countP fun x=>decide (w∈f x)
 |[],_=>rfl
 |x::l,h=>by
  have h1:=h x AE;rw[A7,A8,List.countP_cons,count_flat w fun y hy=>h y (AF _ hy)];by_cases hw:w∈f x
  ·rw[h1.count,if_pos hw];simp[hw];omega
  ·rw[h1.count,if_neg hw];simp[hw]
theorem way_count (h:Am N es lab b tl l) {v:Nat} (hv:v<N):((((BE N).flatMap (wayF tl)).count (v:Int):Nat):Int)=(at5 l v).c3:=by
 have hp:(chF (-1) [] (-1) 0 (Cg tl)).Perm ((BE N).map fun v=>(at5 l v,wayF tl v)):=by
  have hn:(chF (-1) [] (-1) 0 (Cg tl)).Nodup:=by
   have:((chF (-1) [] (-1) 0 (Cg tl)).map fun x=>x.1.c0).Nodup:=by have h1:=congrArg (List.map fun t:T5=>t.c0) (Sl (Cg tl) (-1) [] (-1) 0);rw[Qm,CH] at h1;rw[show(fun x:T5×List Int=>x.1.c0)=(fun t:T5=>t.c0)∘(fun x:T5×List Int=>x.1) from rfl,h1];exact List.Pairwise.map _ (fun a c aa=>fun hq=>aa oM) h.nodup
   exact(BA.1 this).imp fun {a c} aa=>fun hq=>aa (by rw[hq])
  have ab:((BE N).map fun v=>(at5 l v,wayF tl v)).Nodup:=by refine BA.2 (EC (fun {a c} ha hc aa=>?_) List.nodup_range);intro hq;have h1:=congrArg (fun x:T5×List Int=>x.1.c0) hq;dsimp only at h1;rw[h.at_ a (BD.1 ha),h.at_ c (BD.1 hc)] at h1;exact aa oM
  rw[EN hn ab];intro x;rw[AN];constructor
  ·intro hx;obtain⟨w,hw,h3,_⟩:=h.of (Wy hx);exact⟨w,BD.2 hw,h.ch_inj (h.way_mem hw) hx (by rw[h.at_ w hw,h3])⟩
  ·rintro⟨w,hw,rfl⟩;exact h.way_mem (BD.1 hw)
 rw[count_flat _ fun x hx=>(h.way_is (BD.1 hx)).2.2.2];have h1:=bF (v:Int) (T:=Cg tl) (u:= -1) (up:=[]) (d:= -1) (n:=0) h.nodup;rw[if_neg oA19,←xA _ _ h.perm,xG h hv] at h1;rw[←h1,hp.countP_eq,List.countP_map];rfl
theorem outC_end (h:Am N es lab b tl l) {dn:List Int} (hd:dn.Perm ((BE N).flatMap (wayF tl))):outC N l dn=l:=by
 apply DG;intro v;by_cases hv:v<N
 ·rw[outC_get hv,hd.count_eq,h.way_count hv,Dx (by rw[h.len];exact hv)]
 ·rw[BY (by unfold outC;simp;omega),BY (by rw[h.len];omega)]
theorem flat_le (f:Nat→List Int) (m:Nat):∀n,(∀v,v<n→(f v).length≤m)→((BE n).flatMap f).length≤n*m
 |0,_=>by simp
 |n+1,h=>by have h1:=h n (Nat.lt_succ_self n);have h2:=flat_le f m n fun v hv=>h v oM;rw[D2,CJ,AH,BH];simp only[A7,List.flatMap_nil,AQ];omega
end Am
theorem Ud {es:List IE} {fl:List Bool} {t:T5}:t∈Ba (edT es) fl↔∃(i:Nat) (e:IE),es[i]? =some e∧fl[i]? =some true∧t=⟨(i:Int),e.1,e.2,0,0⟩:=by
 unfold Ba;constructor
 ·intro h;obtain⟨⟨u,b⟩,hx,he⟩:=List.mem_filterMap.1 h;obtain⟨i,hi⟩:=CZ.1 hx;rw[D8] at hi;obtain⟨h1,h2⟩:=hi;dsimp only at he h1 h2;split at he
  case isTrue hb=>
   subst hb;have hl:=(AK.1 h1).1;rw[Jy] at hl;have aa:es[i]? =some es[i]:=AG hl;rw[Ma aa] at h1;obtain rfl:=BC h1;exact⟨i,es[i],aa,h2,(BC he).symm⟩
  case isFalse=>cases he
 ·rintro⟨i,e,h1,h2,rfl⟩;refine List.mem_filterMap.2 ⟨(⟨(i:Int),e.1,e.2,0,0⟩,true),?_,rfl⟩;refine AY (i:=i) ?_;rw[D8];exact⟨Ma h1,h2⟩
theorem kR (es:List IE) (fl:List Bool):(Ba (edT es) fl).Pairwise fun a c=>a.c0<c.c0:=by
 have h1:((edT es).map (·.c0)).Pairwise (·<·):=by rw[BA];exact Pd es
 have h2:=h1.sublist (Ql (edT es) fl);rwa[BA] at h2
def Adj (es:List IE) (fl:List Bool) (u w:Nat):Prop:=∃(i:Nat) (e:IE),es[i]? =some e∧fl[i]? =some false∧((e.1=(u:Int)∧e.2=(w:Int))∨(e.1=(w:Int)∧e.2=(u:Int)))
def Sub (l:List T5) (v u:Nat):Prop:=(at5 l v).c2≤(at5 l u).c2∧(at5 l u).c2<(at5 l v).c2+(at5 l v).c3
def Out (N:Nat) (es:List IE) (fl:List Bool) (l:List T5) (v:Nat) (x:Int):Prop:=∃u,u<N∧Sub l v u∧(x=(at5 l u).c2∨∃w,w<N∧Adj es fl u w∧x=(at5 l w).c2)
def Sr (N:Nat) (es:List IE) (fl:List Bool) (l:List T5) (v:Nat) (x:Int):Prop:=Out N es fl l v x∧∀y,Out N es fl l v y→x≤y
def Ss (N:Nat) (es:List IE) (fl:List Bool) (l:List T5) (v:Nat) (x:Int):Prop:=Out N es fl l v x∧∀y,Out N es fl l v y→y≤x
structure Jd (N:Nat) (es:List IE) (fl:List Bool) (l o:List T5):Prop where
 len:o.length=N
 at_:∀v,v<N→∃lo hi,o[(at5 l v).c2.toNat]? =some ⟨(at5 l v).c2,lo,hi,0,0⟩∧Sr N es fl l v lo∧Ss N es fl l v hi
namespace Am
variable {N:Nat} {es:List IE} {lab:List Int} {fl:List Bool} {r b:List T5} {tl:List (Nat×Fo)} {l:List T5}
theorem mem_l (h:Am N es lab b tl l) {t:T5}:t∈l↔∃v,v<N∧at5 l v=t:=by
 constructor
 ·intro ht;obtain⟨k,hk,e⟩:=Wt ht;exact⟨k,by rw[←h.len];exact hk,e⟩
 ·rintro⟨v,hv,rfl⟩;exact Ws (by rw[h.len];exact hv)
theorem rise (h:Am N es lab b tl l):l.Pairwise fun a c=>a.c0<c.c0:=by rw[A9];intro i j hi hj aa;have e1:=Dx (r:=l) hi;have e2:=Dx (r:=l) hj;rw[AG hi] at e1;rw[AG hj] at e2;rw[BC e1,BC e2,h.at_ i (by rw[←h.len];exact hi),h.at_ j (by rw[←h.len];exact hj)];omega
theorem surj (h:Am N es lab b tl l) {k:Nat} (hk:k<N):∃v,v<N∧(at5 l v).c2=(k:Int):=by have hl:=h.tabL_len;have hg:(Ew tl)[k]? =some ((Ew tl)[k]' oM):=AG oM;obtain⟨_,h2,v,hv,_,he,_⟩:=h.entry hg;exact⟨v,hv,by rw[he];exact h2⟩
theorem okT (h:Am N es lab b tl l) (hN:N≤1000000):∀t∈l,okT 5 t:=by
 intro t ht;obtain⟨v,hv,rfl⟩:=h.mem_l.1 ht;obtain⟨h1,h2,h3,h4,h5,h6⟩:=h.bnd hv;have h0:=h.at_ v hv;have hp: -1≤(at5 l v).c1∧(at5 l v).c1<N:=by
  rcases h.par hv with⟨h7,_⟩|⟨u,h7⟩
  ·omega
  ·omega
 generalize at5 l v=t at h1 h2 h3 h4 h5 h6 h0 hp⊢;obtain⟨c0,c1,c2,c3,c4⟩:=t;dsimp only at h1 h2 h3 h4 h5 h6 h0 hp;exact okT5 ⟨oM,oM⟩ ⟨oM,oM⟩ ⟨oM,oM⟩ ⟨oM,oM⟩ ⟨oM,oM⟩
theorem look (h:Am N es lab b tl l) {v:Nat} (hv:v<N) (c:Nat):lkV l (v:Int) c=(at5 l v).col c:=Ix h.rise (h.mem_l.2 ⟨v,hv,rfl⟩) (h.at_ v hv)
end Am
section
variable {N:Nat} {es:List IE} {lab:List Int} {fl:List Bool} {b:List T5} {tl:List (Nat×Fo)} {l:List T5}
theorem kS (hT:Am N es lab b tl l) (hf:∀e∈es,inE N e) (ae:fl.length=es.length) {z:T5}:z∈Ip l (Ba (edT es) fl) (edT es)↔∃(i:Nat) (e:IE),es[i]? =some e∧fl[i]? =some false∧e.1≠e.2∧z=⟨(i:Int),(at5 l e.1.toNat).c2,(at5 l e.2.toNat).c2,0,0⟩:=by
 have ac:∀(i:Nat) (e:IE),es[i]? =some e→∃bb,fl[i]? =some bb∧lkV ((Ba (edT es) fl).map fun t=>⟨t.c0,1,0,0,0⟩) (i:Int) 1=if bb then 1 else-1:=by
  intro i e he;have hi:=(AK.1 he).1;have hb:fl[i]? =some fl[i]:=AG oM;refine⟨_,hb,?_⟩;cases hbb:fl[i] with
  |true=>
   rw[hbb] at hb;rw[Ix (t:=⟨(i:Int),1,0,0,0⟩) (by rw[BA];exact kR es fl) (AN.2 ⟨_,Ud.2 ⟨i,e,he,hb,rfl⟩,rfl⟩) rfl];rfl
  |false=>
   rw[hbb] at hb;rw[Se]
   ·rfl
   ·intro u hu hc;obtain⟨t,ht,rfl⟩:=AN.1 hu;obtain⟨j,e',_,h2,rfl⟩:=Ud.1 ht;dsimp only at hc;obtain rfl:j=i:=by omega
    rw[hb] at h2;cases h2
 have ab:∀y:T5,y∈Ja (Ba (edT es) fl) (edT es)↔∃(i:Nat) (e:IE),es[i]? =some e∧fl[i]? =some false∧e.1≠e.2∧y=⟨(i:Int),e.1,e.2,0,0⟩:=by
  intro y;unfold Ja Mu;rw[BZ];constructor
  ·rintro⟨x,hx,hy⟩;obtain⟨t,ht,rfl⟩:=AN.1 hx;obtain⟨i,e,he,rfl⟩:=Qk ht;obtain⟨bb,hbb,hk⟩:=ac i e he;rw[show Bf ((Ba (edT es) fl).map fun t=>⟨t.c0,1,0,0,0⟩) 0 1 3 (⟨(i:Int),e.1,e.2,0,0⟩:T5)=⟨(i:Int),e.1,e.2,lkV ((Ba (edT es) fl).map fun t=>⟨t.c0,1,0,0,0⟩) (i:Int) 1,0⟩ from rfl,hk] at hy;cases bb with
   |true=>simp[Jv] at hy
   |false=>
    unfold Jv at hy;dsimp only at hy;rw[if_neg oA18] at hy;split at hy
    ·cases hy
    ·rename_i aa;rw[AW] at hy;exact⟨i,e,he,hbb,aa,hy⟩
  ·rintro⟨i,e,he,hb,aa,rfl⟩;obtain⟨bb,hbb,hk⟩:=ac i e he;rw[hb] at hbb;obtain rfl:=BC hbb;refine⟨_,AN.2 ⟨_,AY (Ma he),rfl⟩,?_⟩;rw[show Bf ((Ba (edT es) fl).map fun t=>⟨t.c0,1,0,0,0⟩) 0 1 3 (⟨(i:Int),e.1,e.2,0,0⟩:T5)=⟨(i:Int),e.1,e.2,lkV ((Ba (edT es) fl).map fun t=>⟨t.c0,1,0,0,0⟩) (i:Int) 1,0⟩ from rfl,hk];unfold Jv;dsimp only;rw[if_neg oA18,if_neg aa,AW]
 have ad:∀(i:Nat) (e:IE),es[i]? =some e→∃u w:Nat,u<N∧w<N∧e=((u:Int),(w:Int)):=by intro i e he;have:=hf e (AY he);obtain⟨e1,e2⟩:=e;unfold inE at this;exact⟨e1.toNat,e2.toNat,oM,oM,by simp only[Prod.mk.injEq];omega⟩
 unfold Ip;rw[(Wn _ _ _ _).mem_iff,AN];have h1:∀x,x∈Ck 2 1 l (Ja (Ba (edT es) fl) (edT es))↔∃y∈Ja (Ba (edT es) fl) (edT es),Bf l 1 2 1 y=x:=fun x=>by rw[(Wn _ _ _ _).mem_iff,AN]
 constructor
 ·rintro⟨x,hx,rfl⟩;obtain⟨y,hy,rfl⟩:=(h1 x).1 hx;obtain⟨i,e,he,hb,aa,rfl⟩:=(ab y).1 hy;obtain⟨u,w,hu,hw,rfl⟩:=ad i e he;refine⟨i,_,he,hb,aa,?_⟩;show(⟨(i:Int),lkV l (u:Int) 2,lkV l (w:Int) 2,0,0⟩:T5)=_;rw[hT.look hu,hT.look hw,AV,AV];rfl
 ·rintro⟨i,e,he,hb,aa,rfl⟩;obtain⟨u,w,hu,hw,rfl⟩:=ad i e he;refine⟨_,(h1 _).2 ⟨_,(ab _).2 ⟨i,_,he,hb,aa,rfl⟩,rfl⟩,?_⟩;show(⟨(i:Int),lkV l (u:Int) 2,lkV l (w:Int) 2,0,0⟩:T5)=_;rw[hT.look hu,hT.look hw,AV,AV];rfl
end
theorem kT {N:Nat} {es:List IE} (hf:∀e∈es,inE N e) (hN:N≤1000000) (hm:es.length≤1000000):∀t∈edT es,okT 3 t:=by intro t ht;obtain⟨i,e,he,rfl⟩:=Qk ht;have h1:=hf e (AY he);have h2:=(AK.1 he).1;unfold inE at h1;refine Iv ?_ ?_ ?_<;>(unfold Av;omega)
theorem xI {N:Nat} {es:List IE} (hf:∀e∈es,inE N e) (hN:N≤1000000) (hm:es.length≤1000000) (fl:List Bool):∀t∈Ba (edT es) fl,okT 3 t:=by intro t ht;obtain⟨i,e,he,_,rfl⟩:=Ud.1 ht;exact kT hf hN hm _ (AY (Ma he))
theorem Sub.refl {l:List T5} {u:Nat} (h:1≤(at5 l u).c3):Sub l u u:=⟨Int.le_refl _,oM⟩
theorem kU:∀{P:List T5} {k:Int},(∃y∈P,y.c0=k)→∃z∈P,z.c0=k∧∀x∈P,x.c0=k→z.c1≤x.c1
 |[],_,⟨_,h,_⟩=>by cases h
 |a::P,k,⟨y,hy,h0⟩=>by
  by_cases hP:∃y∈P,y.c0=k
  ·obtain⟨z,hz,ac,ab⟩:=kU hP;by_cases ha:a.c0=k∧a.c1<z.c1
   ·refine⟨a,AE,ha.1,fun x hx aa=>?_⟩;rcases AM.1 hx with rfl|hx
    ·exact Int.le_refl _
    ·have:=ab x hx aa;omega
   ·refine⟨z,AF _ hz,ac,fun x hx aa=>?_⟩;rcases AM.1 hx with rfl|hx
    ·omega
    ·exact ab x hx aa
  ·rcases AM.1 hy with rfl|hy
   ·refine⟨y,AE,h0,fun x hx aa=>?_⟩;rcases AM.1 hx with rfl|hx
    ·exact Int.le_refl _
    ·exact absurd ⟨x,hx,aa⟩ hP
   ·exact absurd ⟨y,hy,h0⟩ hP
theorem Way.one {par:Int→Int} {v:Int} {c c':List Int} (h:Way par v c) (h':Way par v c'):c=c':=by
 induction h generalizing c' with
 |top hv=>
  cases h' with
  |top _=>rfl
  |up h2 _=>omega
 |up hv _ ih=>
  cases h' with
  |top h2=>omega
  |up _ h2=>rw[ih h2]
section
variable {N:Nat} {es:List IE} {lab:List Int} {b:List T5} {tl:List (Nat×Fo)} {l:List T5}
theorem Fu (hT:Am N es lab b tl l) {a v p:Nat} (ha:a<N) (hv:v<N) (hp:p<N) (h:(at5 l v).c1=(p:Int)):Sub l a v↔a=v∨Sub l a p:=by
 obtain⟨c,hw,_,_,hc⟩:=hT.below hv;obtain⟨c',aa,_,_,ab⟩:=hT.below hp;have e:c=(v:Int)::c':=by refine hw.one (.up oM ?_);rw[AV,h];exact aa
 have h1:=hc a ha;have h2:=ab a ha;unfold Sub;rw[←h1,←h2,e,AM];constructor
 ·rintro(h3|h3)
  ·exact .inl oM
  ·exact .inr h3
 ·rintro(rfl|h3)
  ·exact .inl rfl
  ·exact .inr h3
theorem Kp (hT:Am N es lab b tl l) {a v:Nat} (ha:a<N) (hv:v<N) (h:(at5 l v).c1= -1):Sub l a v↔a=v:=by
 obtain⟨c,hw,_,_,hc⟩:=hT.below hv;have e:c=[(v:Int)]:=by refine hw.one (.up oM (.top ?_));rw[AV,h];decide
 have h1:=hc a ha;unfold Sub;rw[←h1,e,AW];omega
theorem Hj (hT:Am N es lab b tl l) {v:Nat} (hv:v<N):Sub l v v:=Sub.refl (hT.bnd hv).2.2.1
theorem kV (hT:Am N es lab b tl l) {m:Nat} (hm:m<N):∀(q:Nat) {a:Nat},a<N→(at5 l a).c2≤(q:Int)→Sub l m a→a≠m→∃c,c<N∧(at5 l c).c1=(m:Int)∧Sub l c a:=by
 intro q;induction q with
 |zero=>
  intro a ha hq hs aa;have h1:=hT.bnd ha;have h2:=hT.bnd hm;exact absurd (hT.num_inj ha hm (by have:=hs.1;omega)) aa
 |succ q ih=>
  intro a ha hq hs aa;rcases hT.par ha with⟨h1,_⟩|⟨p,hp,h1,_,h2,_⟩
  ·exact absurd ((Kp hT hm ha h1).1 hs).symm aa
  ·have h3:=((Fu hT hm ha hp h1).1 hs).resolve_left fun h=>aa h.symm;by_cases ab:p=m
   ·subst ab;exact⟨a,ha,h1,Hj hT ha⟩
   ·obtain⟨c,hc,ac,ad⟩:=ih hp oM h3 ab;exact⟨c,hc,ac,(Fu hT hc ha hp h1).2 (.inr ad)⟩
end
namespace Walk
variable {N:Nat} {es:List IE} {lab:List Int} {b:List T5} {tl:List (Nat×Fo)} {l:List T5} {x P:Nat} {W:Nat→Nat}
end Walk
namespace Aq
variable {N:Nat} {es:List IE} {lab:List Int} {fl:List Bool} {r b:List T5}
end Aq
end Go.Proofs.YtaofijjjheiknaaGreat
