/-
  Parts of the proof, put together: TorL, BeginB, TorA, Row, RowTup, RowIn, RowsIn, GraphIn, LawP, TourV, Ecl. No condition.
-/
import Derived.Below
import Derived.Carry
import Derived.Deep.SlicePairs
import Derived.Deep.Slices
import Derived.OpenShut
import Derived.ProofKit
import Derived.Test.YtammjnjpheobaaaGreatRows
import Derived.Test.YtammjnjpheobaaaGreatK28
set_option linter.unusedVariables false
set_option linter.unusedSimpArgs false
set_option linter.unnecessarySimpa false
set_option maxHeartbeats 4000000
namespace Go.Proofs.YtammjnjpheobaaaGreat
open Go.SL Go.Spc Go.Tup Go.Srt Go.Gr
theorem arcsL_length (a f:List T5):(arcsL a f).length=2*f.length:=by
 unfold arcsL
 induction f with
 |nil=>rfl
 |cons t f ih=>rw[List.flatMap_cons,List.length_append,ih,List.length_cons];unfold arcs2;simp only[List.length_cons,List.length_nil];omega
theorem parts_of {N:Nat} {es:List IE} {lab:List Int} {fl:List Bool} (hl:LabOk (gE es) (fun i=>i<es.length) N (-1) lab) (hfo:forestOk es fl):∃r b,PartsOk N es lab fl r b:=by
 refine⟨srt (ltO oBCA) false (arcsL (labT lab) (forT (edT es) fl)),_,hl,hfo,⟨perm_srt _,?_,?_,?_⟩,?_,rfl⟩
 ·refine(sd_srt (ltO_swo oBCA) false _).imp fun {x y} hh=> ?_
  simp only[Bool.false_eq_true,if_false] at hh
  rw[←ltO_oBCA];exact hh
 ·exact(((edT_lt es).map _ (fun a b h=>by omega:∀a b:T5,a.c0<b.c0→a.c0≠b.c0)).sublist (forT_sub _ _))
 ·intro t ht
  obtain⟨t',ht',rfl⟩:=forT_mem ht
  obtain⟨j,e,he,rfl⟩:=edT_mem ht'
  dsimp only;omega
 ·rw[(perm_srt _).length_eq,arcsL_length]
structure Laid6 (ro N:Nat) (es:List IE) (W:Wk) (f h:Fl) (lab:List Int) (fl:List Bool):Prop where
 labs:LabOk (gE es) (fun i=>i<es.length) N (-1) lab
 fors:forestOk es fl
 inF:FileIn W (f,labT lab)
 inH:FileIn W (h,forT (edT es) fl)
 fw:f.width=2
 hw:h.width=3
 fc:f.count=N
 hc:h.count=(forT (edT es) fl).length
 hle:(forT (edT es) fl).length≤N
 size:W.δ.size=10
 room:W.α.room=ro
 used:W.α.used=0
 acts:W.δ.acts≤3*N
 n:W.σ.n=9000
 live:W.live.Perm (addF h (addF f []))
 sum:f.blocks+h.blocks≤3*N
theorem Laid6.flt {ro N:Nat} {es:List IE} {W:Wk} {f h:Fl} {lab:List Int} {fl:List Bool} (hL:Laid6 ro N es W f h lab fl) (x:Int):Laid6 ro N es (W.flt x) f h lab fl:={hL with}
structure P6X where
 i:Nat
 p:Option Addr
 cap:Nat
 ch:Chunk
theorem parts16ct (N:Nat) (hN:N≤1000) (p:Option Addr) (m cap:Nat) (es:List IE) (c:Chunk) (hv:Rw ecl 2 p m es c) (hm:m≤1000) (hf:∀e∈es,inE N e):
  Ct Tryz.prog 22 [gv N p m cap] [c] fun v H'=>∃pa ka ca pb nb kb cb lab fl,v= .tuple #[.slice pa N ka,.slice pb nb kb]∧H'=[c,ca,cb]∧RV pa N (labT lab) ca∧RV pb nb (forT (edT es) fl) cb∧LabOk (gE es) (fun i=>i<es.length) N (-1) lab∧forestOk es fl∧nb≤m:=by
 have hl:=hv.1
 unfold gv
 refine Ct.intro Tryz.func22 rfl Tryz.ntmps22 (nle rfl) fun w0=> ?_;dsimp only[argSlots,Nat.reduceAdd]
 repeat(first|(refine st ?_;intros)|refine G.draw [] (h:= ?_))
 rename_i b1
 refine G.loop (X:=P6X) (fun x=>x.i≤m∧Vec 49 5 x.p x.i x.cap (flat ((edT es).take x.i)) x.ch)
  (fun x=>[(5,.int .i64 (x.i:Int)),(4,.slice x.p x.i x.cap),(1,pv b1)])
  (fun x=>[x.ch,[(b1,row [.int .i64 (N:Int),.slice p m cap] 37)],c]) (fun x=>m-x.i) ⟨0,none,0,[]⟩ ⟨Nat.zero_le _,Vec.nil _ _⟩ (by repeat(first|exact trivial|refine⟨rfl,?_⟩)) (by repeat(first|exact Split.nil|(apply Split.cons;·(first|exact Take.nil|(repeat(first|exact Take.here|apply Take.there)))))) ?_
 rintro⟨i,q,qc,ch⟩ ⟨hi,hV⟩
 dsimp only at hi hV⊢
 by_cases hlt:i<m
 ·obtain⟨b,off,cs,T,fz,rfl,rfl,_,hget⟩:=hv.pos ecl_len (by omega)
  have hie:es[i]? =some es[i]:=List.getElem?_eq_getElem (by omega)
  have q0:=hget i 0 _ _ hie rfl
  have q1:=hget i 1 _ _ hie rfl
  rw[Nat.add_zero] at q0
  have htk:=edT_take hie
  generalize es[i]=e at*
  have hmx:i+1≤maxLen:=by simp only[maxLen];omega
  have hsn:flat ((edT es).take (i+1))=flat ((edT es).take i)++[.int .i64 (i:Int),.int .i64 e.1,.int .i64 e.2,.int .i64 0,.int .i64 0]:=by
   rw[htk,flat_append];rfl
  repeat(first|(refine st ?_;intros)|refine G.draw [] (h:= ?_))
  rename_i p' cap' c' hV'
  have hV3:Vec 49 5 p' (i+1) cap' (flat ((edT es).take (i+1))) c':=by rw[hsn];exact hV'
  refine Dn.round ⟨i+1,p',cap',c'⟩ ⟨hlt,hV3⟩ (by dsimp only;omega)
 obtain rfl:i=m:=by omega
 rw[List.take_of_length_le (by rw[edT_len];omega)] at hV
 have hC:=Comp15ct N (by omega) q i qc (edT es) ch (RV.vec hV) (by omega) (edT_ok hf)
 repeat(first|(refine st ?_;intros)|refine G.draw [] (h:= ?_))
 refine R.call (hct:=hC) (h:= ?_)
 rintro _ _ ⟨pa,na,ka,ca,pf,nf,kf,cf,a,f,rfl,rfl,hva,hvf,hnf,hspec⟩
 try dsimp only[List.cons_append,List.nil_append]
 obtain⟨lab,fl,rfl,rfl,hlab,hfl⟩:=hspec.parts
 have hna:na=N:=by
  have h1:=hva.1
  have h2:=hlab.len
  unfold labT at h1
  rw[List.length_map,List.length_range] at h1
  omega
 subst hna
 repeat(first|(refine st ?_;intros)|refine G.draw [] (h:= ?_))
 (refine Dn.post (Hr:=[c,ca,cf]) Tryz.results22 (hR:= ?_);exact⟨pa,ka,ca,pf,nf,kf,cf,lab,fl,rfl,rfl,hva,hvf,hlab,hfl,hnf⟩)
theorem laid16ct (bw bd ba bs:Nat) (ro:Nat) (hR:10≤ro) (cd ca cs:Chunk) (hW:Wc bd ba bs (wk0 10 9000 ro) cd ca cs) (N:Nat) (hN:N≤1000) (p:Option Addr) (m cap:Nat) (es:List IE) (c:Chunk) (hv:Rw ecl 2 p m es c) (hm:m≤1000) (hf:∀e∈es,inE N e):
  Ct Tryz.prog 20 [pv bw,gv N p m cap] [wrow bw bd ba bs,cd,ca,cs,c] fun v H'=>∃cd' ca' cs' W f h lab fl,v= .tuple #[flv f,flv h,.bool true]∧H'=[wrow bw bd ba bs,cd',ca',cs',c]∧Wc bd ba bs W cd' ca' cs'∧Laid6 ro N es W f h lab fl∧W.δ.fault= -1:=by
 have hflv:∀f:Fl,flv f= .agg #[.int .i64 (f.first:Int),.int .i64 (f.blocks:Int),.int .i64 (f.width:Int),.int .i64 (f.count:Int)]:=fun _=>rfl
 have hP:=parts16ct N hN p m cap es c hv hm hf
 have hem:=hv.1
 unfold gv at hP⊢
 refine Ct.intro Tryz.func20 rfl Tryz.ntmps20 (nle rfl) fun w0=> ?_;dsimp only[argSlots,Nat.reduceAdd]
 repeat(first|(refine st ?_;intros)|refine G.draw (id:=4) [(8,.eff [1])] (h:= ?_))
 refine R.call (hct:=hP) (h:= ?_)
 rintro _ _ ⟨pa,ka,ca0,pb,nb,kb,cb,lab,fl,rfl,rfl,hva,hvb,hlab,hfl,hnm⟩
 try dsimp only[List.cons_append,List.nil_append]
 obtain⟨r,b,hpa⟩:=parts_of hlab hfl
 have hle:=hpa.for_le hf
 have hnb:(forT (edT es) fl).length=nb:=hvb.1
 have hn1:nblocks 10 2 N≤N:=nblocks_le (holds_pos (by omega) (by omega) (by omega))
 have hn2:nblocks 10 3 nb≤nb:=nblocks_le (holds_pos (by omega) (by omega) (by omega))
 have hokf:∀t∈forT (edT es) fl,okT 3 t:=by
  intro t ht
  obtain⟨i,d,hd,_,rfl⟩:=hpa.edge ht
  have h1:=hf d (List.mem_of_getElem? hd)
  have h2:=(List.getElem?_eq_some_iff.1 hd).1
  unfold inE at h1
  exact okT3 ⟨by omega,by omega⟩ ⟨by omega,by omega⟩ ⟨by omega,by omega⟩
 have hLy:=Lay_k bw bd ba bs _ cd ca cs hW 2 (by omega) (by omega) pa N ka _ ca0 hva (by omega) (hpa.lab_ok (by omega)) (by show 10≤ro-0;omega) rfl (Nat.zero_le _) (by rw[big0];show nblocks 10 2 N≤_;omega)
 rw[show(wk0 10 9000 ro).δ.size=10 from rfl] at hLy
 repeat(first|(refine st ?_;intros)|refine G.draw (id:=4) [(8,.eff [1])] (h:= ?_))
 refine R.call (hct:=hLy) (h:= ?_)
 rintro _ _ ⟨cd1,ca1,cs1,W1,f,rfl,rfl,hW1,hE1,hK1,hg1,hl1,hf1,hc1,hb1,hfo1⟩
 try dsimp only[List.cons_append,List.nil_append]
 have hsz1:W1.δ.size=10:=hE1.size
 have hrm1:W1.α.room=ro:=hE1.room
 have hus1:W1.α.used=0:=used_eq hW hW1 hg1
 have hbg1:=hE1.big
 have hac1:=hE1.acts.2
 rw[big0] at hbg1
 rw[show(wk0 10 9000 ro).δ.acts=0 from rfl] at hac1
 have hLy2:=Lay_k bw bd ba bs W1 cd1 ca1 cs1 hW1 3 (by omega) (by omega) pb nb kb _ cb hvb (by omega) hokf (by omega) (hE1.fault rfl) (by omega) (by rw[hsz1];omega)
 rw[hsz1] at hLy2
 rw[hflv]
 repeat(first|(refine st ?_;intros)|refine G.draw (id:=4) [(8,.eff [1])] (h:= ?_))
 refine R.call (hct:=hLy2) (h:= ?_)
 rintro _ _ ⟨cd2,ca2,cs2,W2,h,rfl,rfl,hW2,hE2,hK2,hg2,hl2,hf2,hc2,hb2,hfo2⟩
 try dsimp only[List.cons_append,List.nil_append]
 have hac2:=hE2.acts.2
 rw[hflv]
 repeat(first|(refine st ?_;intros)|refine G.draw (id:=4) [(8,.eff [1])] (h:= ?_))
 (refine Dn.post (Hr:=[wrow bw bd ba bs,cd2,ca2,cs2,c]) Tryz.results20 (hR:= ?_);exact⟨cd2,ca2,cs2,W2,f,h,lab,fl,by rw[dec_true rfl];rfl,rfl,hW2,
  {labs:=hlab,fors:=hfl,inF:=(FileIn.new (by exact hfo1) hsz1 hl1).stay hE2.size hK2 (mem_addF hl2),inH:=FileIn.new hfo2 (hE2.size.trans hsz1) hl2,fw:=hf1,hw:=hf2,fc:=hc1,hc:=by omega,hle:=hle,size:=hE2.size.trans hsz1,room:=hE2.room.trans hrm1,used:=(used_eq hW1 hW2 hg2).trans hus1,acts:=by omega,n:=hE2.n.trans hE1.n,live:=hl2.trans (addF_perm hl1),sum:=by omega},hE2.fault (hE1.fault rfl)⟩)
theorem Tours_laid (bw bd ba bs ro:Nat) (hro:80≤ro) (N:Nat) (hN:N≤60) (es:List IE) (hes:es.length≤1000) (hf:∀e∈es,inE N e) (W:Wk) (cd ca cs:Chunk) (hW:Wc bd ba bs W cd ca cs) (f h:Fl) (lab:List Int) (fl:List Bool) (hL:Laid6 ro N es W f h lab fl) {r b:List T5} (hpa:PartsOk N es lab fl r b):
  Ct Tryz.prog 15 [pv bw,flv f,flv h] [wrow bw bd ba bs,cd,ca,cs] fun v H'=>∃x e cd' ca' cs' W',v= .tuple #[flv x,.int .i64 e]∧H'=[wrow bw bd ba bs,cd',ca',cs']∧Wc bd ba bs W' cd' ca' cs'∧W'.δ.size=10∧W'.α.room=ro∧W'.α.used=0∧W'.σ.n=9000∧W'.δ.acts≤10000000∧(W.δ.fault= -1→W'.δ.fault= -1)∧
   ((e=0∧FileIn W' (x,b)∧x.width=5∧x.count=b.length∧W'.live.Perm (addFs [f,h,x] []))∨(e=6∧x=⟨0,0,0,0⟩∧W.δ.fault≠-1∧W'.live.Perm (addFs [f,h] []))):=by
 have hll:=hL.live.length_eq
 have hl2:=length_addFs [f,h] []
 have htt:total W.live=_:=(total_perm hL.live).trans (total_addFs [f,h] [])
 rw[show(addFs [f,h] [])=addF h (addF f []) from rfl] at hl2
 simp at hl2 htt
 have hfc:=hL.fc
 have hhc:=hL.hc
 have hle:=hL.hle
 have hsum:=hL.sum
 have hac:=hL.acts
 have hsT:sortT 120≤644:=by decide+kernel
 have hsT2:sortT 60≤324:=by decide+kernel
 have e1:644*(W.live.length+7)≤644*9:=Nat.mul_le_mul_left _ (by omega)
 have e2:324*(W.live.length+12)≤324*14:=Nat.mul_le_mul_left _ (by omega)
 have hT:=Tours_ct bw bd ba bs W cd ca cs hW f h _ _ hL.inF hL.inH hL.fw hL.hw (labT_strict lab) 120 60 644 324 (by omega) (by omega) (by omega) (by omega) (by omega) (by omega) hsT (by omega) hsT2 (by rw[hL.n];omega) (by rw[hL.n];omega) (by omega)
 have hnm:=hpa.nam_is hf (by omega)
 have hc:∀k,k<r.length→(at5 r k).c0≤4398046511104:=by
  intro k hk
  obtain⟨i,d,x,hd,_,_,_,hx⟩:=hpa.arc_of hf hk
  have:=(List.getElem?_eq_some_iff.1 hd).1
  rcases hx with hx|hx<;>rw[hx]<;>dsimp only<;>omega
 obtain⟨t1,t2⟩:=hpa.tours_is hf (by omega) (hpa.lnk_perm hf hc)
 rw[hnm,t1,t2] at hT
 refine hT.mono ?_
 rintro v H' (⟨_,x,e,cd3,ca3,cs3,W3,rfl,rfl,hW3,hS3,hw3⟩|⟨hsm,_⟩)
 rotate_left
 ·exfalso
  have h3:=hL.room
  have h4:=hL.used
  have h5:=hL.size
  omega
 have hac3:=hS3.acts
 unfold tourA at hac3
 refine⟨x,e,cd3,ca3,cs3,W3,rfl,rfl,hW3,hS3.size.trans hL.size,hS3.room.trans hL.room,(used_eq hW hW3 hS3.gs).trans hL.used,hS3.n.trans hL.n,by omega,hS3.fault,?_⟩
 rcases hS3.res with⟨rfl,her,hl,hfo⟩|⟨he,rfl,hl,⟨rfl,hr⟩|⟨k,h6,_⟩⟩
 ·rw[hL.size] at hfo
  exact .inl ⟨rfl,FileIn.new hfo (hS3.size.trans hL.size) hl,hw3 rfl,hfo.len.symm,hl.trans (addF_perm hL.live)⟩
 ·exact .inr ⟨rfl,rfl,hr,hl.trans hL.live⟩
 ·cases h6
end Go.Proofs.YtammjnjpheobaaaGreat
namespace Go.Proofs.YtammjnjpheobaaaGreat
open Go.SL Go.Spc Go.Tup Go.Srt
theorem Begin_bad (bw bd ba bs:Nat) (W:Wk) (cd ca cs:Chunk) (h:Wc bd ba bs W cd ca cs) (l:List (Fl×List T5)) (hl:∀x∈l,FileIn W x) (f0:Fl) (hll:l.length≤1000)
  (hbad:∀α' ca',Wc bd ba bs {W with α:=α'} cd ca' cs→CtQ Tryz.prog 53 [pv bw,flv f0] [wrow bw bd ba bs,cd,ca',cs] (.tuple #[.pointer none,.int .i64 1]))
  (pa:Option Addr) (cap:Nat) (cf:Chunk) (hVf:Vec 27 4 pa (l.length+1) cap (fcells (l.map (·.1)++[f0])) cf):
  Ct Tryz.prog 41 [pv bw,.slice pa (l.length+1) cap] [wrow bw bd ba bs,cd,ca,cs,cf] fun v H'=>∃ca' α',Wc bd ba bs {W with α:=α'} cd ca' cs∧α'.gs.Perm W.α.gs∧α'.room=W.α.room∧v= .tuple #[.pointer none,.int .i64 1]∧H'=[wrow bw bd ba bs,cd,ca',cs,cf]:=by
 obtain⟨⟨hs1,hs2⟩,_⟩:=h.dev.num
 obtain⟨fb,frest,rfl,rfl,hfr,hfc,hfm⟩:=vecpos hVf (by omega)
 refine Ct.intro Tryz.func41 rfl Tryz.ntmps41 (nle rfl) fun w0=> ?_;dsimp only[argSlots,Nat.reduceAdd]
 repeat(refine st ?_;intros)
 refine G.loop (X:=BegX) (fun x=>x.k≤l.length∧Wc bd ba bs {W with α:=x.α} cd x.ca cs∧x.α.gs.Perm W.α.gs∧x.α.room=W.α.room)
  (fun x=>[(14,.int .i64 (x.k:Int)),(13,.int .i64 ((l.length+1:Nat):Int)),(12,.slice (some ⟨fb,0,none⟩) (l.length+1) cap),(0,pv bw)])
  (fun x=>[wrow bw bd ba bs,cd,x.ca,cs,[(fb,row (fcells (l.map (·.1)++[f0])++frest) 27)]]) (fun x=>l.length+1-x.k) ⟨0,ca,W.α⟩ ⟨Nat.zero_le _,h,.refl _,rfl⟩ (body:= ?_)
 rintro⟨k,ca1,α1⟩ ⟨hk,hW,hg,hrm⟩
 dsimp only at hk hW hg hrm⊢
 have hus:α1.used=W.α.used:=used_eq h hW hg
 have hnum:=hW.ar.num
 dsimp only at hnum
 by_cases hlt:k<l.length
 ·have hfk:(l.map (·.1)++[f0])[k]? =some (l[k]).1:=by rw[List.getElem?_append_left (by simpa using hlt)];simp[hlt]
  have hgf:=fcells_get (rest:=frest) hfk
  obtain⟨Lv,hfo,_⟩:=hl _ (List.getElem_mem hlt)
  have hRd:=Read_u bw bd ba bs {W with α:=α1} cd ca1 cs hW (l[k]).1 (l[k]).2 Lv hfo
  have hRm:=Read_room bw bd ba bs {W with α:=α1} cd ca1 cs hW (l[k]).1 hfo.w1 hfo.w2 hfo.cnt hfo.blk
  generalize (l[k]).2=ts at*
  generalize (l[k]).1=f at*
  generalize fcells (l.map (·.1)++[f0])++frest=fcs at*
  obtain⟨f1,f2,f3,f4⟩:=f
  have hflv:flv ⟨f1,f2,f3,f4⟩= .agg #[.int .i64 (f1:Int),.int .i64 (f2:Int),.int .i64 (f3:Int),.int .i64 (f4:Int)]:=rfl
  rw[hflv] at hRd hRm
  dsimp only at hgf hRd hRm
  repeat(refine st ?_;intros)
  by_cases hr:W.δ.size≤α1.room-α1.used
  ·have hRd2:=hRd hr
   refine R.call (hct:=hRd2) (h:= ?_)
   rintro _ _ ⟨bx,g,ca2,α2,cx,cb,rfl,rfl,hW2,hE2,hg2,hgn,hr2⟩
   try dsimp only[List.cons_append,List.nil_append]
   have hRc:=RClose_u bw bd ba bs {W with α:=α2} cd ca2 cs hW2 bx ⟨f1,f2,f3,f4⟩ ts g _ hg2 0 cx cb hr2
   repeat(refine st ?_;intros)
   refine R.call (hct:=hRc) (h:= ?_)
   rintro _ _ ⟨ca5,α5,cx5,rfl,rfl,hW5,hE5,hg6,hx5⟩
   try dsimp only[List.cons_append,List.nil_append]
   repeat(refine st ?_;intros)
   refine Dn.round ⟨k+1,ca5,α5⟩ ⟨hlt,hW5,hg6.trans hg,(hE5.room.trans hE2.room).trans hrm⟩ (by dsimp only;omega)
  ·have hR2:=hRm (by omega)
   refine R.call (hct:=hR2) (h:= ?_)
   rintro _ _ ⟨rfl,rfl⟩
   try dsimp only[List.cons_append,List.nil_append]
   repeat(refine st ?_;intros)
   refine R.call (hct:=RClose_nil) (h:= ?_)
   rintro _ _ ⟨rfl,rfl⟩
   try dsimp only[List.cons_append,List.nil_append]
   repeat(refine st ?_;intros)
   refine Dn.round ⟨k+1,ca1,α1⟩ ⟨hlt,hW,hg,hrm⟩ (by dsimp only;omega)
 ·obtain rfl:k=l.length:=by omega
  have hfk:(l.map (·.1)++[f0])[l.length]? =some f0:=by simp
  have hgf:=fcells_get (rest:=frest) hfk
  have hR:=hbad α1 ca1 hW
  generalize fcells (l.map (·.1)++[f0])++frest=fcs at*
  obtain⟨f1,f2,f3,f4⟩:=f0
  have hflv:flv ⟨f1,f2,f3,f4⟩= .agg #[.int .i64 (f1:Int),.int .i64 (f2:Int),.int .i64 (f3:Int),.int .i64 (f4:Int)]:=rfl
  rw[hflv] at hR
  dsimp only at hgf hR
  repeat(refine st ?_;intros)
  refine R.call (hct:=hR) (h:= ?_)
  rintro _ _ ⟨rfl,rfl⟩
  try dsimp only[List.cons_append,List.nil_append]
  repeat(refine st ?_;intros)
  (refine Dn.post (Hr:=[wrow bw bd ba bs,cd,ca1,cs,[(fb,row fcs 27)]]) Tryz.results41 (hR:= ?_);exact⟨ca1,α1,hW,hg,hrm,rfl,rfl⟩)
end Go.Proofs.YtammjnjpheobaaaGreat
namespace Go.Proofs.YtammjnjpheobaaaGreat
open Go.SL Go.Spc Go.Tup Go.Srt Go.Gr
theorem Tours_width (a b:Fl) (hw:¬(a.width=2∧b.width=3)) (x:Value):CtQ Tryz.prog 15 [x,flv a,flv b] [] (.tuple #[flv ⟨0,0,0,0⟩,.int .i64 1]):=by
 have hflv:∀f:Fl,flv f= .agg #[.int .i64 (f.first:Int),.int .i64 (f.blocks:Int),.int .i64 (f.width:Int),.int .i64 (f.count:Int)]:=fun _=>rfl
 rw[hflv,hflv]
 by_cases h2:a.width=2
 ·have hwi:(a.width:Int)=2:=by rw[h2];rfl
  have h3:b.width≠3:=fun h=>hw ⟨h2,h⟩
  refine Ct.intro Tryz.func15 rfl Tryz.ntmps15 (nle rfl) fun w0=> ?_;dsimp only[argSlots,Nat.reduceAdd]
  repeat(refine st ?_;intros)
  (refine Dn.post (Hr:=[]) Tryz.results15 (hR:= ?_);exact⟨rfl,rfl⟩)
 ·refine Ct.intro Tryz.func15 rfl Tryz.ntmps15 (nle rfl) fun w0=> ?_;dsimp only[argSlots,Nat.reduceAdd]
  repeat(refine st ?_;intros)
  (refine Dn.post (Hr:=[]) Tryz.results15 (hR:= ?_);exact⟨rfl,rfl⟩)
theorem Tours_nil (a b:Fl) (ha:a.width=2) (hb:b.width=3):CtQ Tryz.prog 15 [.pointer none,flv a,flv b] [] (.tuple #[flv ⟨0,0,0,0⟩,.int .i64 1]):=by
 have hflv:∀f:Fl,flv f= .agg #[.int .i64 (f.first:Int),.int .i64 (f.blocks:Int),.int .i64 (f.width:Int),.int .i64 (f.count:Int)]:=fun _=>rfl
 have hwi:(a.width:Int)=2:=by rw[ha];rfl
 have hwj:(b.width:Int)=3:=by rw[hb];rfl
 rw[hflv,hflv]
 refine Ct.intro Tryz.func15 rfl Tryz.ntmps15 (nle rfl) fun w0=> ?_;dsimp only[argSlots,Nat.reduceAdd]
 repeat(refine st ?_;intros)
 refine R.call (hct:=Begin_nil _) (h:= ?_)
 rintro _ _ ⟨rfl,rfl⟩
 try dsimp only[List.cons_append,List.nil_append]
 repeat(refine st ?_;intros)
 (refine Dn.post (Hr:=[]) Tryz.results15 (hR:= ?_);exact⟨rfl,rfl⟩)
theorem Tours_bad (bw bd ba bs:Nat) (W:Wk) (cd ca cs:Chunk) (h:Wc bd ba bs W cd ca cs) (a b:Fl) (al:List T5) (hin:FileIn W (a,al)) (ha:a.width=2) (hb:b.width=3)
  (hbad:∀α' ca',Wc bd ba bs {W with α:=α'} cd ca' cs→CtQ Tryz.prog 53 [pv bw,flv b] [wrow bw bd ba bs,cd,ca',cs] (.tuple #[.pointer none,.int .i64 1])):
  Ct Tryz.prog 15 [pv bw,flv a,flv b] [wrow bw bd ba bs,cd,ca,cs] fun v H'=>∃ca' α',Wc bd ba bs {W with α:=α'} cd ca' cs∧α'.gs.Perm W.α.gs∧α'.room=W.α.room∧v= .tuple #[flv ⟨0,0,0,0⟩,.int .i64 1]∧H'=[wrow bw bd ba bs,cd,ca',cs]:=by
 have hflv:∀f:Fl,flv f= .agg #[.int .i64 (f.first:Int),.int .i64 (f.blocks:Int),.int .i64 (f.width:Int),.int .i64 (f.count:Int)]:=fun _=>rfl
 have hfl4:∀f:Fl,fl4 f=[.int .i64 (f.first:Int),.int .i64 (f.blocks:Int),.int .i64 (f.width:Int),.int .i64 (f.count:Int)]:=fun _=>rfl
 have hwi:(a.width:Int)=2:=by rw[ha];rfl
 have hwj:(b.width:Int)=3:=by rw[hb];rfl
 have hB:=fun x=>Begin_bad bw bd ba bs W cd ca cs h [(a,al)] (by simp only[List.mem_cons,List.not_mem_nil,or_false];rintro x rfl;exact hin) b (by simp) hbad (some ⟨x,0,none⟩) 2 _ (vec2 x a b)
 simp only[hfl4,List.length_cons,List.length_nil,List.cons_append,List.nil_append] at hB
 rw[hflv a,hflv b]
 refine Ct.intro Tryz.func15 rfl Tryz.ntmps15 (nle rfl) fun w0=> ?_;dsimp only[argSlots,Nat.reduceAdd]
 repeat(refine st ?_;intros)
 refine R.call (hct:=hB _) (h:= ?_)
 rintro _ _ ⟨ca1,α1,hW1,hg1,hr1,rfl,rfl⟩
 dsimp only[List.cons_append,List.nil_append]
 repeat(refine st ?_;intros)
 (refine Dn.post (Hr:=[wrow bw bd ba bs,cd,ca1,cs]) Tryz.results15 (hR:= ?_);exact⟨ca1,α1,hW1,hg1,hr1,rfl,rfl⟩)
theorem awake16ct:CtQ Tryz.prog 13 [] [] (.bool true):=by
 have hWk:Ct Tryz.prog 14 [.int .i64 9] [] fun v H'=>
  ∃bw bd ba bs cd ca cs,v=pv bw∧H'=[wrow bw bd ba bs,cd,ca,cs]∧Wc bd ba bs (wk0 10 9000 90) cd ca cs:=work16ct 9 (by omega)
 have hflv:∀f:Fl,flv f= .agg #[.int .i64 (f.first:Int),.int .i64 (f.blocks:Int),.int .i64 (f.width:Int),.int .i64 (f.count:Int)]:=fun _=>rfl
 refine Ct.intro Tryz.func13 rfl Tryz.ntmps13 (nle rfl) fun w0=> ?_;dsimp only[argSlots,Nat.reduceAdd]
 repeat(refine st ?_;intros)
 refine R.call (hct:=hWk) (h:= ?_)
 rintro _ _ ⟨bw,bd,ba,bs,cd,ca,cs,rfl,rfl,hW⟩
 try dsimp only[List.cons_append,List.nil_append]
 repeat(refine st ?_;intros)
 rename_i bl
 have hRV:RV (some ⟨bl,0,none⟩) 2 [⟨0,0,0,0,0⟩,⟨1,0,0,0,0⟩] [(bl,row [.int .i64 0,.int .i64 0,.int .i64 0,.int .i64 0,.int .i64 0,.int .i64 1,.int .i64 0,.int .i64 0,.int .i64 0,.int .i64 0] 49)]:=⟨rfl,.inr ⟨bl,0,_,_,_,rfl,rfl,rfl⟩⟩
 have hok1:∀t∈([⟨0,0,0,0,0⟩,⟨1,0,0,0,0⟩]:List T5),okT 2 t:=by
  intro t ht
  simp only[List.mem_cons,List.not_mem_nil,or_false] at ht
  rcases ht with rfl|rfl<;>exact okT2 ⟨by decide,by decide⟩ ⟨by decide,by decide⟩
 have hLy:=Lay_k bw bd ba bs _ cd ca cs hW 2 (by omega) (by omega) _ 2 2 _ _ hRV (by omega) hok1 (by decide) rfl (by decide) (by rw[big0];decide)
 rw[show(wk0 10 9000 90).δ.size=10 from rfl] at hLy
 refine R.call (hct:=hLy) (h:= ?_)
 rintro _ _ ⟨cd1,ca1,cs1,W1,f,rfl,rfl,hW1,hE1,hK1,hg1,hl1,hf1,hc1,hb1,hfo1⟩
 try dsimp only[List.cons_append,List.nil_append]
 obtain⟨hO1,hin1⟩:=(Ons.fresh 9000 90).lay hW hW1 hE1 hg1 hl1 hfo1 (by decide)
 have hac1:=hE1.acts.2
 have hbg1:=hE1.big
 have hn1:nblocks 10 2 2=1:=by decide
 have hn2:nblocks 10 3 1=1:=by decide
 rw[show(wk0 10 9000 90).δ.acts=0 from rfl] at hac1
 rw[big0] at hbg1
 rw[hflv]
 repeat(refine st ?_;intros)
 rename_i bl2
 have hRV2:RV (some ⟨bl2,0,none⟩) 1 [⟨5,0,1,0,0⟩] [(bl2,row [.int .i64 5,.int .i64 0,.int .i64 1,.int .i64 0,.int .i64 0] 49)]:=⟨rfl,.inr ⟨bl2,0,_,_,_,rfl,rfl,rfl⟩⟩
 have hok2:∀t∈([⟨5,0,1,0,0⟩]:List T5),okT 3 t:=by
  intro t ht
  simp only[List.mem_singleton] at ht;subst ht
  exact okT3 ⟨by decide,by decide⟩ ⟨by decide,by decide⟩ ⟨by decide,by decide⟩
 have hLy2:=Lay_k bw bd ba bs _ cd1 ca1 cs1 hW1 3 (by omega) (by omega) _ 1 1 _ _ hRV2 (by omega) hok2 (by rw[hO1.size,hO1.room,hO1.used];decide) (hE1.fault rfl) (by omega) (by rw[hO1.size];omega)
 rw[hO1.size] at hLy2
 refine R.call (hct:=hLy2) (h:= ?_)
 rintro _ _ ⟨cd2,ca2,cs2,W2,g,rfl,rfl,hW2,hE2,hK2,hg2,hl2,hf2,hc2,hb2,hfo2⟩
 try dsimp only[List.cons_append,List.nil_append]
 obtain⟨hO2,hin2⟩:=hO1.lay hW1 hW2 hE2 hg2 hl2 hfo2 (by omega)
 have hin1':FileIn W2 (f,_):=hin1.stay hE2.size hK2 (mem_addF hl2)
 have hac2:=hE2.acts.2
 have hll:=hO2.live.length_eq
 have hll2:=length_addFs ([]++[f]++[g]) []
 have htt:total W2.live=_:=(total_perm hO2.live).trans (total_addFs _ [])
 simp[hb1,hb2,hn1,hn2] at hll2 htt
 have hll3:W2.live.length≤2:=by rw[hll];exact hll2
 have hsT:sortT 2≤10:=by decide+kernel
 have e1:10*(W2.live.length+7)≤10*9:=Nat.mul_le_mul_left _ (by omega)
 have e2:10*(W2.live.length+12)≤10*14:=Nat.mul_le_mul_left _ (by omega)
 have hT:=Tours_ct bw bd ba bs W2 cd2 ca2 cs2 hW2 f g _ _ hin1' hin2 hf1 hf2 (by simp) 2 2 10 10 (by omega) (by omega) (by omega) (by omega) (by omega) (by omega) hsT (by omega) hsT (by rw[hO2.n,htt];simp;omega) (by rw[hO2.n,htt];simp;omega) (by omega)
 rw[hflv,hflv] at hT
 rw[hflv g]
 have her:errR (lnkL (namL [⟨0,0,0,0,0⟩,⟨1,0,0,0,0⟩] [⟨5,0,1,0,0⟩]))=none:=by decide+kernel
 have hln:(toursO [⟨0,0,0,0,0⟩,⟨1,0,0,0,0⟩] [⟨5,0,1,0,0⟩] (lnkL (namL [⟨0,0,0,0,0⟩,⟨1,0,0,0,0⟩] [⟨5,0,1,0,0⟩]))).length=2:=by decide+kernel
 rw[her] at hT
 repeat(refine st ?_;intros)
 refine R.call (hct:=hT) (h:= ?_)
 rintro _ _ (⟨_,x,e,cd3,ca3,cs3,W3,rfl,rfl,hW3,hS3,hw3⟩|⟨hsm,_⟩)
 rotate_left
 ·exfalso
  rw[hO2.room,hO2.used,hO2.size] at hsm
  revert hsm;decide
 dsimp only[List.cons_append,List.nil_append]
 obtain⟨rfl,_,hfo3,_⟩:=stepped_ok hS3 (hE2.fault (hE1.fault rfl))
 have hxc1:(x.count:Int)=2:=by rw[←hfo3.len,hln];rfl
 have hxw1:(x.width:Int)=5:=by rw[hw3 rfl];rfl
 rw[hflv x,hxc1,hxw1]
 repeat(refine st ?_;intros)
 (refine Dn.post (Hr:=[]) Tryz.results13 (hR:= ?_);exact⟨congrArg Value.bool (dec_true rfl),rfl⟩)
end Go.Proofs.YtammjnjpheobaaaGreat
namespace Go.Proofs.YtammjnjpheobaaaGreat
open Go.ChangeShapes Go.WideShapes Go.ChangeAt Go.RowKit Go.SL
theorem own:ownKnob Tryz.prog.godebug=none:=by kernel_rfl
theorem laidOut:laidOutB Tryz.prog=true:=by kernel_rfl
theorem below_of_st {W W':World} {H:Hp} (h:St W [] W' H):Below W.heap.size W W':=
 ⟨h.os,h.tape,h.output,h.size,fun k hk=>h.frame k hk (by simp)⟩
theorem trodAll_below {H:Type} {enc:TypeId×Value→H} {P:Program} {W W':World} (hl:laidOutB P=true) (hb:Below W.heap.size W W') {sp:Nat→Bool}:
  ∀(ts:List TypeId) (vs:List Value) (ds:List (DataW H)) (ps:List MemPlace),(∀t∈ts,P.readableRec t=true∧t<P.types.size)→
   DataW.TrodAll enc P W 0 (fun _=>true) true ts vs ds ps→(∀p∈ps,p.block<W.heap.size)→(∀p∈ps,sp p.block=true)→DataW.TrodAll enc P W' 0 sp true ts vs ds ps
 |[],vs,ds,ps,_,h,_,_=>by
  cases vs<;>cases ds<;>simp[DataW.TrodAll] at h⊢
  exact h
 |t::ts,vs,ds,ps,hr,h,hlt,hsp=>by
  obtain⟨v,vs',d,ds',p,q,rfl,rfl,rfl,h0,r0⟩:=trodAll_cons h
  have h1:=WideElems.Trod_stays hl (hr t List.mem_cons_self).1 (hr t List.mem_cons_self).2 h0 (fun x hx=>hb.same (hlt x (List.mem_append_left _ hx))) (fun x hx=>hsp x (List.mem_append_left _ hx))
  exact trodAll_cons_mk h1 (trodAll_below hl hb ts vs' ds' q (fun t ht=>hr t (List.mem_cons_of_mem _ ht)) r0 (fun x hx=>hlt x (List.mem_append_right _ hx)) (fun x hx=>hsp x (List.mem_append_right _ hx)))
theorem post_same {H:Type} {enc:TypeId×Value→H} {P:Program} {f:Func} {s:ChangeSpec} {apart fresh handsOn again:Bool} {W W':World} {args:Array Value} {v:Value} {ds gs:List (DataW H)} {before pa pv:List MemPlace}
  (hW:DataW.Whole enc P f.params.toList s.vars apart W args.toList ds gs before)
  (hres:∀(b:Nat) (sp:Nat→Bool) (hd:Bool),DataW.TrodAll enc P W' b sp hd f.resultTypes.toList (v.resultList f.resultTypes.size) (s.fn H (ds++gs)).results [])
  (hargs:∀sp:Nat→Bool,(∀p∈before,sp p.block=true)→DataW.TrodAll enc P W' 0 sp true f.params.toList args.toList (s.fn H (ds++gs)).args pa)
  (hvars:∀sp:Nat→Bool,(∀p∈before,sp p.block=true)→DataW.TrodVars enc P W' sp s.vars (s.fn H (ds++gs)).vars pv)
  (hps:before=pa++pv) (hk:W.keptBut W' (·∈before)) (hfz:∀a:Addr,a.block<W.heap.size→W'.frozen? a=W.frozen? a)
  (hok:∀(j:Nat) (t:TypeId) (r:Value),f.resultTypes[j]? =some t→(v.resultList f.resultTypes.size)[j]? =some r→Value.okWide P W' .any 0 t r):
  s.post enc P f apart fresh handsOn again W args v W':=by
 have hold:∀p∈before,(fun b=>decide (b<W.heap.size)) p.block=true:=fun p hp=>by simpa using hW.lt p hp
 have hltb:∀p∈before,p.block<W.heap.size:=fun p hp=>hW.lt p hp
 refine⟨ds,gs,before,[],pa,pv,hW,hres _ _ _,hargs _ hold,hvars _ hold,World.keptBut_mono (fun p hp=>⟨hp,?_⟩) hk,fun _=> ?_⟩
 ·rw[hps,List.mem_append] at hp
  exact Or.inr hp
 ·obtain⟨_,_,_,_,_,hz,hn⟩:=hW
  refine⟨hok,_,_,([]++pa)++pv,⟨[]++pa,pv,trodAll_append (hargs _ (fun _ _=>rfl)) (hres _ _ _),hvars _ (fun _ _=>rfl),rfl,?_,?_⟩,?_⟩
  ·intro b off hp
   have hp':MemPlace.cell b off∈before:=by rw[hps];simpa using hp
   rw[hfz _ (hltb _ hp')]
   exact hz b off hp'
  ·intro ha
   have:=hn ha
   rw[hps] at this
   simpa using this
  ·intro p hp _
   rw[hps]
   simpa using hp
theorem lawPost {H:Type} {enc:TypeId×Value→H} {P:Program} {f:Func} {s:ChangeSpec} {b:TypeId} {W W':World} {args:Array Value} {ds gs:List (DataW H)} {before:List MemPlace}
  (hW:DataW.Whole enc P f.params.toList s.vars false W args.toList ds gs before) (hv:s.vars=[]) (hres:f.resultTypes= #[b]) (hb:P.underlying b=some .bool) (hl:laidOutB P=true)
  (hr:∀t∈f.params.toList,P.readableRec t=true∧t<P.types.size) (hfn:s.fn H (ds++gs)={results:=[.lit (.bool true)],args:=ds}) (hbel:Below W.heap.size W W'):
  s.post enc P f false true false false W args (.bool true) W':=by
 have hW':=hW
 have hlt:∀p∈before,p.block<W.heap.size:=fun p hp=>hW'.lt p hp
 obtain⟨p,q,hA,hV,rfl,hfz,hnd⟩:=hW
 rw[hv] at hV
 have hq:q=[]:=by cases gs<;>simp[DataW.TrodVars] at hV;exact hV
 subst hq
 have hgs:gs=[]:=by cases gs<;>simp[DataW.TrodVars] at hV⊢
 subst hgs
 simp only[List.append_nil] at hW' hlt hfn
 refine post_same (pa:=p) (pv:=[]) hW' ?_ ?_ ?_ (by simp) ?_ ?_ ?_
 ·intro base sp hd
  simp only[List.append_nil,hfn,hres]
  exact trodAll_mk1 (shut_bool hb true)
 ·intro sp hsp
  simp only[List.append_nil,hfn]
  exact trodAll_below hl hbel _ _ _ _ hr hA hlt hsp
 ·intro sp _
  simp only[List.append_nil,hfn,hv]
  rfl
 ·exact hbel.frame _
 ·exact fun a ha=>hbel.frozen ha
 ·exact ok_one hres rfl (okWide_bool_mk hb true)
theorem st_nil (W:World):St W (keys []) W []:=
 ⟨by simp[keys],by simp,by simp[keys],fun _ _ _=>rfl,Nat.le_refl _,rfl,rfl,rfl⟩
theorem law_calls {P:Program} {f:FuncId} {args:List Value} (h:CtQ P f args [] (.bool true)) (W:World):
  Calls P f args.toArray W fun e W'=>e= .returned (.bool true)∧Below W.heap.size W W':=by
 unfold CtQ Ct at h
 refine(h W (st_nil W)).mono fun e W' ⟨v,H',h1,⟨h2,h3⟩,h4⟩=> ?_
 subst h2
 exact⟨h1,below_of_st h4⟩
theorem cellInt {P:Program} {W:World} {base:Nat} {e:TypeId} {k:IntKind} {v:Value} (he:P.underlying e=some (.int k)) (h:Cell.okWide P W .any base e v):∃n,v= .int k n∧k.has n=true:=by
 simp only[Cell.okWide,he] at h
 cases v<;>simp_all [Cell.ok]
theorem uncons {α:Type} {l:List α} {n:Nat} (h:l.length=n+1):∃a t,l=a::t∧t.length=n:=by
 match l,h with
 |a::t,h=>exact⟨a,t,rfl,by simpa using h⟩
end Go.Proofs.YtammjnjpheobaaaGreat
namespace Go.Proofs.YtammjnjpheobaaaGreat
open Go.ChangeShapes Go.WideShapes Go.ChangeAt Go.RowKit Go.SL Go.Tup
theorem below_of_st1 {W W':World} {c:Chunk} (hc:∀q∈c,W.heap[q.1]? =some q.2) (h:St W (keys [c]) W' [c]):Below W.heap.size W W':=
 ⟨h.os,h.tape,h.output,h.size,fun k hk=>by
  by_cases hm:k∈keys [c]
  ·simp only[keys,List.flatten_cons,List.flatten_nil,List.append_nil,List.mem_map] at hm
   obtain⟨q,hq,rfl⟩:=hm
   rw[hc q hq]
   exact h.sat q (by simpa using hq)
  ·exact h.frame k hk hm⟩
theorem law_calls1 {P:Program} {f:FuncId} {args:List Value} {c:Chunk} {W:World} (hc:∀q∈c,W.heap[q.1]? =some q.2) (hnd:(c.map (·.1)).Nodup) (h:CtQ P f args [c] (.bool true)):
  Calls P f args.toArray W fun e W'=>e= .returned (.bool true)∧Below W.heap.size W W':=by
 unfold CtQ Ct at h
 have hst:St W (keys [c]) W [c]:=by
  refine⟨by simpa[keys] using hnd,by simpa using hc,fun k hk=> .inl hk,fun _ _ _=>rfl,Nat.le_refl _,rfl,rfl,rfl⟩
 refine(h W hst).mono fun e W' ⟨v,H',h1,⟨h2,h3⟩,h4⟩=> ?_
 subst h2 h3
 exact⟨h1,below_of_st1 hc h4⟩
end Go.Proofs.YtammjnjpheobaaaGreat
namespace Go.Proofs.YtammjnjpheobaaaGreat
open Go.ChangeShapes Go.WideShapes Go.ChangeAt Go.RowKit Go.SL Go.Tup Go.Spc
theorem openU8 {P:Program} {W:World} {base:Nat} {T e:TypeId} {n:Nat} {v:Value} (hu:(∃fs,P.underlying T=some (.struct fs))∨∃m E,P.underlying T=some (.array m E)) (hct:P.cellTypes P.depth T=some (List.replicate n e)) (hc:P.cellsOf T=n)
  (he:P.underlying e=some (.int .u8)) (h:Value.okWide P W .any base T v):∃l:List Nat,l.length=n∧(∀x∈l,x<256)∧v= .agg (l.map fun (x:Nat)=>Value.int .u8 (x:Int)).toArray:=by
 have h':∃cs,v= .agg cs∧cs.size=P.cellsOf T∧Row.okWide P W .any base T cs:=by
  rcases hu with⟨fs,hu⟩|⟨m,E,hu⟩<;>simpa only[Value.okWide,hu] using h
 obtain⟨cs,rfl,hsz,ts,hts,hm,hall⟩:=h'
 rw[hct] at hts
 obtain rfl:=Option.some.inj hts
 rw[hc] at hsz
 obtain⟨l⟩:=cs
 have g:∀v∈l,∃x:Nat,x<256∧v=Value.int .u8 (x:Int):=by
  intro v hv
  obtain⟨i,hi,rfl⟩:=List.getElem_of_mem hv
  obtain⟨u,hu1,hu2⟩:=hall i l[i] (by simp)
  obtain rfl:=List.eq_of_mem_replicate (List.mem_of_getElem? hu1)
  obtain⟨x,hx,hr⟩:=cellInt he hu2
  simp[IntKind.has,IntKind.min,IntKind.max,IntKind.bits,IntKind.signed] at hr
  exact⟨x.toNat,by omega,by rw[hx,Int.toNat_of_nonneg (by omega)]⟩
 have:∃xs:List Nat,(∀x∈xs,x<256)∧l=xs.map fun (x:Nat)=>Value.int .u8 (x:Int):=by
  clear hall hsz hm h
  induction l with
  |nil=>exact⟨[],by simp,rfl⟩
  |cons v l ih=>
   obtain⟨x,hx,rfl⟩:=g v List.mem_cons_self
   obtain⟨xs,hxs,rfl⟩:=ih fun v hv=>g v (List.mem_cons_of_mem _ hv)
   exact⟨x::xs,by simpa using⟨hx,hxs⟩,rfl⟩
 obtain⟨xs,hxs,rfl⟩:=this
 exact⟨xs,by simpa using hsz,hxs,rfl⟩
theorem openNat8 {P:Program} {W:World} {base:Nat} {e:TypeId} {v:Value} (he:P.underlying e=some (.int .u8)) (h:Value.okWide P W .any base e v):∃x:Nat,x<256∧v= .int .u8 (x:Int):=by
 have h':Cell.okWide P W .any base e v:=by simpa only[Value.okWide,he] using h
 obtain⟨x,hx,hr⟩:=cellInt he h'
 simp[IntKind.has,IntKind.min,IntKind.max,IntKind.bits,IntKind.signed] at hr
 exact⟨x.toNat,by omega,by rw[hx,Int.toNat_of_nonneg (by omega)]⟩
theorem openNat16 {P:Program} {W:World} {base:Nat} {e:TypeId} {v:Value} (he:P.underlying e=some (.int .u16)) (h:Value.okWide P W .any base e v):∃x:Nat,x<65536∧v= .int .u16 (x:Int):=by
 have h':Cell.okWide P W .any base e v:=by simpa only[Value.okWide,he] using h
 obtain⟨x,hx,hr⟩:=cellInt he h'
 simp[IntKind.has,IntKind.min,IntKind.max,IntKind.bits,IntKind.signed] at hr
 exact⟨x.toNat,by omega,by rw[hx,Int.toNat_of_nonneg (by omega)]⟩
def ChIn (w:World) (c:Chunk):Prop:=∀q∈c,w.heap[q.1]? =some q.2
def Ch1 (c:Chunk):Prop:=c=[]∨∃q,c=[q]
theorem Ch1.rw {α:Type} {f:α→List Value} {k:Nat} {p:Option Addr} {m:Nat} {xs:List α} {c:Chunk} (h:Rw f k p m xs c):Ch1 c:=by
 rcases h.2 with⟨_,h⟩|⟨b,off,cs,T,fz,_,h,_⟩
 ·exact .inl h
 ·exact .inr ⟨_,h⟩
theorem two_ch {w:World} {c0 c1:Chunk} (h0:ChIn w c0) (h1:ChIn w c1) (s0:Ch1 c0) (s1:Ch1 c1):∃A,ChIn w A∧(A.map (·.1)).Nodup∧(∃r,A.Perm (c0++r))∧∃r,A.Perm (c1++r):=by
 rcases s0 with rfl|⟨q0,rfl⟩
 ·refine⟨c1,h1,?_,⟨c1,.refl _⟩,⟨[],by simp⟩⟩
  rcases s1 with rfl|⟨q1,rfl⟩<;>simp
 ·rcases s1 with rfl|⟨q1,rfl⟩
  ·exact⟨[q0],h0,by simp,⟨[],by simp⟩,⟨[q0],by simp⟩⟩
  ·by_cases hq:q0.1=q1.1
   ·have e0:=h0 q0 (by simp)
    have e1:=h1 q1 (by simp)
    rw[hq,e1,Option.some.injEq] at e0
    have:q0=q1:=by obtain⟨a,b⟩:=q0;obtain⟨a',b'⟩:=q1;simp only at hq e0;rw[hq,e0]
    subst this
    exact⟨[q0],h0,by simp,⟨[],by simp⟩,⟨[],by simp⟩⟩
   ·refine⟨[q0,q1],?_,by simp[hq],⟨[q1],.refl _⟩,⟨[q0],.swap _ _ _⟩⟩
    intro q hm
    simp only[List.mem_cons,List.not_mem_nil,or_false] at hm
    rcases hm with rfl|rfl
    ·exact h0 _ (by simp)
    ·exact h1 _ (by simp)
theorem Ct.inA {P:Program} {f:FuncId} {args:List Value} {c A r:Chunk} {H:Hp} {R:Value→Hp→Prop} (h:Ct P f args (c::H) fun v H'=>∃H1,H'=c::H1∧R v H1) (hA:A.Perm (c++r)):Ct P f args (A::H) fun v H'=>∃H1,H'=A::H1∧R v H1:=by
 have h2:= @Ct.frame P f args (c::H) [r] _ h
 have h3:Ct P f args (c::H++[r]) fun v H'=>∃H1,H'=c::H1++[r]∧R v H1:=by
  unfold Ct
  intro w hw
  refine(h2 hw).mono ?_
  rintro e w' ⟨v,H',h4,⟨H1,rfl,h5⟩,h6⟩
  exact⟨v,c::H1++[r],h4,⟨H1,rfl,h5⟩,h6⟩
 have hp:∀H1:Hp,(A::H1).flatten.Perm (c::H1++[r]).flatten:=fun H1=>by
  simp only[List.flatten_cons,List.flatten_append,List.flatten_nil,List.append_nil,List.cons_append]
  refine(hA.append_right _).trans ?_
  rw[List.append_assoc]
  exact List.Perm.append_left _ List.perm_append_comm
 refine Ct.convP h3 (hp H) ?_
 rintro v H' ⟨H1,rfl,h5⟩
 exact⟨A::H1,⟨H1,rfl,h5⟩,(hp H1).symm⟩
theorem CtQ.inA {P:Program} {f:FuncId} {args:List Value} {c A r:Chunk} {H:Hp} {v:Value} (h:CtQ P f args (c::H) v) (hA:A.Perm (c++r)):CtQ P f args (A::H) v:=by
 have h1:Ct P f args (c::H) fun v' H'=>∃H1,H'=c::H1∧(v'=v∧H1=H):=h.mono fun v' H' ⟨a,b⟩=>⟨H,b,a,rfl⟩
 exact(Ct.inA h1 hA).mono fun v' H' ⟨H1,a,b,c⟩=>⟨b,by rw[a,c]⟩
theorem pairs_of (cs:List Value):∀(len off:Nat),(∀i,i<len→∃e:IE,∀j,j<2→cs[off+i*2+j]? =(ecl e)[j]?)→∃es:List IE,es.length=len∧(cs.drop off).take (len*2)=es.flatMap ecl
 |0,off,_=>⟨[],rfl,by simp⟩
 |len+1,off,h=>by
  obtain⟨t,ht⟩:=h 0 (by omega)
  obtain⟨ts,hl,he⟩:=pairs_of cs len (off+2) (fun i hi=>by
   obtain⟨t,ht⟩:=h (i+1) (by omega)
   exact⟨t,fun j hj=>by rw[←ht j hj];congr 1;omega⟩)
  refine⟨t::ts,by simp[hl],?_⟩
  have hd:cs.drop off=ecl t++cs.drop (off+2):=by
   apply List.ext_getElem?
   intro j
   rw[List.getElem?_drop]
   by_cases hj:j<2
   ·rw[List.getElem?_append_left (by simpa[ecl] using hj),←ht j hj];simp
   ·rw[List.getElem?_append_right (by simp[ecl];omega),List.getElem?_drop]
    congr 1
    simp[ecl];omega
  rw[hd,List.flatMap_cons,←he,List.take_append]
  rw[List.take_of_length_le (by simp[ecl];omega)]
  congr 2
  simp[ecl];omega
theorem open_graphR {H:Type} {enc:TypeId×Value→H} {P:Program} {w:World} {base:Nat} {t E:TypeId} {f0 f1 g0 g1:Field} {v:Value} {d:DataW H} {ps:List MemPlace} (ht:P.underlying t=some (.struct #[f0,f1]))
  (hI:P.underlying f0.type=some (.int .i64)) (hE:P.underlying f1.type=some (.slice E)) (hEu:P.underlying E=some (.struct #[g0,g1])) (hg0:P.underlying g0.type=some (.int .i64)) (hg1:P.underlying g1.type=some (.int .i64))
  (ho0:f0.offset=0) (ho1:f1.offset=1) (hc0:P.cellsOf f0.type=1) (hc1:P.cellsOf f1.type=1) (hct:P.cellsOf t=2) (ce:P.cellsOf E=2) (ho2:g0.offset=0) (ho3:g1.offset=1) (hc2:P.cellsOf g0.type=1) (hc3:P.cellsOf g1.type=1)
  (h:DataW.Trod enc P w 0 (fun _=>true) true t v d ps) (hok:Value.okWide P w .any base t v):
  ∃n p m cap es c,v=gv n p m cap∧Rw ecl 2 p m es c∧m≤maxLen∧(∀q∈c,w.heap[q.1]? =some q.2)∧(c.map (·.1)).Nodup:=by
 have h':∃cs,v= .agg cs∧cs.size=P.cellsOf t∧Row.okWide P w .any base t cs:=by
  simpa only[Value.okWide,ht] using hok
 obtain⟨cs,rfl,hsz,_⟩:=h'
 obtain⟨l⟩:=cs
 rw[hct] at hsz
 obtain⟨a,b,rfl⟩:∃a b,l=[a,b]:=by
  match l,hsz with
  |[a,b],_=>exact⟨a,b,rfl⟩
 obtain⟨fuel,h⟩:=h
 obtain⟨y0,y1,k,_,_,h0,h1⟩:=trod_struct2 ht h
 rw[ho0,hc0] at h0
 rw[ho1,hc1] at h1
 simp only[Value.cells,List.drop_zero,List.drop_succ_cons,List.take_succ_cons,List.take_zero] at h0 h1
 obtain⟨n,hn,_,_⟩:=DataW.trod_int hI h0
 obtain rfl:a= .int .i64 n:=by simpa using hn
 rcases Go.Deep.open_slice_pairs hE hEu ce ho2 ho3 hc2 hc3 h1 with⟨hb,_⟩|⟨ad,len,cap,m,k',V0,V1,D0,D1,P0,P1,hb,_,hl,hm,hmm,_,hx⟩
 ·obtain rfl:b= .slice none 0 0:=by simpa using hb
  exact⟨n,none,0,0,[],[],rfl,⟨rfl,.inl ⟨rfl,rfl⟩⟩,by decide,by simp,by simp⟩
 ·obtain rfl:b= .slice (some ad) len cap:=by simpa using hb
  by_cases hz:len=0
  ·subst hz
   exact⟨n,some ad,0,cap,[],[],rfl,⟨rfl,.inl ⟨rfl,rfl⟩⟩,by decide,by simp,by simp⟩
  ·simp only[if_true] at hmm
   subst hmm
   have each:∀i,i<len→∃e:IE,∀j,j<2→w.cell? (ad.add (i*2+j))=(ecl e)[j]? :=by
    intro i hi
    obtain⟨x0,x1,t0,t1⟩:=hx i (by omega)
    obtain⟨a0,ha0,_,_⟩:=DataW.trod_int hg0 t0
    obtain⟨a1,ha1,_,_⟩:=DataW.trod_int hg1 t1
    refine⟨(a0,a1),fun j hj=> ?_⟩
    match j,hj with
    |0,_=>rw[Nat.add_zero,x0];simpa[ecl] using ha0
    |1,_=>rw[x1];simpa[ecl] using ha1
   obtain⟨bk,off,spot⟩:=ad
   obtain⟨t0,ht0⟩:=each 0 (by omega)
   have hq0:=ht0 0 (by omega)
   have hs:spot=none:=by
    cases spot with
    |none=>rfl
    |some s=>
     exfalso
     simp only[Addr.add,World.cell?,ecl,List.getElem?_cons_zero] at hq0
     revert hq0
     split<;>simp
   subst hs
   have hadd:∀i,((⟨bk,off,none⟩:Addr).add i)=⟨bk,off+i,none⟩:=fun i=>Addr.add_mk ..
   cases hbk:w.heap[bk]? with
   |none=>rw[hadd] at hq0;simp[World.cell?,hbk,ecl] at hq0
   |some ob=>
    cases ob with
    |cells arr T fz=>
     obtain⟨es,hes,hflat⟩:=pairs_of arr.toList len off (fun i hi=>by
      obtain⟨t,ht⟩:=each i hi
      refine⟨t,fun j hj=> ?_⟩
      rw[←ht j hj,hadd,cell_of_row w bk _ arr T fz hbk]
      simp[Nat.add_assoc])
     refine⟨n,_,len,_,es,[(bk,rowf arr.toList T fz)],rfl,⟨hes,.inr ⟨bk,off,arr.toList,T,fz,rfl,rfl,hflat⟩⟩,by omega,?_,by simp⟩
     intro q hq
     simp only[List.mem_singleton] at hq
     subst hq
     simpa[rowf] using hbk
    |_=>rw[hadd] at hq0;simp[World.cell?,hbk,ecl] at hq0
end Go.Proofs.YtammjnjpheobaaaGreat
namespace Go.Proofs.YtammjnjpheobaaaGreat
open Go.SL Go.Spc Go.Tup Go.Srt
theorem formed_in {n:Int} {es:List IE} (h:formedB n es=true):0≤n∧∀e∈es,inE n e:=by
 unfold formedB at h
 rw[Bool.and_eq_true,decide_eq_true_iff,List.all_eq_true] at h
 exact⟨h.1.1,fun e he=>of_decide_eq_true (h.2 e he)⟩
end Go.Proofs.YtammjnjpheobaaaGreat
namespace Go.Proofs.YtammjnjpheobaaaGreat
open Go.SL Go.Tup Go.Srt Go.Gr
def keyL (x y:T5):Prop:=x.c3<y.c3∨x.c3=y.c3∧x.c4<y.c4
structure StepOk (es:List IE) (b:List T5) (k:Nat) (t:T5):Prop where
 num:0≤t.c0∧t.c0<2*(es.length:Int)
 once:∀j u,b[j]? =some u→u.c0=t.c0→j=k
 fst:(k=0∨∃u,b[k-1]? =some u∧u.c3≠t.c3)→t.c4=0∧t.c1=t.c3
 mid:0<k→∀u,b[k-1]? =some u→u.c3=t.c3→t.c4=u.c4+1∧t.c1=u.c2
 lst:(k+1=b.length∨∃u,b[k+1]? =some u∧u.c3≠t.c3)→t.c2=t.c3
 edg:∃d,es[(t.c0/2).toNat]? =some d∧(t.c0%2=0→t.c1=d.1∧t.c2=d.2)∧(t.c0%2=1→t.c1=d.2∧t.c2=d.1)
namespace PartsOk
variable {N:Nat} {es:List IE} {lab:List Int} {fl:List Bool} {r b:List T5}
theorem keys (h:PartsOk N es lab fl r b) (hf:∀e∈es,inE N e):b.Pairwise keyL:=by
 rw[h.tours]
 unfold toursF toursTo
 rw[List.pairwise_flatMap]
 constructor
 ·intro i hi
  have hi:=List.mem_range.1 hi
  split
  ·unfold tourL
   rw[List.pairwise_map]
   refine List.pairwise_lt_range.imp fun {n m} hnm=> ?_
   have h1:=h.arcs.it_lab (h.hl hf) hi n
   have h2:=h.arcs.it_lab (h.hl hf) hi m
   right
   unfold arcAt
   dsimp only
   exact⟨h1.trans h2.symm,by omega⟩
  ·exact List.Pairwise.nil
 ·rw[List.pairwise_iff_getElem]
  intro i j hi hj hij x hx y hy
  rw[List.length_range] at hi hj
  simp only[List.getElem_range] at hx hy
  split at hx
  next hri=>
   split at hy
   next hrj=>
    unfold tourL at hx hy
    obtain⟨n,_,rfl⟩:=List.mem_map.1 hx
    obtain⟨m,_,rfl⟩:=List.mem_map.1 hy
    left
    have h1:=h.arcs.it_lab (h.hl hf) hi n
    have h2:=h.arcs.it_lab (h.hl hf) hj m
    have h3:=h.arcs.root_uniq hij hj hri hrj
    have h4:=at5le h.arcs.sa (show i≤j by omega) hj
    have h5:=hri
    have h6:=hrj
    unfold rootB at h5 h6
    have h5:=(of_decide_eq_true h5).1
    have h6:=(of_decide_eq_true h6).1
    unfold arcAt
    dsimp only
    omega
   next=>simp at hy
  next=>simp at hx
theorem nums_b (h:PartsOk N es lab fl r b) (hf:∀e∈es,inE N e):(b.map (·.c0)).Perm (r.map (·.c0)):=by
 rw[h.tours]
 show((toursTo r r.length).map (·.c0)).Perm _
 rw[map_tours]
 refine((h.idx_perm hf).map _).trans (List.Perm.of_eq ?_)
 conv=>rhs;rw[←range_at5 r,List.map_map]
 rfl
theorem step_ok (h:PartsOk N es lab fl r b) (hf:∀e∈es,inE N e) {k:Nat} {t:T5} (ht:b[k]? =some t):StepOk es b k t:=by
 have hk:=(List.getElem?_eq_some_iff.1 ht).1
 have hs:=List.pairwise_iff_getElem.1 (h.keys hf)
 have hord:∀{i j:Nat} {x y:T5},b[i]? =some x→b[j]? =some y→i<j→keyL x y:=by
  intro i j x y hx hy hij
  obtain⟨i1,rfl⟩:=List.getElem?_eq_some_iff.1 hx
  obtain⟨j1,rfl⟩:=List.getElem?_eq_some_iff.1 hy
  exact hs i j i1 j1 hij
 have hat:∀{t:T5},t∈b→∃j,b[j]? =some t:=fun ht=>by
  obtain⟨j,hj,rfl⟩:=List.mem_iff_getElem.1 ht
  exact⟨j,List.getElem?_eq_getElem hj⟩
 have hnd:(b.map (·.c0)).Nodup:=(h.nums_b hf).nodup_iff.2 ((h.arcs.perm.map _).nodup_iff.2 (nodup_two h.arcs.nd _))
 obtain⟨i,n,hi,hr,hn,rfl⟩:=h.b_arc (List.mem_of_getElem? ht)
 have hroot:=hr
 unfold rootB at hroot
 have hroot:=(of_decide_eq_true hroot).1
 have hlab:=h.arcs.it_lab (h.hl hf) hi
 have hc3:∀n,(arcAt r i n).c3=(at5 r i).c3:=fun n=>hlab n
 have hc4:∀n:Nat,(arcAt r i n).c4=(n:Int):=fun n=>rfl
 have hkn:=itF_lt (f:=sigF r) sigF_lt hi n
 have hprev:0<n→∃j,j<k∧b[j]? =some (arcAt r i (n-1)):=fun h0=>by
  obtain⟨j,hj⟩:=hat (h.arc_b hi hr (show n-1<perA r i by omega))
  refine⟨j,?_,hj⟩
  rcases Nat.lt_trichotomy j k with h1|h1|h1
  ·exact h1
  ·subst h1
   rw[ht] at hj
   have:=congrArg (fun o:Option T5=>o.map (·.c4)) hj
   simp only[Option.map_some,hc4,Option.some.injEq] at this
   omega
  ·have:=hord ht hj h1
   unfold keyL at this
   rw[hc3,hc3,hc4,hc4] at this
   omega
 have hadj:0<n→0<k∧b[k-1]? =some (arcAt r i (n-1)):=fun h0=>by
  obtain⟨j,hj,hb⟩:=hprev h0
  refine⟨by omega,?_⟩
  by_cases hjk:j=k-1
  ·rw[←hjk];exact hb
  ·have hu:b[k-1]? =some b[k-1]:=List.getElem?_eq_getElem (by omega)
   have h1:=hord hb hu (by omega)
   have h2:=hord hu ht (by omega)
   unfold keyL at h1 h2
   rw[hc3,hc4] at h1 h2
   omega
 have hnum:=h.arc_of hf hkn
 obtain⟨e,d,x,hd,_,_,_,hx⟩:=hnum
 have hel:=(List.getElem?_eq_some_iff.1 hd).1
 have ha0:(arcAt r i n).c0=(at5 r (itF (sigF r) n i)).c0:=rfl
 have ha1:(arcAt r i n).c1=(at5 r (itF (sigF r) n i)).c1:=rfl
 have ha2:(arcAt r i n).c2=(at5 r (itF (sigF r) n i)).c2:=rfl
 refine⟨?_,?_,?_,?_,?_,?_⟩
 ·rw[ha0]
  rcases hx with hx|hx<;>rw[hx]<;>dsimp only<;>omega
 ·intro j u hu he
  obtain⟨j1,rfl⟩:=List.getElem?_eq_some_iff.1 hu
  have hkt:b[k]=arcAt r i n:=by
   rw[List.getElem?_eq_getElem hk] at ht;exact Option.some.inj ht
  have hp:=List.pairwise_iff_getElem.1 hnd
  rcases Nat.lt_trichotomy j k with h1|h1|h1
  ·refine absurd ?_ (hp j k (by simpa using j1) (by simpa using hk) h1)
   simp only[List.getElem_map];rw[he,hkt]
  ·exact h1
  ·refine absurd ?_ (hp k j (by simpa using hk) (by simpa using j1) h1)
   simp only[List.getElem_map];rw[he,hkt]
 ·intro hfst
  have hn0:n=0:=by
   rcases Nat.eq_zero_or_pos n with h0|h0
   ·exact h0
   ·exfalso
    obtain⟨h1,h2⟩:=hadj h0
    rcases hfst with h3|⟨u,hu,hne⟩
    ·omega
    ·rw[h2] at hu;cases hu
     rw[hc3,hc3] at hne
     exact hne rfl
  subst hn0
  refine⟨rfl,?_⟩
  rw[hc3]
  exact hroot
 ·intro h0 u hu he
  have hn0:0<n:=by
   rcases Nat.eq_zero_or_pos n with h1|h1
   ·exfalso
    subst h1
    have h2:=hord hu ht (by omega)
    obtain⟨i',n',_,_,_,rfl⟩:=h.b_arc (List.mem_of_getElem? hu)
    unfold keyL at h2
    rw[he,hc4] at h2
    have:(arcAt r i' n').c4=(n':Int):=rfl
    omega
   ·exact h1
  obtain⟨_,h2⟩:=hadj hn0
  rw[h2] at hu;cases hu
  refine⟨by rw[hc4,hc4];omega,?_⟩
  rw[ha1]
  show _=(at5 r (itF (sigF r) (n-1) i)).c2
  rw[←h.arcs.sig_from (itF_lt (f:=sigF r) sigF_lt hi (n-1))]
  have:itF (sigF r) n i=sigF r (itF (sigF r) (n-1) i):=by
   obtain⟨m,rfl⟩:∃m,n=m+1:=⟨n-1,by omega⟩
   rfl
  rw[this]
 ·intro hlst
  have hn1:n+1=perA r i:=by
   rcases Nat.lt_or_ge (n+1) (perA r i) with h1|h1
   ·exfalso
    obtain⟨j,hj⟩:=hat (h.arc_b hi hr h1)
    have hjl:=(List.getElem?_eq_some_iff.1 hj).1
    have hkj:k<j:=by
     rcases Nat.lt_trichotomy j k with h2|h2|h2
     ·have:=hord hj ht h2
      unfold keyL at this
      rw[hc3,hc3,hc4,hc4] at this
      omega
     ·subst h2
      rw[ht] at hj
      have:=congrArg (fun o:Option T5=>o.map (·.c4)) hj
      simp only[Option.map_some,hc4,Option.some.injEq] at this
      omega
     ·exact h2
    rcases hlst with h3|⟨u,hu,hne⟩
    ·omega
    ·have h4:=hord ht hu (by omega)
     by_cases hjk:j=k+1
     ·subst hjk
      rw[hj] at hu;cases hu
      rw[hc3,hc3] at hne;exact hne rfl
     ·have h5:=hord hu hj (by omega)
      unfold keyL at h4 h5
      rw[hc3,hc4] at h4 h5
      rw[hc3] at hne
      omega
   ·omega
  rw[ha2,←h.arcs.sig_from hkn,hc3]
  have:sigF r (itF (sigF r) n i)=itF (sigF r) (n+1) i:=rfl
  rw[this,hn1,(h.arcs.per hi).2.2.1]
  exact hroot
 ·rw[ha0,ha1,ha2]
  rcases hx with hx|hx
  ·rw[hx]
   refine⟨d,?_,fun _=>⟨rfl,rfl⟩,fun h=>by dsimp only at h;omega⟩
   dsimp only
   rw[show(2*(e:Int)/2).toNat=e by omega];exact hd
  ·rw[hx]
   refine⟨d,?_,fun h=>by dsimp only at h;omega,fun _=>⟨rfl,rfl⟩⟩
   dsimp only
   rw[show((2*(e:Int)+1)/2).toNat=e by omega];exact hd
theorem both_b (h:PartsOk N es lab fl r b) (hf:∀e∈es,inE N e) {t:T5} (ht:t∈forT (edT es) fl):(∃u∈b,u.c0=2*t.c0)∧∃u∈b,u.c0=2*t.c0+1:=by
 have hm:∀x:Int,x∈r.map (·.c0)→∃u∈b,u.c0=x:=fun x hx=>by
  obtain⟨u,hu,e⟩:=List.mem_map.1 ((h.nums_b hf).mem_iff.2 hx)
  exact⟨u,hu,e⟩
 have ha:∀z∈arcs2 (labT lab) t,z.c0∈r.map (·.c0):=fun z hz=>List.mem_map.2 ⟨z,h.arcs.perm.mem_iff.2 (List.mem_flatMap.2 ⟨t,ht,hz⟩),rfl⟩
 unfold arcs2 at ha
 exact⟨hm _ (ha _ List.mem_cons_self),hm _ (ha _ (List.mem_cons_of_mem _ List.mem_cons_self))⟩
theorem len_b (h:PartsOk N es lab fl r b) (hf:∀e∈es,inE N e):b.length=2*(forT (edT es) fl).length:=by
 have:=(h.nums_b hf).length_eq
 rw[List.length_map,List.length_map] at this
 rw[this,h.len]
end PartsOk
end Go.Proofs.YtammjnjpheobaaaGreat
namespace Go.Proofs.YtammjnjpheobaaaGreat
open Go.SL Go.Tup Go.Gr
theorem ecl_one (es:List IE):(es.flatMap ecl).all Value.oneCell'=true:=by
 rw[List.all_eq_true]
 intro v hv
 obtain⟨e,_,he⟩:=List.mem_flatMap.1 hv
 simp only[ecl,List.mem_cons,List.not_mem_nil,or_false] at he
 rcases he with rfl|rfl<;>rfl
theorem ecl_all_len (es:List IE):(es.flatMap ecl).length=es.length*2:=by
 induction es with
 |nil=>rfl
 |cons e es ih=>rw[List.flatMap_cons,List.length_append,ih,List.length_cons];simp only[ecl,List.length_cons,List.length_nil];omega
end Go.Proofs.YtammjnjpheobaaaGreat
