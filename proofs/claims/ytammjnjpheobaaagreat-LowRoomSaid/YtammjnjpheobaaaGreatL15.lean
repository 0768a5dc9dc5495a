/-
  Parts of the proof, put together (15). No condition.
-/
import Derived.Below
import Derived.Carry
import Derived.Deep.SlicePairs
import Derived.Deep.Slices
import Derived.OpenShut
import Derived.ProofKit
import Derived.Test.YtammjnjpheobaaaGreatRows
import Derived.Test.YtammjnjpheobaaaGreatL14
set_option linter.unusedVariables false
set_option linter.unusedSimpArgs false
set_option linter.unnecessarySimpa false
set_option maxHeartbeats 4000000
open Go.IntKind renaming wrap→AH
open Go.Proofs.Tryz renaming prog→AC
open List renaming cons_append→AA,nil_append→AB,getElem?_eq_getElem→AE,mem_cons_self→AI,mem_cons_of_mem→AJ,getElem?_eq_some_iff→AK,length_cons→AL,mem_cons→AM,append_nil→AQ,length_nil→AU,mem_singleton→AY,mem_of_getElem?→AZ,take_of_length_le→A4,flatMap_cons→A6,getElem?_append_left→A7,getElem?_append_right→BB,getElem?_eq_none→BC,mem_append_right→BL,mem_append_left→BO,getElem?_drop→BS,replicate→BW,ext_getElem?→CD
open Nat renaming reduceAdd→AD,le_refl→AG,zero_le→AS,mul_le_mul_left→BU,add_zero→B6,sub_self→DF
open Option.some renaming inj→BG
namespace Go.Proofs.YtammjnjpheobaaaGreat
open Go.SL Go.Spc Go.Tup Go.Srt
theorem aJk (n:Nat) (hn:n≤1000):Ct AC 28 [.int .i64 (n:Int)] [] fun v H'=>
  ∃bw bd ba bs cd ca cs,v=pv bw∧H'=[aAh bw bd ba bs,cd,ca,cs]∧Wc bd ba bs (wk0 10 9000 (10*n)) cd ca cs:=by
 have hDn:=bJu 10 9000 (by omega) (by omega)
 have hAn:=aWu (10*n) (by omega)
 have hSn:=aWp 9000 (by omega) (by omega)
 have e1:AH .i64 ((10:Int)*(n:Int))=((10*n:Nat):Int):=by rw[aAd (by omega)];omega
 refine Ct.intro Tryz.func28 rfl Tryz.ntmps28 (nle rfl) fun w0=> ?_;dsimp only[aAa,AD]
 repeat(refine st ?_;intros)
 refine R.call (hct:=hDn) (h:= ?_)
 rintro _ _ ⟨bd,cd,rfl,rfl,hdev⟩
 try dsimp only[AA,AB]
 repeat(refine st ?_;intros)
 refine R.call (hct:=hAn) (h:= ?_)
 rintro _ _ ⟨ba,ca,rfl,har,rfl⟩
 try dsimp only[AA,AB]
 repeat(refine st ?_;intros)
 refine R.call (hct:=hSn) (h:= ?_)
 rintro _ _ ⟨bs,cs,rfl,hsp,rfl⟩
 try dsimp only[AA,AB]
 have hFn:=bCc bd ba bs
 repeat(refine st ?_;intros)
 refine R.call (hct:=hFn) (h:= ?_)
 rintro _ _ ⟨bw,rfl,rfl⟩
 try dsimp only[AA,AB]
 repeat(refine st ?_;intros)
 (refine Dn.post (Hr:=[aAh bw bd ba bs,cd,ca,cs]) Tryz.results28 (hR:= ?_);exact⟨bw,bd,ba,bs,cd,ca,cs,rfl,rfl,wc0 (by omega) hdev har hsp⟩)
theorem aWa (bw bd ba bs:Nat) (W:Wk) (ca cs:aAc) (har:aKm ba W.α ca) (hsp:aEr bs W.σ cs) (p:Option Addr) (n cap:Nat) (fs:List Fl) (c:aAc) (hv:Rw fl4 4 p n fs c) (hn:n≤100) (hu:W.α.used=0) (ht:aBb W.σ.free+aTc fs=9000):
  CtQ AC 35 [pv bw,.slice p n cap] [aAh bw bd ba bs,ca,cs,c] (.bool true):=by
 have hl:=hv.1
 have hWA:=aGt bw bd ba bs
 have hWS:=bDj bw bd ba bs
 have hUs:=bHy ba W.α ca har
 have hPk:=aPeak ba W.α ca har
 have hRm:=aRoom ba W.α ca har
 have hFr:=bHt bs W.σ cs hsp
 have hpk:=bOq har
 rw[hu] at hUs
 refine Ct.intro Tryz.func35 rfl Tryz.ntmps35 (nle rfl) fun w0=> ?_;dsimp only[aAa,AD]
 repeat(first|(refine st ?_;intros)|(refine cq hWA ?_)|(refine cq hWS ?_)|(refine cq hUs ?_)|(refine cq hFr ?_)|(refine cq hPk ?_)|(refine cq hRm ?_))
 refine G.loop (X:=Nat) (fun i=>i≤n) (fun i=>[(6,.int .i64 (i:Int)),(5,.int .i64 (aTc (fs.take i):Int)),(1,.slice p n cap),(0,pv bw)])
  (fun _=>[aAh bw bd ba bs,ca,cs,c]) (fun i=>n-i) 0 (AS _) (body:= ?_)
 intro i hi
 have hsl:=bGy fs i
 by_cases hlt:i<n
 ·obtain⟨b,off,cc,T,fz,rfl,rfl,_,hget⟩:=hv.pos fl4len (by omega)
  have hit:fs[i]? =some fs[i]:=AE (by omega)
  have q1:=hget i 1 _ _ hit rfl
  have hst:=bGx hit
  have hsl2:=bGy fs (i+1)
  generalize fs[i]=f at*
  have e1:AH .i64 ((aTc (fs.take i):Int)+(f.blocks:Int))=((aTc (fs.take (i+1)):Nat):Int):=by rw[aAd (by omega)];omega
  repeat(first|(refine st ?_;intros)|(refine cq hWA ?_)|(refine cq hWS ?_)|(refine cq hUs ?_)|(refine cq hFr ?_)|(refine cq hPk ?_)|(refine cq hRm ?_))
  refine Dn.round (i+1) (by omega) (by omega)
 ·obtain rfl:i=n:=by omega
  rw[A4 (by omega)]
  have e1:AH .i64 ((9000:Int)-(aTc fs:Int))=(aBb W.σ.free:Int):=by rw[aAd (by omega)];omega
  repeat(first|(refine st ?_;intros)|(refine cq hWA ?_)|(refine cq hWS ?_)|(refine cq hUs ?_)|(refine cq hFr ?_)|(refine cq hPk ?_)|(refine cq hRm ?_))
  (refine Dn.post (Hr:=[aAh bw bd ba bs,ca,cs,c]) Tryz.results35 (hR:= ?_);exact⟨congrArg Value.bool (aBq (by omega)),rfl⟩)
theorem aLc {n:Int} {es:List IE} (h:aCc n es=true):0≤n∧∀e∈es,inE n e:=by
 unfold aCc at h
 rw[Bool.and_eq_true,decide_eq_true_iff,List.all_eq_true] at h
 exact⟨h.1.1,fun e he=>of_decide_eq_true (h.2 e he)⟩
open Go.Gr
theorem aHv {bw bd ba bs n ro:Nat} (hro:10≤ro) {W:Wk} {cd ca cs:aAc} (hW:Wc bd ba bs W cd ca cs) {fs:List Fl} (hO:Ons n ro W fs) (hf:W.δ.fault= -1) (hac:W.δ.acts≤1000000) (k:Nat) (h1:1≤k) (h2:k≤5) {p:Option Addr} {m cap:Nat} {ts:List T5} {c:aAc} (hv:RV p m ts c) (hm:m≤10000) (hok:∀t∈ts,okT k t) (hb:m≤big W.σ.free):
  Ct AC 34 [pv bw,.int .i64 (k:Int),.slice p m cap] [aAh bw bd ba bs,cd,ca,cs,c] fun v H'=>
   ∃cd' ca' cs' W' f,v= .tuple #[flv f,.int .i64 0]∧H'=[aAh bw bd ba bs,cd',ca',cs',c]∧Wc bd ba bs W' cd' ca' cs'∧Ons n ro W' (fs++[f])∧aBx W' (f,ts)∧f.width=k∧f.count=m∧W'.δ.fault= -1∧W'.δ.acts≤W.δ.acts+m∧big W.σ.free≤big W'.σ.free+m∧(∀z,aBx W z→aBx W' z):=by
 have hnb:aAb 10 k m≤m:=aAv (aAj (by omega) h1 h2)
 have h:=Lay_k bw bd ba bs W cd ca cs hW k h1 h2 p m cap ts c hv (by omega) hok (by rw[hO.size,hO.room,hO.used];omega) hf (by omega) (by rw[hO.size];omega)
 refine h.mono ?_
 rintro v H' ⟨cd',ca',cs',W',f,rfl,rfl,hW1,hE,hK,hg,hl,hf1,hc1,hb1,hfo⟩
 rw[hO.size] at hE hfo
 obtain⟨h3,h4⟩:=hO.lay hW hW1 hE hg hl hfo (by omega)
 have h5:=hE.acts.2
 have h6:=hE.big
 exact⟨cd',ca',cs',W',f,rfl,rfl,hW1,h3,h4,hf1,hc1,hE.fault hf,by omega,by omega,fun z hz=>hz.stay hE.size hK (bAc hl)⟩
theorem aNn (bw bd ba bs ro:Nat) (hro:80≤ro) (cd ca cs:aAc) (hW:Wc bd ba bs (wk0 10 9000 ro) cd ca cs) (N:Nat) (hN:N≤40) (p:Option Addr) (m cap:Nat) (es:List IE) (c:aAc) (hv:Rw ecl 2 p m es c) (hm:m≤70) (hf:∀e∈es,inE N e):
  Ct AC 32 [pv bw,gv N p m cap] [aAh bw bd ba bs,cd,ca,cs,c] fun v H'=>∃cd' ca' cs' W' po oc co bq qs fs lab fl r b tl l o,v= .tuple #[.slice po N oc,.slice (some ⟨bq,0,none⟩) 4 4,.int .i64 0]∧H'=[aAh bw bd ba bs,cd',ca',cs',c,co,qs]∧Wc bd ba bs W' cd' ca' cs'∧
   Rw fl4 4 (some ⟨bq,0,none⟩) 4 fs qs∧Ons 9000 ro W' fs∧Vec 49 5 po N oc (flat o) co∧aAm N es lab fl r b∧aAw N es lab b tl l∧aHy N es fl l o∧aKy (aHg lab) b=l:=by
 have hflv:∀f:Fl,flv f= .agg #[.int .i64 (f.first:Int),.int .i64 (f.blocks:Int),.int .i64 (f.width:Int),.int .i64 (f.count:Int)]:=fun _=>rfl
 have hel:=hv.1
 have hOf:=aVz N (by omega) p m cap es c hv (by omega) hf
 have hO0:=Ons.fresh 9000 ro
 have hg0:big (wk0 10 9000 ro).σ.free=9000:=big0 10 9000 ro
 unfold gv at hOf⊢
 refine Ct.intro Tryz.func32 rfl Tryz.ntmps32 (nle rfl) fun w0=> ?_;dsimp only[aAa,AD]
 repeat(first|(refine st ?_;intros)|refine G.draw [] (h:= ?_))
 refine R.call (hct:=hOf) (h:= ?_)
 rintro _ _ ⟨pe,ke,ce,pl,kl,cl,pf,nf,kf,cf,pt,nt,kt,ct,pz,kz,cz,lab,fl,r,b,tl,l,rfl,rfl,hOk⟩
 try dsimp only[AA,AB]
 have hP:=hOk.parts
 have hT:=hOk.tab
 have hle:=hP.for_le hf
 have hnf:(aCq (edT es) fl).length=nf:=hOk.f.1
 have hL1:=aHv (bw:=bw) (cap:=kz) (by omega) hW hO0 rfl (AS _) 5 (by omega) (by omega) hOk.o (by omega) (hT.okT (by omega)) (by omega)
 repeat(first|(refine st ?_;intros)|refine G.draw [] (h:= ?_))
 refine R.call (hct:=hL1) (h:= ?_)
 rintro _ _ ⟨cd1,ca1,cs1,W1,f1,rfl,rfl,hW1,hO1,hi1,w1,c1,ft1,a1,b1,k1⟩
 try dsimp only[AA,AB]
 rw[show(wk0 10 9000 ro).δ.acts=0 from rfl] at a1
 have hL2:=aHv (bw:=bw) (cap:=kf) (by omega) hW1 hO1 ft1 (by omega) 3 (by omega) (by omega) hOk.f (by omega) (aNm hf (by omega) (by omega) fl) (by omega)
 rw[hflv]
 repeat(first|(refine st ?_;intros)|refine G.draw [] (h:= ?_))
 refine R.call (hct:=hL2) (h:= ?_)
 rintro _ _ ⟨cd2,ca2,cs2,W2,f2,rfl,rfl,hW2,hO2,hi2,w2,c2,ft2,a2,b2,k2⟩
 try dsimp only[AA,AB]
 have hL3:=aHv (bw:=bw) (cap:=ke) (by omega) hW2 hO2 ft2 (by omega) 3 (by omega) (by omega) hOk.e (by omega) (aPf hf (by omega) (by omega)) (by omega)
 rw[hel] at hL3
 rw[hflv]
 repeat(first|(refine st ?_;intros)|refine G.draw [] (h:= ?_))
 refine R.call (hct:=hL3) (h:= ?_)
 rintro _ _ ⟨cd3,ca3,cs3,W3,f3,rfl,rfl,hW3,hO3,hi3,w3,c3,ft3,a3,b3,k3⟩
 try dsimp only[AA,AB]
 have hLo:=aVy bw bd ba bs ro hro N hN es (by omega) hf W3 cd3 ca3 cs3 hW3 f1 f2 f3 hO3 hP hT (k3 _ (k2 _ hi1)) (k3 _ hi2) hi3 w1 w2 w3 (by omega)
 rw[hflv,hflv,hflv] at hLo
 rw[hflv]
 repeat(first|(refine st ?_;intros)|refine G.draw [] (h:= ?_))
 refine R.call (hct:=hLo) (h:= ?_)
 rintro _ _ ⟨x,er,cd4,ca4,cs4,W4,rfl,rfl,hW4,hu4,hn4,ha4,hf4,hc⟩
 dsimp only[AA,AB]
 rcases hc with⟨rfl,hinX,hxw,hxc,hO4⟩|⟨_,_,h6,_⟩
 rotate_left
 ·exact absurd ft3 h6
 obtain⟨LvX,hfoX,hsubX⟩:=hinX
 have hLi:=bMi bw bd ba bs W4 cd4 ca4 cs4 hW4 x _ LvX hfoX hsubX (by rw[hO4.size,hO4.room,hO4.used];omega) (hf4 ft3) (by omega) (by omega)
 rw[hflv x,hxc] at hLi
 rw[hflv x,hxc]
 repeat(first|(refine st ?_;intros)|refine G.draw [] (h:= ?_))
 refine R.call (hct:=hLi) (h:= ?_)
 rintro _ _ ⟨cd5,ca5,W5,po,oc,cho,rfl,rfl,hW5,hE5,hd5,hl5,hg5,hVo⟩
 try dsimp only[AA,AB]
 have hO5:Ons 9000 ro W5 [f1,f2,f3,x]:=⟨hE5.size.trans hO4.size,hE5.room.trans hO4.room,(aKb hW4 hW5 hg5).trans hu4,by have:=hE5.acts.2;have:aAb W4.δ.size x.width N≤N:=aAv (by rw[hO4.size,hxw];decide);omega,hE5.n.trans hn4,by rw[hl5];exact hO4.live⟩
 have hLw:=(bGw hT hf hP.fors.1 (by omega) (by omega)).1
 repeat(first|(refine st ?_;intros)|refine G.draw [] (h:= ?_))
 rename_i bq
 (refine Dn.post (Hr:=[aAh bw bd ba bs,cd5,ca5,cs4,c,cho,[(bq,row [.int .i64 (f1.first:Int),.int .i64 (f1.blocks:Int),.int .i64 (f1.width:Int),.int .i64 (f1.count:Int),.int .i64 (f2.first:Int),.int .i64 (f2.blocks:Int),.int .i64 (f2.width:Int),.int .i64 (f2.count:Int),.int .i64 (f3.first:Int),.int .i64 (f3.blocks:Int),.int .i64 (f3.width:Int),.int .i64 (f3.count:Int),.int .i64 (x.first:Int),.int .i64 (x.blocks:Int),.int .i64 (x.width:Int),.int .i64 (N:Int)] 27)]]) Tryz.results32 (hR:= ?_);exact⟨cd5,ca5,cs4,W5,po,oc,cho,bq,_,[f1,f2,f3,x],lab,fl,r,b,tl,l,_,rfl,rfl,hW5,⟨rfl,.inr ⟨bq,0,_,_,_,rfl,rfl,by simp[fl4,hxc]⟩⟩,hO5,hVo,hP,hT,hLw,hOk.lis⟩)
theorem aIz:CtQ AC 27 [] [] (.bool true):=by
 have hWk:Ct AC 28 [.int .i64 9] [] fun v H'=>
  ∃bw bd ba bs cd ca cs,v=pv bw∧H'=[aAh bw bd ba bs,cd,ca,cs]∧Wc bd ba bs (wk0 10 9000 90) cd ca cs:=aJk 9 (by omega)
 have hflv:∀f:Fl,flv f= .agg #[.int .i64 (f.first:Int),.int .i64 (f.blocks:Int),.int .i64 (f.width:Int),.int .i64 (f.count:Int)]:=fun _=>rfl
 have hz3:flv ⟨0,0,3,0⟩= .agg #[.int .i64 0,.int .i64 0,.int .i64 3,.int .i64 0]:=rfl
 refine Ct.intro Tryz.func27 rfl Tryz.ntmps27 (nle rfl) fun w0=> ?_;dsimp only[aAa,AD]
 repeat(refine st ?_;intros)
 refine R.call (hct:=hWk) (h:= ?_)
 rintro _ _ ⟨bw,bd,ba,bs,cd,ca,cs,rfl,rfl,hW⟩
 try dsimp only[AA,AB]
 repeat(refine st ?_;intros)
 rename_i bl
 have hRV:RV (some ⟨bl,0,none⟩) 1 [⟨0,-1,0,1,0⟩] [(bl,row [.int .i64 0,.int .i64 (-1),.int .i64 0,.int .i64 1,.int .i64 0] 49)]:=⟨rfl,.inr ⟨bl,0,_,_,_,rfl,rfl,rfl⟩⟩
 have hok1:∀t∈([⟨0,-1,0,1,0⟩]:List T5),okT 5 t:=by
  intro t ht
  simp only[AY] at ht;subst ht
  exact okT5 ⟨by decide,by decide⟩ ⟨by decide,by decide⟩ ⟨by decide,by decide⟩ ⟨by decide,by decide⟩ ⟨by decide,by decide⟩
 have hg0:big (wk0 10 9000 90).σ.free=9000:=big0 10 9000 90
 have hLy:=aHv (bw:=bw) (cap:=1) (by omega) hW (Ons.fresh 9000 90) rfl (AS _) 5 (by omega) (by omega) hRV (by omega) hok1 (by omega)
 refine R.call (hct:=hLy) (h:= ?_)
 rintro _ _ ⟨cd1,ca1,cs1,W1,f,rfl,rfl,hW1,hO1,hi1,w1,c1,ft1,a1,b1,k1⟩
 try dsimp only[AA,AB]
 rw[show(wk0 10 9000 90).δ.acts=0 from rfl] at a1
 obtain⟨hll,htt⟩:=hO1.tot
 have hfb:f.blocks≤1:=by
  obtain⟨Lv,hfo,_⟩:=id hi1
  have h2:=hfo.blk
  dsimp only at h2
  rw[h2,hO1.size,w1,c1];decide
 simp only[AB,List.map_cons,List.map_nil,List.sum_cons,List.sum_nil,AL,AU] at hll htt
 have hsT:aEi 2≤10:=by decide+kernel
 have e1:10*(W1.live.length+9)≤10*10:=BU _ (by omega)
 have e2:10*(W1.live.length+11)≤10*12:=BU _ (by omega)
 have hn0:=hO1.n
 have hz:∀z:Fl,z=⟨0,0,3,0⟩→aBx W1 (z,[]):=fun z hz=>by subst hz;exact aLb hW1.dev (by omega) (by omega)
 have hL:=aXx bw bd ba bs W1 cd1 ca1 cs1 hW1 f ⟨0,0,3,0⟩ ⟨0,0,3,0⟩ _ [] [] hi1 (hz _ rfl) (hz _ rfl) w1 rfl rfl (by simp) (by simp) (by simp) 2 10 2 10 (by omega) (by decide) (by rw[c1];decide) (by decide) (by decide) hsT (by omega) (by decide+kernel) (by decide+kernel) (by decide) hsT (by decide) (by omega) (by omega) (by omega)
 rw[hflv f,hz3] at hL
 have her:bOi [⟨0,-1,0,1,0⟩] [] []=none:=by decide+kernel
 have hln:(aVl [⟨0,-1,0,1,0⟩] [] []).length=1:=by decide+kernel
 rw[her] at hL
 rw[hflv f]
 repeat(refine st ?_;intros)
 refine R.call (hct:=hL) (h:= ?_)
 rintro _ _ (⟨_,x,e,cd3,ca3,cs3,W3,rfl,rfl,hW3,hS3,hw3⟩|⟨hsm,_⟩)
 rotate_left
 ·exfalso
  rw[hO1.room,hO1.used,hO1.size] at hsm
  revert hsm;decide
 dsimp only[AA,AB]
 obtain⟨rfl,_,hfo3,_⟩:=aRc hS3 ft1
 have hxc1:(x.count:Int)=1:=by rw[←hfo3.len,hln];rfl
 have hxw1:(x.width:Int)=3:=by rw[hw3 rfl];rfl
 rw[hflv x,hxc1,hxw1]
 repeat(refine st ?_;intros)
 (refine Dn.post (Hr:=[]) Tryz.results27 (hR:= ?_);exact⟨congrArg Value.bool (aBq rfl),rfl⟩)
open Go.ChangeShapes Go.WideShapes Go.ChangeAt Go.RowKit
theorem own:ownKnob Tryz.prog.godebug=none:=by kernel_rfl
theorem aPh:laidOutB AC=true:=by kernel_rfl
theorem aYs {W W':World} {H:Hp} (h:St W [] W' H):Below W.heap.size W W':=
 ⟨h.os,h.tape,h.output,h.size,fun k hk=>h.frame k hk (by simp)⟩
theorem aLd {H:Type} {enc:TypeId×Value→H} {P:Program} {W W':World} (hl:laidOutB P=true) (hb:Below W.heap.size W W') {sp:Nat→Bool}:
  ∀(ts:List TypeId) (vs:List Value) (ds:List (DataW H)) (ps:List MemPlace),(∀t∈ts,P.readableRec t=true∧t<P.types.size)→
   DataW.TrodAll enc P W 0 (fun _=>true) true ts vs ds ps→(∀p∈ps,p.block<W.heap.size)→(∀p∈ps,sp p.block=true)→DataW.TrodAll enc P W' 0 sp true ts vs ds ps
 |[],vs,ds,ps,_,h,_,_=>by
  cases vs<;>cases ds<;>simp[DataW.TrodAll] at h⊢
  exact h
 |t::ts,vs,ds,ps,hr,h,hlt,hsp=>by
  obtain⟨v,vs',d,ds',p,q,rfl,rfl,rfl,h0,r0⟩:=trodAll_cons h
  have h1:=WideElems.Trod_stays hl (hr t AI).1 (hr t AI).2 h0 (fun x hx=>hb.same (hlt x (BO _ hx))) (fun x hx=>hsp x (BO _ hx))
  exact trodAll_cons_mk h1 (aLd hl hb ts vs' ds' q (fun t ht=>hr t (AJ _ ht)) r0 (fun x hx=>hlt x (BL _ hx)) (fun x hx=>hsp x (BL _ hx)))
theorem bHe {H:Type} {enc:TypeId×Value→H} {P:Program} {f:Func} {s:ChangeSpec} {apart fresh handsOn again:Bool} {W W':World} {args:Array Value} {v:Value} {ds gs:List (DataW H)} {before pa pv:List MemPlace}
  (hW:DataW.Whole enc P f.params.toList s.vars apart W args.toList ds gs before)
  (hres:∀(b:Nat) (sp:Nat→Bool) (hd:Bool),DataW.TrodAll enc P W' b sp hd f.resultTypes.toList (v.resultList f.resultTypes.size) (s.fn H (ds++gs)).results [])
  (hargs:∀sp:Nat→Bool,(∀p∈before,sp p.block=true)→DataW.TrodAll enc P W' 0 sp true f.params.toList args.toList (s.fn H (ds++gs)).args pa)
  (hvars:∀sp:Nat→Bool,(∀p∈before,sp p.block=true)→DataW.TrodVars enc P W' sp s.vars (s.fn H (ds++gs)).vars pv)
  (hps:before=pa++pv) (hk:W.keptBut W' (·∈before)) (hfz:∀a:Addr,a.block<W.heap.size→W'.frozen? a=W.frozen? a)
  (hok:∀(j:Nat) (t:TypeId) (r:Value),f.resultTypes[j]? =some t→(v.resultList f.resultTypes.size)[j]? =some r→Value.okWide P W' .any 0 t r):
  s.post enc P f apart fresh handsOn again W args v W':=by
 have hold:∀p∈before,(fun b=>decide (b<W.heap.size)) p.block=true:=fun p hp=>by simpa using hW.lt p hp
 have hltb:∀p∈before,p.block<W.heap.size:=fun p hp=>hW.lt p hp
 refine⟨ds,gs,before,[],pa,pv,hW,hres _ _ _,hargs _ hold,hvars _ hold,World.keptBut_mono (fun p hp=>⟨hp,?_⟩) hk,fun _=> ?_⟩
 ·rw[hps,List.mem_append] at hp
  exact Or.inr hp
 ·obtain⟨_,_,_,_,_,hz,hn⟩:=hW
  refine⟨hok,_,_,([]++pa)++pv,⟨[]++pa,pv,trodAll_append (hargs _ (fun _ _=>rfl)) (hres _ _ _),hvars _ (fun _ _=>rfl),rfl,?_,?_⟩,?_⟩
  ·intro b off hp
   have hp':MemPlace.cell b off∈before:=by rw[hps];simpa using hp
   rw[hfz _ (hltb _ hp')]
   exact hz b off hp'
  ·intro ha
   have:=hn ha
   rw[hps] at this
   simpa using this
  ·intro p hp _
   rw[hps]
   simpa using hp
theorem aPi {H:Type} {enc:TypeId×Value→H} {P:Program} {f:Func} {s:ChangeSpec} {b:TypeId} {W W':World} {args:Array Value} {ds gs:List (DataW H)} {before:List MemPlace}
  (hW:DataW.Whole enc P f.params.toList s.vars false W args.toList ds gs before) (hv:s.vars=[]) (hres:f.resultTypes= #[b]) (hb:P.underlying b=some .bool) (hl:laidOutB P=true)
  (hr:∀t∈f.params.toList,P.readableRec t=true∧t<P.types.size) (hfn:s.fn H (ds++gs)={results:=[.lit (.bool true)],args:=ds}) (hbel:Below W.heap.size W W'):
  s.post enc P f false true false false W args (.bool true) W':=by
 have hW':=hW
 have hlt:∀p∈before,p.block<W.heap.size:=fun p hp=>hW'.lt p hp
 obtain⟨p,q,hA,hV,rfl,hfz,hnd⟩:=hW
 rw[hv] at hV
 have hq:q=[]:=by cases gs<;>simp[DataW.TrodVars] at hV;exact hV
 subst hq
 have hgs:gs=[]:=by cases gs<;>simp[DataW.TrodVars] at hV⊢
 subst hgs
 simp only[AQ] at hW' hlt hfn
 refine bHe (pa:=p) (pv:=[]) hW' ?_ ?_ ?_ (by simp) ?_ ?_ ?_
 ·intro base sp hd
  simp only[AQ,hfn,hres]
  exact trodAll_mk1 (shut_bool hb true)
 ·intro sp hsp
  simp only[AQ,hfn]
  exact aLd hl hbel _ _ _ _ hr hA hlt hsp
 ·intro sp _
  simp only[AQ,hfn,hv]
  rfl
 ·exact hbel.frame _
 ·exact fun a ha=>hbel.frozen ha
 ·exact ok_one hres rfl (okWide_bool_mk hb true)
theorem st_nil (W:World):St W (aEl []) W []:=
 ⟨by simp[aEl],by simp,by simp[aEl],fun _ _ _=>rfl,AG _,rfl,rfl,rfl⟩
theorem bHf {P:Program} {f:FuncId} {args:List Value} (h:CtQ P f args [] (.bool true)) (W:World):
  Calls P f args.toArray W fun e W'=>e= .returned (.bool true)∧Below W.heap.size W W':=by
 unfold CtQ Ct at h
 refine(h W (st_nil W)).mono fun e W' ⟨v,H',h1,⟨h2,h3⟩,h4⟩=> ?_
 subst h2
 exact⟨h1,aYs h4⟩
theorem aYt {P:Program} {W:World} {base:Nat} {e:TypeId} {k:IntKind} {v:Value} (he:P.underlying e=some (.int k)) (h:Cell.okWide P W .any base e v):∃n,v= .int k n∧k.has n=true:=by
 simp only[Cell.okWide,he] at h
 cases v<;>simp_all [Cell.ok]
theorem bHg {α:Type} {l:List α} {n:Nat} (h:l.length=n+1):∃a t,l=a::t∧t.length=n:=by
 match l,h with
 |a::t,h=>exact⟨a,t,rfl,by simpa using h⟩
theorem aWb {W W':World} {c:aAc} (hc:∀q∈c,W.heap[q.1]? =some q.2) (h:St W (aEl [c]) W' [c]):Below W.heap.size W W':=
 ⟨h.os,h.tape,h.output,h.size,fun k hk=>by
  by_cases hm:k∈aEl [c]
  ·simp only[aEl,List.flatten_cons,List.flatten_nil,AQ,List.mem_map] at hm
   obtain⟨q,hq,rfl⟩:=hm
   rw[hc q hq]
   exact h.sat q (by simpa using hq)
  ·exact h.frame k hk hm⟩
theorem aJl {P:Program} {f:FuncId} {args:List Value} {c:aAc} {W:World} (hc:∀q∈c,W.heap[q.1]? =some q.2) (hnd:(c.map (·.1)).Nodup) (h:CtQ P f args [c] (.bool true)):
  Calls P f args.toArray W fun e W'=>e= .returned (.bool true)∧Below W.heap.size W W':=by
 unfold CtQ Ct at h
 have hst:St W (aEl [c]) W [c]:=by
  refine⟨by simpa[aEl] using hnd,by simpa using hc,fun k hk=> .inl hk,fun _ _ _=>rfl,AG _,rfl,rfl,rfl⟩
 refine(h W hst).mono fun e W' ⟨v,H',h1,⟨h2,h3⟩,h4⟩=> ?_
 subst h2 h3
 exact⟨h1,aWb hc h4⟩
theorem openU8 {P:Program} {W:World} {base:Nat} {T e:TypeId} {n:Nat} {v:Value} (hu:(∃fs,P.underlying T=some (.struct fs))∨∃m E,P.underlying T=some (.array m E)) (hct:P.cellTypes P.depth T=some (BW n e)) (hc:P.cellsOf T=n)
  (he:P.underlying e=some (.int .u8)) (h:Value.okWide P W .any base T v):∃l:List Nat,l.length=n∧(∀x∈l,x<256)∧v= .agg (l.map fun (x:Nat)=>Value.int .u8 (x:Int)).toArray:=by
 have h':∃cs,v= .agg cs∧cs.size=P.cellsOf T∧Row.okWide P W .any base T cs:=by
  rcases hu with⟨fs,hu⟩|⟨m,E,hu⟩<;>simpa only[Value.okWide,hu] using h
 obtain⟨cs,rfl,hsz,ts,hts,hm,hall⟩:=h'
 rw[hct] at hts
 obtain rfl:=BG hts
 rw[hc] at hsz
 obtain⟨l⟩:=cs
 have g:∀v∈l,∃x:Nat,x<256∧v=Value.int .u8 (x:Int):=by
  intro v hv
  obtain⟨i,hi,rfl⟩:=List.getElem_of_mem hv
  obtain⟨u,hu1,hu2⟩:=hall i l[i] (by simp)
  obtain rfl:=List.eq_of_mem_replicate (AZ hu1)
  obtain⟨x,hx,hr⟩:=aYt he hu2
  simp[IntKind.has,IntKind.min,IntKind.max,IntKind.bits,IntKind.signed] at hr
  exact⟨x.toNat,by omega,by rw[hx,Int.toNat_of_nonneg (by omega)]⟩
 have:∃xs:List Nat,(∀x∈xs,x<256)∧l=xs.map fun (x:Nat)=>Value.int .u8 (x:Int):=by
  clear hall hsz hm h
  induction l with
  |nil=>exact⟨[],by simp,rfl⟩
  |cons v l ih=>
   obtain⟨x,hx,rfl⟩:=g v AI
   obtain⟨xs,hxs,rfl⟩:=ih fun v hv=>g v (AJ _ hv)
   exact⟨x::xs,by simpa using⟨hx,hxs⟩,rfl⟩
 obtain⟨xs,hxs,rfl⟩:=this
 exact⟨xs,by simpa using hsz,hxs,rfl⟩
theorem aNo {P:Program} {W:World} {base:Nat} {e:TypeId} {v:Value} (he:P.underlying e=some (.int .u8)) (h:Value.okWide P W .any base e v):∃x:Nat,x<256∧v= .int .u8 (x:Int):=by
 have h':Cell.okWide P W .any base e v:=by simpa only[Value.okWide,he] using h
 obtain⟨x,hx,hr⟩:=aYt he h'
 simp[IntKind.has,IntKind.min,IntKind.max,IntKind.bits,IntKind.signed] at hr
 exact⟨x.toNat,by omega,by rw[hx,Int.toNat_of_nonneg (by omega)]⟩
theorem bHh {P:Program} {W:World} {base:Nat} {e:TypeId} {v:Value} (he:P.underlying e=some (.int .u16)) (h:Value.okWide P W .any base e v):∃x:Nat,x<65536∧v= .int .u16 (x:Int):=by
 have h':Cell.okWide P W .any base e v:=by simpa only[Value.okWide,he] using h
 obtain⟨x,hx,hr⟩:=aYt he h'
 simp[IntKind.has,IntKind.min,IntKind.max,IntKind.bits,IntKind.signed] at hr
 exact⟨x.toNat,by omega,by rw[hx,Int.toNat_of_nonneg (by omega)]⟩
theorem bAj (cs:List Value):∀(len off:Nat),(∀i,i<len→∃e:IE,∀j,j<2→cs[off+i*2+j]? =(ecl e)[j]?)→∃es:List IE,es.length=len∧(cs.drop off).take (len*2)=es.flatMap ecl
 |0,off,_=>⟨[],rfl,by simp⟩
 |len+1,off,h=>by
  obtain⟨t,ht⟩:=h 0 (by omega)
  obtain⟨ts,hl,he⟩:=bAj cs len (off+2) (fun i hi=>by
   obtain⟨t,ht⟩:=h (i+1) (by omega)
   exact⟨t,fun j hj=>by rw[←ht j hj];congr 1;omega⟩)
  refine⟨t::ts,by simp[hl],?_⟩
  have hd:cs.drop off=ecl t++cs.drop (off+2):=by
   apply CD
   intro j
   rw[BS]
   by_cases hj:j<2
   ·rw[A7 (by simpa[ecl] using hj),←ht j hj];simp
   ·rw[BB (by simp[ecl];omega),BS]
    congr 1
    simp[ecl];omega
  rw[hd,A6,←he,List.take_append]
  rw[A4 (by simp[ecl];omega)]
  congr 2
  simp[ecl];omega
theorem aHw {H:Type} {enc:TypeId×Value→H} {P:Program} {w:World} {base:Nat} {t E:TypeId} {f0 f1 g0 g1:Field} {v:Value} {d:DataW H} {ps:List MemPlace} (ht:P.underlying t=some (.struct #[f0,f1]))
  (hI:P.underlying f0.type=some (.int .i64)) (hE:P.underlying f1.type=some (.slice E)) (hEu:P.underlying E=some (.struct #[g0,g1])) (hg0:P.underlying g0.type=some (.int .i64)) (hg1:P.underlying g1.type=some (.int .i64))
  (ho0:f0.offset=0) (ho1:f1.offset=1) (hc0:P.cellsOf f0.type=1) (hc1:P.cellsOf f1.type=1) (hct:P.cellsOf t=2) (ce:P.cellsOf E=2) (ho2:g0.offset=0) (ho3:g1.offset=1) (hc2:P.cellsOf g0.type=1) (hc3:P.cellsOf g1.type=1)
  (h:DataW.Trod enc P w 0 (fun _=>true) true t v d ps) (hok:Value.okWide P w .any base t v):
  ∃n p m cap es c,v=gv n p m cap∧Rw ecl 2 p m es c∧m≤maxLen∧(∀q∈c,w.heap[q.1]? =some q.2)∧(c.map (·.1)).Nodup:=by
 have h':∃cs,v= .agg cs∧cs.size=P.cellsOf t∧Row.okWide P w .any base t cs:=by
  simpa only[Value.okWide,ht] using hok
 obtain⟨cs,rfl,hsz,_⟩:=h'
 obtain⟨l⟩:=cs
 rw[hct] at hsz
 obtain⟨a,b,rfl⟩:∃a b,l=[a,b]:=by
  match l,hsz with
  |[a,b],_=>exact⟨a,b,rfl⟩
 obtain⟨fuel,h⟩:=h
 obtain⟨y0,y1,k,_,_,h0,h1⟩:=trod_struct2 ht h
 rw[ho0,hc0] at h0
 rw[ho1,hc1] at h1
 simp only[Value.cells,List.drop_zero,List.drop_succ_cons,List.take_succ_cons,List.take_zero] at h0 h1
 obtain⟨n,hn,_,_⟩:=DataW.trod_int hI h0
 obtain rfl:a= .int .i64 n:=by simpa using hn
 rcases Go.Deep.open_slice_pairs hE hEu ce ho2 ho3 hc2 hc3 h1 with⟨hb,_⟩|⟨ad,len,cap,m,k',V0,V1,D0,D1,P0,P1,hb,_,hl,hm,hmm,_,hx⟩
 ·obtain rfl:b= .slice none 0 0:=by simpa using hb
  exact⟨n,none,0,0,[],[],rfl,⟨rfl,.inl ⟨rfl,rfl⟩⟩,by decide,by simp,by simp⟩
 ·obtain rfl:b= .slice (some ad) len cap:=by simpa using hb
  by_cases hz:len=0
  ·subst hz
   exact⟨n,some ad,0,cap,[],[],rfl,⟨rfl,.inl ⟨rfl,rfl⟩⟩,by decide,by simp,by simp⟩
  ·simp only[if_true] at hmm
   subst hmm
   have each:∀i,i<len→∃e:IE,∀j,j<2→w.cell? (ad.add (i*2+j))=(ecl e)[j]? :=by
    intro i hi
    obtain⟨x0,x1,t0,t1⟩:=hx i (by omega)
    obtain⟨a0,ha0,_,_⟩:=DataW.trod_int hg0 t0
    obtain⟨a1,ha1,_,_⟩:=DataW.trod_int hg1 t1
    refine⟨(a0,a1),fun j hj=> ?_⟩
    match j,hj with
    |0,_=>rw[B6,x0];simpa[ecl] using ha0
    |1,_=>rw[x1];simpa[ecl] using ha1
   obtain⟨bk,off,spot⟩:=ad
   obtain⟨t0,ht0⟩:=each 0 (by omega)
   have hq0:=ht0 0 (by omega)
   have hs:spot=none:=by
    cases spot with
    |none=>rfl
    |some s=>
     exfalso
     simp only[Addr.add,World.cell?,ecl,List.getElem?_cons_zero] at hq0
     revert hq0
     split<;>simp
   subst hs
   have hadd:∀i,((⟨bk,off,none⟩:Addr).add i)=⟨bk,off+i,none⟩:=fun i=>Addr.add_mk ..
   cases hbk:w.heap[bk]? with
   |none=>rw[hadd] at hq0;simp[World.cell?,hbk,ecl] at hq0
   |some ob=>
    cases ob with
    |cells arr T fz=>
     obtain⟨es,hes,hflat⟩:=bAj arr.toList len off (fun i hi=>by
      obtain⟨t,ht⟩:=each i hi
      refine⟨t,fun j hj=> ?_⟩
      rw[←ht j hj,hadd,cell_of_row w bk _ arr T fz hbk]
      simp[Nat.add_assoc])
     refine⟨n,_,len,_,es,[(bk,aCa arr.toList T fz)],rfl,⟨hes,.inr ⟨bk,off,arr.toList,T,fz,rfl,rfl,hflat⟩⟩,by omega,?_,by simp⟩
     intro q hq
     simp only[AY] at hq
     subst hq
     simpa[aCa] using hbk
    |_=>rw[hadd] at hq0;simp[World.cell?,hbk,ecl] at hq0
theorem aPj (n:Int) (p:Option Addr) (m cap:Nat) (es:List IE) (c:aAc) (hv:Rw ecl 2 p m es c) (hm:m≤maxLen) (bb:Bool) (hbb:bb=(aCc n es&&decide (n≤40∧(m:Int)≤70))):
  CtQ AC 31 [gv n p m cap] [c] (.bool bb):=by
 subst hbb
 have hFo:=aRa n p m cap es c hv hm
 have hFe:=bGc n p m cap 40 70 hm
 unfold gv at hFo hFe⊢
 cases hfm:aCc n es with
 |false=>
  rw[hfm] at hFo
  rw[Bool.false_and]
  refine Ct.intro Tryz.func31 rfl Tryz.ntmps31 (nle rfl) fun w0=> ?_;dsimp only[aAa,AD]
  repeat(first|(refine st ?_;intros)|(refine cq hFo ?_)|(refine cq hFe ?_))
  (refine Dn.post (Hr:=[c]) Tryz.results31 (hR:= ?_);exact⟨rfl,rfl⟩)
 |true=>
 rw[hfm] at hFo
 rw[Bool.true_and]
 by_cases hfew:n≤40∧(m:Int)≤70
 rotate_left
 ·rw[aCm hfew] at hFe
  rw[decide_eq_false hfew]
  refine Ct.intro Tryz.func31 rfl Tryz.ntmps31 (nle rfl) fun w0=> ?_;dsimp only[aAa,AD]
  repeat(first|(refine st ?_;intros)|(refine cq hFo ?_)|(refine cq hFe ?_))
  (refine Dn.post (Hr:=[c]) Tryz.results31 (hR:= ?_);exact⟨rfl,rfl⟩)
 rw[aBq hfew] at hFe
 rw[decide_eq_true hfew]
 refine Ct.intro Tryz.func31 rfl Tryz.ntmps31 (nle rfl) fun w0=> ?_;dsimp only[aAa,AD]
 repeat(first|(refine st ?_;intros)|(refine cq hFo ?_)|(refine cq hFe ?_))
 (refine Dn.post (Hr:=[c]) Tryz.results31 (hR:= ?_);exact⟨rfl,rfl⟩)
end Go.Proofs.YtammjnjpheobaaaGreat
namespace Go.SL
section
variable {P:Program} {ops:Array Oper} {Q:Exit→Act→World→Prop} {cls:Nat→Oper→Cls} {w0:World} {S:List Nat} {n:Nat} {l:List (Nat×Oper)} {L:aBe} {D:List Deferred} {H:Hp} {qs:List Rd} {k d T yT:Nat} {x y z:Operand} {ty:TypeId} {pos:String} {af:Array Edge} {g:Option (Nat×Bool)}
theorem R.max3 {aT:Array TypeId} {ka kb kc:IntKind} {a b c:Int} (hx:ev L x=some (.int ka a)) (hy:ev L y=some (.int kb b)) (hz:ev L z=some (.int kc c))
  (hc:cls k ⟨some d,.call ⟨.builtin .max,#[x,y,z],aT⟩,ty,pos,af,g⟩= .pure) (hn:d<n)
  (h:R P ops Q cls w0 S n l ((d,.int ka (Max.max (Max.max a b) c))::L) D H qs):R1 P ops Q cls w0 S n k ⟨some d,.call ⟨.builtin .max,#[x,y,z],aT⟩,ty,pos,af,g⟩ l L D H qs:=
 R1.pureStep hc rfl hn (fun a hf w=>by simp[execOp,resolve,Go.invoke,Go.builtin,hf.eval hx,hf.eval hy,hf.eval hz,Builtin.max_,Builtin.max2];omega) h
theorem R.min3 {aT:Array TypeId} {ka kb kc:IntKind} {a b c:Int} (hx:ev L x=some (.int ka a)) (hy:ev L y=some (.int kb b)) (hz:ev L z=some (.int kc c))
  (hc:cls k ⟨some d,.call ⟨.builtin .min,#[x,y,z],aT⟩,ty,pos,af,g⟩= .pure) (hn:d<n)
  (h:R P ops Q cls w0 S n l ((d,.int ka (Min.min (Min.min a b) c))::L) D H qs):R1 P ops Q cls w0 S n k ⟨some d,.call ⟨.builtin .min,#[x,y,z],aT⟩,ty,pos,af,g⟩ l L D H qs:=
 R1.pureStep hc rfl hn (fun a hf w=>by simp[execOp,resolve,Go.invoke,Go.builtin,hf.eval hx,hf.eval hy,hf.eval hz,Builtin.min_,Builtin.min2];omega) h
end
end Go.SL
namespace Go.Proofs.YtammjnjpheobaaaGreat
open Go.SL Go.Tup Go.Gr Go.Srt
def bOt (es:List IE) (fl:List Bool) (i u w:Nat):Prop:=∃e,es[i]? =some e∧fl[i]? =some false∧((e.1=(u:Int)∧e.2=(w:Int))∨(e.1=(w:Int)∧e.2=(u:Int)))
theorem Adj.i {es:List IE} {fl:List Bool} {u w:Nat} (h:Adj es fl u w):∃i,i<es.length∧bOt es fl i u w:=by
 obtain⟨i,e,h1,h2,h3⟩:=h
 exact⟨i,(AK.1 h1).1,e,h1,h2,h3⟩
section
variable {N:Nat} {es:List IE} {fl:List Bool} {l:List T5}
structure aTa (N:Nat) (es:List IE) (fl:List Bool) (l:List T5) (u v i:Nat) (x:Int):Prop where
 out:Out N es fl l u x
 own:x≤(at5 l u).c2
 le:∀v' j w,w<N→Sub l u v'→bOt es fl j v' w→(v'<v∨(v'=v∧j<i))→x≤(at5 l w).c2
structure aPl (N:Nat) (es:List IE) (fl:List Bool) (l:List T5) (u v i q:Nat) (x:Int):Prop where
 out:Out N es fl l u x
 own:∀v',v'<N→Sub l u v'→v'<q→(at5 l v').c2≤x
 le:∀v' j w,w<N→Sub l u v'→bOt es fl j v' w→(v'<v∨(v'=v∧j<i))→(at5 l w).c2≤x
theorem aTa.start {u:Nat} (hu:u<N) (h:1≤(at5 l u).c3):aTa N es fl l u 0 0 (at5 l u).c2:=⟨⟨u,hu,Sub.refl h,.inl rfl⟩,Int.le_refl _,fun _ _ _ _ _ _ h=>by omega⟩
theorem aPl.start {u:Nat} (hu:u<N) (h:1≤(at5 l u).c3):aPl N es fl l u 0 0 0 (at5 l u).c2:=⟨⟨u,hu,Sub.refl h,.inl rfl⟩,fun _ _ _ h=>by omega,fun _ _ _ _ _ _ h=>by omega⟩
theorem aTa.pass {u v:Nat} {x:Int} (h:aTa N es fl l u v 0 x) (hn:¬Sub l u v):aTa N es fl l u (v+1) 0 x:=
 ⟨h.out,h.own,fun v' j w hw hs ha hc=>h.le v' j w hw hs ha (by
  have:v'≠v:=fun he=>hn (he▸hs)
  omega)⟩
theorem aPl.pass {u v:Nat} {x:Int} (h:aPl N es fl l u v 0 v x) (hn:¬Sub l u v):aPl N es fl l u (v+1) 0 (v+1) x:=
 ⟨h.out,fun v' hv hs hc=>h.own v' hv hs (by
  have:v'≠v:=fun he=>hn (he▸hs)
  omega),fun v' j w hw hs ha hc=>h.le v' j w hw hs ha (by
  have:v'≠v:=fun he=>hn (he▸hs)
  omega)⟩
theorem aPl.at_ {u v:Nat} {x:Int} (h:aPl N es fl l u v 0 v x) (hv:v<N) (hs:Sub l u v):aPl N es fl l u v 0 (v+1) (max x (at5 l v).c2):=by
 refine⟨?_,fun v' hv' hs' hc=> ?_,fun v' j w hw hs' ha hc=> ?_⟩
 ·by_cases hx:x≤(at5 l v).c2
  ·rw[show max x (at5 l v).c2=(at5 l v).c2 by omega];exact⟨v,hv,hs,.inl rfl⟩
  ·rw[show max x (at5 l v).c2=x by omega];exact h.out
 ·by_cases he:v'=v
  ·subst he;omega
  ·have:=h.own v' hv' hs' (by omega);omega
 ·have:=h.le v' j w hw hs' ha hc;omega
theorem aTa.skip {u v i:Nat} {x:Int} (h:aTa N es fl l u v i x) (hn:∀w,w<N→¬bOt es fl i v w):aTa N es fl l u v (i+1) x:=
 ⟨h.out,h.own,fun v' j w hw hs ha hc=>h.le v' j w hw hs ha (by
  have:¬(v'=v∧j=i):=fun he=>hn w hw (he.1▸he.2▸ha)
  omega)⟩
theorem aPl.skip {u v i q:Nat} {x:Int} (h:aPl N es fl l u v i q x) (hn:∀w,w<N→¬bOt es fl i v w):aPl N es fl l u v (i+1) q x:=
 ⟨h.out,h.own,fun v' j w hw hs ha hc=>h.le v' j w hw hs ha (by
  have:¬(v'=v∧j=i):=fun he=>hn w hw (he.1▸he.2▸ha)
  omega)⟩
theorem bAk {u v a c i:Nat} {e:IE} (hv:v<N) (hs:Sub l u v) (ha:a<N) (hc:c<N) (h1:es[i]? =some ((a:Int),(c:Int))) (h2:fl[i]? =some false) (h3:a=v∨c=v):Out N es fl l u (at5 l a).c2∧Out N es fl l u (at5 l c).c2:=by
 rcases h3 with rfl|rfl
 ·exact⟨⟨a,hv,hs,.inl rfl⟩,⟨a,hv,hs,.inr ⟨c,hc,⟨i,_,h1,h2,.inl ⟨rfl,rfl⟩⟩,rfl⟩⟩⟩
 ·exact⟨⟨c,hv,hs,.inr ⟨a,ha,⟨i,_,h1,h2,.inr ⟨rfl,rfl⟩⟩,rfl⟩⟩,⟨c,hv,hs,.inl rfl⟩⟩
theorem aTa.edge {u v i a c:Nat} {x:Int} (h:aTa N es fl l u v i x) (hv:v<N) (hs:Sub l u v) (ha:a<N) (hc:c<N) (h1:es[i]? =some ((a:Int),(c:Int))) (h2:fl[i]? =some false) (h3:a=v∨c=v):aTa N es fl l u v (i+1) (min (min x (at5 l a).c2) (at5 l c).c2):=by
 obtain⟨o1,o2⟩:=bAk (e:=(0,0)) hv hs ha hc h1 h2 h3
 refine⟨?_,by have:=h.own;omega,fun v' j w hw hs' hj hq=> ?_⟩
 ·by_cases hx:x≤(at5 l a).c2∧x≤(at5 l c).c2
  ·rw[show min (min x (at5 l a).c2) (at5 l c).c2=x by omega];exact h.out
  ·by_cases hy:(at5 l a).c2≤(at5 l c).c2
   ·rw[show min (min x (at5 l a).c2) (at5 l c).c2=(at5 l a).c2 by omega];exact o1
   ·rw[show min (min x (at5 l a).c2) (at5 l c).c2=(at5 l c).c2 by omega];exact o2
 ·by_cases hji:v'=v∧j=i
  ·obtain⟨rfl,rfl⟩:=hji
   obtain⟨e,g1,_,g3⟩:=hj
   rw[h1] at g1
   obtain rfl:=BG g1
   dsimp only at g3
   rcases g3 with⟨g4,g5⟩|⟨g4,g5⟩
   ·obtain rfl:c=w:=by omega
    omega
   ·obtain rfl:a=w:=by omega
    omega
  ·have:=h.le v' j w hw hs' hj (by omega);omega
theorem aPl.edge {u v i a c q:Nat} {x:Int} (h:aPl N es fl l u v i q x) (hv:v<N) (hs:Sub l u v) (ha:a<N) (hc:c<N) (h1:es[i]? =some ((a:Int),(c:Int))) (h2:fl[i]? =some false) (h3:a=v∨c=v):aPl N es fl l u v (i+1) q (max (max x (at5 l a).c2) (at5 l c).c2):=by
 obtain⟨o1,o2⟩:=bAk (e:=(0,0)) hv hs ha hc h1 h2 h3
 refine⟨?_,fun v' hv' hs' hq=>by have:=h.own v' hv' hs' hq;omega,fun v' j w hw hs' hj hq=> ?_⟩
 ·by_cases hx:(at5 l a).c2≤x∧(at5 l c).c2≤x
  ·rw[show max (max x (at5 l a).c2) (at5 l c).c2=x by omega];exact h.out
  ·by_cases hy:(at5 l c).c2≤(at5 l a).c2
   ·rw[show max (max x (at5 l a).c2) (at5 l c).c2=(at5 l a).c2 by omega];exact o1
   ·rw[show max (max x (at5 l a).c2) (at5 l c).c2=(at5 l c).c2 by omega];exact o2
 ·by_cases hji:v'=v∧j=i
  ·obtain⟨rfl,rfl⟩:=hji
   obtain⟨e,g1,_,g3⟩:=hj
   rw[h1] at g1
   obtain rfl:=BG g1
   dsimp only at g3
   rcases g3 with⟨g4,g5⟩|⟨g4,g5⟩
   ·obtain rfl:c=w:=by omega
    omega
   ·obtain rfl:a=w:=by omega
    omega
  ·have:=h.le v' j w hw hs' hj (by omega);omega
theorem aTa.next {u v:Nat} {x:Int} (h:aTa N es fl l u v es.length x):aTa N es fl l u (v+1) 0 x:=
 ⟨h.out,h.own,fun v' j w hw hs ha hc=>h.le v' j w hw hs ha (by
  obtain⟨e,h1,_⟩:=id ha
  have:=(AK.1 h1).1
  omega)⟩
theorem aPl.next {u v q:Nat} {x:Int} (h:aPl N es fl l u v es.length q x):aPl N es fl l u (v+1) 0 q x:=
 ⟨h.out,h.own,fun v' j w hw hs ha hc=>h.le v' j w hw hs ha (by
  obtain⟨e,h1,_⟩:=id ha
  have:=(AK.1 h1).1
  omega)⟩
theorem aTa.done {u:Nat} {x:Int} (h:aTa N es fl l u N 0 x):bKa N es fl l u x:=by
 refine⟨h.out,?_⟩
 rintro y ⟨v,hv,hs,rfl|⟨w,hw,ha,rfl⟩⟩
 ·have:=h.own;have:=hs.1;omega
 ·obtain⟨i,_,hi⟩:=ha.i
  exact h.le v i w hw hs hi (.inl hv)
theorem aPl.done {u:Nat} {x:Int} (h:aPl N es fl l u N 0 N x):bAh N es fl l u x:=by
 refine⟨h.out,?_⟩
 rintro y ⟨v,hv,hs,rfl|⟨w,hw,ha,rfl⟩⟩
 ·exact h.own v hv hs hv
 ·obtain⟨i,_,hi⟩:=ha.i
  exact h.le v i w hw hs hi (.inl hv)
structure bKe (N:Nat) (es:List IE) (fl:List Bool) (l o:List T5) (k:Nat):Prop where
 len:o.length=N
 at_:∀v,v<k→∃lo hi,o[(at5 l v).c2.toNat]? =some ⟨(at5 l v).c2,lo,hi,0,0⟩∧bKa N es fl l v lo∧bAh N es fl l v hi
end
theorem bKe.put {N:Nat} {es:List IE} {lab:List Int} {b:List T5} {tl:List (Nat×Fo)} {fl:List Bool} {l o:List T5} (hT:aAw N es lab b tl l) {u:Nat} (h:bKe N es fl l o u) (hu:u<N) {lo hi:Int} (h1:bKa N es fl l u lo) (h2:bAh N es fl l u hi):bKe N es fl l (o.set (at5 l u).c2.toNat ⟨(at5 l u).c2,lo,hi,0,0⟩) (u+1):=by
 have hb:=hT.bnd hu
 refine⟨by rw[List.length_set];exact h.len,fun v hv=> ?_⟩
 by_cases he:v=u
 ·subst he
  exact⟨lo,hi,by rw[List.getElem?_set_self (by rw[h.len];omega)],h1,h2⟩
 ·have hbv:=hT.bnd (v:=v) (by omega)
  have hne:(at5 l u).c2.toNat≠(at5 l v).c2.toNat:=fun hq=>he (hT.num_inj (by omega) hu (by omega))
  rw[List.getElem?_set_ne hne]
  exact h.at_ v (by omega)
theorem aHy.uniq {N:Nat} {es:List IE} {lab:List Int} {b:List T5} {tl:List (Nat×Fo)} {fl:List Bool} {l o o':List T5} (hT:aAw N es lab b tl l) (h:aHy N es fl l o) (h':aHy N es fl l o'):o=o':=by
 apply CD
 intro n
 by_cases hn:n<N
 ·obtain⟨v,hv,he⟩:=hT.surj hn
  obtain⟨lo,hi,a1,a2,a3⟩:=h.at_ v hv
  obtain⟨lo',hi',b1,b2,b3⟩:=h'.at_ v hv
  rw[show(at5 l v).c2.toNat=n by omega] at a1 b1
  have e1:=a2.2 _ b2.1
  have e2:=b2.2 _ a2.1
  have e3:=a3.2 _ b3.1
  have e4:=b3.2 _ a3.1
  rw[a1,b1,show lo=lo' by omega,show hi=hi' by omega]
 ·rw[BC (by rw[h.len];omega),BC (by rw[h'.len];omega)]
structure LuX where
 u:Nat
 o:List T5
structure LvX where
 v:Nat
 lo:Int
 hi:Int
theorem In19ct (p0:Option Addr) (n0 k0:Nat) (p1:Option Addr) (n1 k1:Nat) (p:Option Addr) (m cap:Nat) (p3:Option Addr) (n3 k3:Nat) (p4:Option Addr) (n4 k4:Nat) (ts:List T5) (c:aAc) (hv:RV p m ts c) (hm:m≤1000000) (x:Int):
  CtQ AC 78 [.agg #[.slice p0 n0 k0,.slice p1 n1 k1,.slice p m cap,.slice p3 n3 k3,.slice p4 n4 k4],.int .i64 x] [c] (.bool (ts.any fun t=>decide (t.c0=x))):=by
 have hl:=hv.1
 refine Ct.intro Tryz.func78 rfl Tryz.ntmps78 (nle rfl) fun w0=> ?_;dsimp only[aAa,AD]
 repeat(refine st ?_;intros)
 rename_i b2
 refine G.loop (X:=Nat) (fun i=>i≤m∧(ts.take i).any (fun t=>decide (t.c0=x))=false) (fun i=>[(5,.int .i64 (i:Int)),(2,pv b2),(1,.int .i64 x)])
  (fun _=>[[(b2,row [.slice p0 n0 k0,.slice p1 n1 k1,.slice p m cap,.slice p3 n3 k3,.slice p4 n4 k4] 71)],c]) (fun i=>m-i) 0 ⟨AS _,rfl⟩ (body:= ?_)
 rintro i ⟨hi,hno⟩
 by_cases hlt:i<m
 ·obtain⟨b,off,cs,T,fz,rfl,rfl,_,hget⟩:=(RV.rw hv).pos aAr (by omega)
  have hti:ts[i]? =some ts[i]:=AE (by omega)
  have q0:=hget i 0 _ _ hti rfl
  rw[B6] at q0
  have htk:ts.take (i+1)=ts.take i++[ts[i]]:=by rw[List.take_add_one,hti];rfl
  have hmem:ts[i]∈ts:=AZ hti
  generalize ts[i]=t at*
  by_cases hx:t.c0=x
  ·have hb:(ts.any fun t=>decide (t.c0=x))=true:=by
    rw[List.any_eq_true];exact⟨t,hmem,decide_eq_true hx⟩
   rw[hb]
   repeat(refine st ?_;intros)
   (refine Dn.post (Hr:=[[(b,aCa cs T fz)]]) Tryz.results78 (hR:= ?_);exact⟨rfl,rfl⟩)
  ·repeat(refine st ?_;intros)
   refine Dn.round (i+1) ⟨hlt,by rw[htk,List.any_append,hno];simp[hx]⟩ (by omega)
 ·obtain rfl:i=m:=by omega
  rw[A4 (by omega)] at hno
  rw[hno]
  repeat(refine st ?_;intros)
  (refine Dn.post (Hr:=[c]) Tryz.results78 (hR:= ?_);exact⟨rfl,rfl⟩)
structure B9X where
 n:Nat
 v:Int
 ch:List Int
theorem bHi (p0:Option Addr) (n0 k0:Nat) (p1:Option Addr) (n1 k1:Nat) (p2:Option Addr) (n2 k2:Nat) (p3:Option Addr) (n3 k3:Nat) (p:Option Addr) (m cap:Nat) (ts:List T5) (c:aAc) (hv:RV p m ts c) (hm0:0<m) (hm:m≤1000000) (u:Int) (v0:Int) (ch0:List Int) (hw0:Way (fun x=>(at5 ts x.toNat).c1) v0 ch0) (hlen:ch0.length≤m) (hlt:∀w∈ch0,w<m) (bb:Bool) (hbb:bb=decide (u∈ch0)):
  CtQ AC 77 [.agg #[.slice p0 n0 k0,.slice p1 n1 k1,.slice p2 n2 k2,.slice p3 n3 k3,.slice p m cap],.int .i64 v0,.int .i64 u] [c] (.bool bb):=by
 subst hbb
 have hl:=hv.1
 obtain⟨b,off,cs,T,fz,rfl,rfl,_,hget⟩:=(RV.rw hv).pos aAr (by omega)
 have hg:∀j,j<m→cs[off+j*5+1]? =some (.int .i64 (at5 ts j).c1):=fun j hj=>hget j 1 _ _ (aBs (by omega)) rfl
 refine Ct.intro Tryz.func77 rfl Tryz.ntmps77 (nle rfl) fun w0=> ?_;dsimp only[aAa,AD]
 repeat(refine st ?_;intros)
 rename_i b3
 refine G.loop (X:=B9X) (fun s=>Way (fun x=>(at5 ts x.toNat).c1) s.v s.ch∧s.ch.length+s.n≤m∧(∀w∈s.ch,w<m)∧(u∈ch0↔u∈s.ch))
  (fun s=>[(3,pv b3),(1,.int .i64 s.v),(2,.int .i64 u)])
  (fun _=>[[(b3,row [.slice p0 n0 k0,.slice p1 n1 k1,.slice p2 n2 k2,.slice p3 n3 k3,.slice (some ⟨b,off,none⟩) m cap] 71)],[(b,aCa cs T fz)]]) (fun s=>m-s.n) ⟨0,v0,ch0⟩ ⟨hw0,by dsimp only;omega,hlt,Iff.rfl⟩ (body:= ?_)
 rintro⟨n,v,ch⟩ ⟨hw,h1,h2,h3⟩
 dsimp only at hw h1 h2 h3⊢
 cases hw with
 |top hneg=>
  have hb:decide (u∈ch0)=false:=decide_eq_false (by rw[h3];simp)
  have hn0:¬0≤v:=by omega
  rw[hb]
  repeat(refine st ?_;intros)
  (refine Dn.post (Hr:=[[(b,aCa cs T fz)]]) Tryz.results77 (hR:= ?_);exact⟨rfl,rfl⟩)
 | @up _ ch hpos hw=>
  simp only[AL] at h1
  have hvm:=h2 v AI
  obtain⟨k,rfl⟩:∃k:Nat,v=(k:Int):=⟨v.toNat,by omega⟩
  have hq:=hg k (by omega)
  rw[Int.toNat_natCast] at hw
  by_cases he:(k:Int)=u
  ·have hb:decide (u∈ch0)=true:=decide_eq_true (by rw[h3,he];exact AI)
   rw[hb]
   repeat(refine st ?_;intros)
   (refine Dn.post (Hr:=[[(b,aCa cs T fz)]]) Tryz.results77 (hR:= ?_);exact⟨rfl,rfl⟩)
  ·repeat(refine st ?_;intros)
   refine Dn.round ⟨n+1,(at5 ts k).c1,ch⟩ ⟨hw,by dsimp only;omega,fun w hw=>h2 w (AJ _ hw),?_⟩ (by dsimp only;omega)
   rw[h3,AM]
   dsimp only
   exact⟨fun h=>h.resolve_left fun hq=>he hq.symm,.inr⟩
theorem bOu {es:List IE} {fl:List Bool} {i:Nat} {bb:Bool} (hi:i<es.length) (hb:fl[i]? =some bb):((aCq (edT es) fl).any fun t=>decide (t.c0=(i:Int)))=bb:=by
 cases bb with
 |true=>
  rw[List.any_eq_true]
  exact⟨_,aHu.2 ⟨i,es[i],AE hi,hb,rfl⟩,decide_eq_true rfl⟩
 |false=>
  rw[List.any_eq_false]
  intro t ht
  obtain⟨j,e,_,h2,rfl⟩:=aHu.1 ht
  dsimp only
  rw[decide_eq_true_iff]
  intro hc
  obtain rfl:j=i:=by omega
  rw[hb] at h2;cases h2
theorem bKf (N:Nat) (hN:N≤1000) (es:List IE) (hm:es.length≤1000) (hf:∀e∈es,inE N e) (pe:Option Addr) (ke:Nat) (ce:aAc) (pl:Option Addr) (nl kl:Nat) (pf:Option Addr) (nf kf:Nat) (cf:aAc) (pt:Option Addr) (nt kt:Nat) (po:Option Addr) (ko:Nat) (cr:aAc)
  {lab:List Int} {fl:List Bool} {r b:List T5} {tl:List (Nat×Fo)} {l:List T5} (hve:RV pe es.length (edT es) ce) (hvf:RV pf nf (aCq (edT es) fl) cf) (hvr:RV po N l cr) (hP:aAm N es lab fl r b) (hT:aAw N es lab b tl l):
  Ct AC 36 [.agg #[.slice pe es.length ke,.slice pl nl kl,.slice pf nf kf,.slice pt nt kt,.slice po N ko]] [ce,cf,cr] fun v H'=>∃bx o,v= .slice (some ⟨bx,0,none⟩) N N∧H'=[ce,cf,cr,[(bx,row (o.flatMap aAl) 49)]]∧aHy N es fl l o:=by
 have hfl:fl.length=es.length:=hP.fors.1
 have hnf:=hvf.1
 have hfle:=bJt (edT es) fl
 rw[aIw] at hfle
 generalize hmm:es.length=m at*
 refine Ct.intro Tryz.func36 rfl Tryz.ntmps36 (nle rfl) fun w0=> ?_;dsimp only[aAa,AD]
 repeat(first|(refine st ?_;intros)|refine G.draw [] (h:= ?_)|(refine cq hBe ?_)|(refine cq hIn ?_))
 rename_i b1 bx
 rw[aYp]
 refine G.loop (X:=LuX) (fun s=>s.u≤N∧bKe N es fl l s.o s.u) (fun s=>[(4,.int .i64 (s.u:Int)),(3,.slice (some ⟨bx,0,none⟩) N N),(1,pv b1)])
  (fun s=>[[(bx,row (s.o.flatMap aAl) 49)],[(b1,row [.slice pe m ke,.slice pl nl kl,.slice pf nf kf,.slice pt nt kt,.slice po N ko] 71)],ce,cf,cr]) (fun s=>N-s.u) ⟨0,BW N T5.zero⟩ ⟨AS _,by simp,fun v hv=>by dsimp only at hv;omega⟩ (body:= ?_)
 rintro⟨u,o⟩ ⟨hu,hs⟩
 dsimp only at hu hs⊢
 by_cases hlt:u<N
 rotate_left
 ·obtain rfl:u=N:=by omega
  repeat(first|(refine st ?_;intros)|refine G.draw [] (h:= ?_)|(refine cq hBe ?_)|(refine cq hIn ?_))
  (refine Dn.post (Hr:=[ce,cf,cr,[(bx,row (o.flatMap aAl) 49)]]) Tryz.results36 (hR:= ?_);exact⟨bx,o,rfl,rfl,hs.len,hs.at_⟩)
 have hbu:=hT.bnd hlt
 obtain⟨b0,off,cs,T0,fz,rfl,rfl,_,hget⟩:=(RV.rw hvr).pos aAr (by omega)
 have hll:=hT.len
 have hq2:∀v,v<N→cs[off+v*5+2]? =some (.int .i64 (at5 l v).c2):=fun v hv=>hget v 2 _ _ (aBs (by omega)) rfl
 have qu:=hq2 u hlt
 repeat(first|(refine st ?_;intros)|refine G.draw [] (h:= ?_)|(refine cq hBe ?_)|(refine cq hIn ?_))
 refine G.loop (X:=LvX) (fun s=>s.v≤N∧aTa N es fl l u s.v 0 s.lo∧aPl N es fl l u s.v 0 s.v s.hi) (fun s=>[(8,.int .i64 (s.v:Int)),(7,.int .i64 s.hi),(6,.int .i64 s.lo),(5,.int .i64 (at5 l u).c2),(4,.int .i64 (u:Int)),(3,.slice (some ⟨bx,0,none⟩) N N),(1,pv b1)])
  (fun _=>[[(bx,row (o.flatMap aAl) 49)],[(b1,row [.slice pe m ke,.slice pl nl kl,.slice pf nf kf,.slice pt nt kt,.slice (some ⟨b0,off,none⟩) N ko] 71)],ce,cf,[(b0,aCa cs T0 fz)]]) (fun s=>N-s.v) ⟨0,(at5 l u).c2,(at5 l u).c2⟩ ⟨AS _,aTa.start hlt hbu.2.2.1,aPl.start hlt hbu.2.2.1⟩ (body:= ?_)
 rintro⟨v,lo,hi⟩ ⟨hv,hlo,hhi⟩
 dsimp only at hv hlo hhi⊢
 by_cases hlv:v<N
 rotate_left
 ·obtain rfl:v=N:=by omega
  have hputs:=hs.put hT hlt hlo.done hhi.done
  obtain⟨n,hn⟩:∃n:Nat,(at5 l u).c2=(n:Int):=⟨(at5 l u).c2.toNat,by omega⟩
  rw[show(at5 l u).c2.toNat=n by omega] at hputs
  have hset:=tset o n ⟨(at5 l u).c2,lo,hi,0,0⟩ (by rw[hs.len];omega)
  have hcl:=aGz aAr o
  have hol:=hs.len
  have hcl2:(n+1)*5≤o.length*5:=Nat.mul_le_mul_right _ (by omega)
  dsimp only at hset
  rw[hn] at hset hputs⊢
  repeat(first|(refine st ?_;intros)|refine G.draw [] (h:= ?_)|(refine cq hBe ?_)|(refine cq hIn ?_))
  refine Dn.round ⟨u+1,o.set n ⟨(n:Int),lo,hi,0,0⟩⟩ ⟨hlt,hputs⟩ (by dsimp only;omega)
 obtain⟨ch,hw,hcl,hcb,hci⟩:=hT.below hlv
 have hBe:=bHi pe m ke pl nl kl pf nf kf pt nt kt (some ⟨b0,off,none⟩) N ko l [(b0,aCa cs T0 fz)] hvr (by omega) (by omega) (u:Int) (v:Int) ch hw hcl hcb
 by_cases hsub:Sub l u v
 rotate_left
 ·have hBe:=hBe false (decide_eq_false fun h=>hsub ((hci u hlt).1 h)).symm
  repeat(first|(refine st ?_;intros)|refine G.draw [] (h:= ?_)|(refine cq hBe ?_)|(refine cq hIn ?_))
  refine Dn.round ⟨v+1,lo,hi⟩ ⟨hlv,hlo.pass hsub,hhi.pass hsub⟩ (by dsimp only;omega)
 have hBe:=hBe true (decide_eq_true ((hci u hlt).2 hsub)).symm
 have qv:=hq2 v hlv
 repeat(first|(refine st ?_;intros)|refine G.draw [] (h:= ?_)|(refine cq hBe ?_)|(refine cq hIn ?_))
 refine G.loop (X:=LvX) (fun s=>s.v≤m∧aTa N es fl l u v s.v s.lo∧aPl N es fl l u v s.v (v+1) s.hi) (fun s=>[(9,.int .i64 (s.v:Int)),(8,.int .i64 (v:Int)),(7,.int .i64 s.hi),(6,.int .i64 s.lo),(5,.int .i64 (at5 l u).c2),(4,.int .i64 (u:Int)),(3,.slice (some ⟨bx,0,none⟩) N N),(1,pv b1)])
  (fun _=>[[(bx,row (o.flatMap aAl) 49)],[(b1,row [.slice pe m ke,.slice pl nl kl,.slice pf nf kf,.slice pt nt kt,.slice (some ⟨b0,off,none⟩) N ko] 71)],ce,cf,[(b0,aCa cs T0 fz)]]) (fun s=>m-s.v) ⟨0,lo,max hi (at5 l v).c2⟩ ⟨AS _,hlo,hhi.at_ hlv hsub⟩ (body:= ?_)
 rintro⟨i,lo2,hi2⟩ ⟨hi0,hlo2,hhi2⟩
 dsimp only at hi0 hlo2 hhi2⊢
 by_cases hli:i<m
 rotate_left
 ·obtain rfl:i=m:=by omega
  rw[←hmm] at hlo2 hhi2
  repeat(first|(refine st ?_;intros)|refine G.draw [] (h:= ?_)|(refine cq hBe ?_)|(refine cq hIn ?_))
  refine Dn.round ⟨v+1,lo2,hi2⟩ ⟨hlv,hlo2.next,hhi2.next⟩ (by dsimp only;omega)
 have hie:es[i]? =some es[i]:=AE (by omega)
 have hine:=hf _ (List.getElem_mem (l:=es) (n:=i) (by omega))
 have hft:fl[i]? =some fl[i]:=AE (by omega)
 have hIn:=In19ct pe m ke pl nl kl pf nf kf pt nt kt (some ⟨b0,off,none⟩) N ko _ cf hvf (by omega) (i:Int)
 rw[bOu (by omega) hft] at hIn
 obtain⟨be,ofe,cse,Te,fze,rfl,rfl,hcut,hge⟩:=(RV.rw hve).pos aAr (by omega)
 have hcu:=hcut i _ (aGn hie)
 generalize fl[i]=fi at*
 generalize es[i]=e at*
 obtain⟨e1,e2⟩:=e
 unfold inE at hine
 dsimp only at hine hcu
 obtain⟨a,rfl⟩:∃a:Nat,e1=(a:Int):=⟨e1.toNat,by omega⟩
 obtain⟨c,rfl⟩:∃c:Nat,e2=(c:Int):=⟨e2.toNat,by omega⟩
 have qa:=hq2 a (by omega)
 have qc:=hq2 c (by omega)
 have hcu2:(cse.drop (ofe+i*5)).take 5=[.int .i64 (i:Int),.int .i64 (a:Int),.int .i64 (c:Int),.int .i64 0,.int .i64 0]:=hcu
 cases fi with
 |true=>
  have hsk:∀w,w<N→¬bOt es fl i v w:=by
   rintro w _ ⟨_,_,h2,_⟩
   rw[hft] at h2;cases h2
  repeat(first|(refine st ?_;intros)|refine G.draw [] (h:= ?_)|(refine cq hBe ?_)|(refine cq hIn ?_))
  refine Dn.round ⟨i+1,lo2,hi2⟩ ⟨hli,hlo2.skip hsk,hhi2.skip hsk⟩ (by dsimp only;omega)
 |false=>
 by_cases hav:(a:Int)=(v:Int)
 ·have h3:a=v∨c=v:= .inl (by omega)
  repeat(first|(refine st ?_;intros)|refine G.draw [] (h:= ?_)|(refine cq hBe ?_)|(refine cq hIn ?_))
  refine R.min3 (hx:=rfl) (hy:=rfl) (hz:=rfl) (hc:=rfl) (hn:=nle rfl) (h:= ?_)
  repeat(first|(refine st ?_;intros)|refine G.draw [] (h:= ?_)|(refine cq hBe ?_)|(refine cq hIn ?_))
  refine R.max3 (hx:=rfl) (hy:=rfl) (hz:=rfl) (hc:=rfl) (hn:=nle rfl) (h:= ?_)
  repeat(first|(refine st ?_;intros)|refine G.draw [] (h:= ?_)|(refine cq hBe ?_)|(refine cq hIn ?_))
  refine Dn.round ⟨i+1,_,_⟩ ⟨hli,hlo2.edge hlv hsub (by omega) (by omega) hie hft h3,hhi2.edge hlv hsub (by omega) (by omega) hie hft h3⟩ (by dsimp only;omega)
 by_cases hcv:(c:Int)=(v:Int)
 ·have h3:a=v∨c=v:= .inr (by omega)
  repeat(first|(refine st ?_;intros)|refine G.draw [] (h:= ?_)|(refine cq hBe ?_)|(refine cq hIn ?_))
  refine R.min3 (hx:=rfl) (hy:=rfl) (hz:=rfl) (hc:=rfl) (hn:=nle rfl) (h:= ?_)
  repeat(first|(refine st ?_;intros)|refine G.draw [] (h:= ?_)|(refine cq hBe ?_)|(refine cq hIn ?_))
  refine R.max3 (hx:=rfl) (hy:=rfl) (hz:=rfl) (hc:=rfl) (hn:=nle rfl) (h:= ?_)
  repeat(first|(refine st ?_;intros)|refine G.draw [] (h:= ?_)|(refine cq hBe ?_)|(refine cq hIn ?_))
  refine Dn.round ⟨i+1,_,_⟩ ⟨hli,hlo2.edge hlv hsub (by omega) (by omega) hie hft h3,hhi2.edge hlv hsub (by omega) (by omega) hie hft h3⟩ (by dsimp only;omega)
 have hsk:∀w,w<N→¬bOt es fl i v w:=by
  rintro w _ ⟨e,h1,_,h4⟩
  rw[hie] at h1
  obtain rfl:=BG h1
  dsimp only at h4
  omega
 repeat(first|(refine st ?_;intros)|refine G.draw [] (h:= ?_)|(refine cq hBe ?_)|(refine cq hIn ?_))
 refine Dn.round ⟨i+1,lo2,hi2⟩ ⟨hli,hlo2.skip hsk,hhi2.skip hsk⟩ (by dsimp only;omega)
theorem bHj {es:List IE} {e:IE} {i:Nat} (h:i<es.length):gE (es++[e]) i=gE es i:=by
 unfold gE
 rw[A7 h]
theorem bHk {es:List IE} {e:IE}:gE (es++[e]) es.length=(e.1.toNat,e.2.toNat):=by
 unfold gE
 rw[BB (AG _),DF];rfl
theorem Cn.swap {g g':Nat→Ed} {S:Nat→Prop} (hg:∀i,S i→g i=g' i) {a b:Nat} (h:Cn g S a b):Cn g' S a b:=by
 induction h with
 |refl=>exact .refl _
 |step _ h ih=>
  obtain⟨i,hi,h⟩:=h
  exact .step ih ⟨i,hi,by rw[←hg i hi];exact h⟩
theorem bAl {es:List IE} {fl:List Bool} {e:IE} (hfl:fl.length=es.length):aCq (edT (es++[e])) (fl++[false])=aCq (edT es) fl:=by
 refine aSi (aLa _ _) (aLa _ _) fun z=> ?_
 rw[aHu,aHu]
 constructor
 ·rintro⟨i,d,h1,h2,rfl⟩
  have hi:i<es.length:=by
   have:=(AK.1 h1).1
   by_cases hc:i<es.length
   ·exact hc
   ·simp at this
    obtain rfl:i=es.length:=by omega
    rw[BB (by omega),hfl,DF] at h2
    simp at h2
  rw[A7 hi] at h1
  rw[A7 (by omega)] at h2
  exact⟨i,d,h1,h2,rfl⟩
 ·rintro⟨i,d,h1,h2,rfl⟩
  have hi:=(AK.1 h1).1
  exact⟨i,d,by rw[A7 hi];exact h1,by rw[A7 (by omega)];exact h2,rfl⟩
theorem bCf {N:Nat} {es:List IE} {lab:List Int} {fl:List Bool} {r b:List T5} (hP:aAm N es lab fl r b) (e:IE) (he:inE N e) (hx:lab[e.1.toNat]? =lab[e.2.toNat]?):aAm N (es++[e]) lab (fl++[false]) r b:=by
 have hfl:=hP.fors.1
 unfold inE at he
 have huw:Cn (gE es) (fun i=>i<es.length) e.1.toNat e.2.toNat:=by
  obtain⟨x,h1,h2,_,_⟩:=hP.labs.at_ e.1.toNat (by omega) (by omega)
  obtain⟨y,g1,g2,_,_⟩:=hP.labs.at_ e.2.toNat (by omega) (by omega)
  rw[h1,g1] at hx
  obtain rfl:x=y:=by have:=BG hx;omega
  exact h2.trans g2.symm
 have hup:∀{S:Nat→Prop} {a b:Nat},(∀i,S i→i<es.length)→Cn (gE es) S a b→Cn (gE (es++[e])) S a b:=fun hs h=>Cn.swap (fun i hi=>(bHj (hs i hi)).symm) h
 have hdn:∀{S:Nat→Prop} {a b:Nat},(∀i,S i→i<es.length)→Cn (gE (es++[e])) S a b→Cn (gE es) S a b:=fun hs h=>Cn.swap (fun i hi=>bHj (hs i hi)) h
 have hl:(es++[e]).length=es.length+1:=by simp
 have hcn:∀a b,Cn (gE (es++[e])) (fun i=>i<(es++[e]).length) a b↔Cn (gE es) (fun i=>i<es.length) a b:=by
  intro a b
  constructor
  ·intro h
   refine hdn (fun i hi=>hi) (h.sub fun i hi=> ?_)
   by_cases hi2:i<es.length
   ·exact Cn.edge hi2
   ·obtain rfl:i=es.length:=by omega
    rw[bHk]
    exact hup (fun i hi=>hi) huw
  ·intro h
   exact(hup (fun i hi=>hi) h).mono fun i hi=>by omega
 refine⟨⟨hP.labs.len,fun v hv hw=> ?_,hP.labs.out⟩,⟨by simp[hfl],fun i bb hb=> ?_⟩,?_,?_,hP.tours⟩
 ·obtain⟨x,h1,h2,h3,h4⟩:=hP.labs.at_ v hv hw
  exact⟨x,h1,(hcn _ _).2 h2,h3,fun u hu=>h4 u ((hcn _ _).1 hu)⟩
 ·by_cases hi:i<es.length
  ·rw[A7 (by omega)] at hb
   rw[hP.fors.2 i bb hb]
   unfold Kr
   rw[bHj hi]
   have h1:Cn (gE (es++[e])) (fun j=>j<(es++[e]).length∧j<i) (gE es i).1 (gE es i).2↔Cn (gE es) (fun j=>j<es.length∧j<i) (gE es i).1 (gE es i).2:=by
    constructor
    ·intro h
     exact(hdn (fun j hj=>by omega) h).mono fun j hj=>⟨by omega,hj.2⟩
    ·intro h
     exact(hup (fun j hj=>hj.1) h).mono fun j hj=>⟨by omega,hj.2⟩
   rw[h1]
   exact and_congr_left' ⟨fun h=>by omega,fun h=>by omega⟩
  ·have hie:i=es.length:=by
    have:=(AK.1 hb).1
    simp at this;omega
   subst hie
   rw[BB (by omega),hfl,DF] at hb
   obtain rfl:false=bb:=by simpa using hb
   constructor
   ·intro h;cases h
   ·rintro⟨_,h⟩
    exfalso
    apply h
    rw[bHk]
    exact(hup (fun i hi=>hi) huw).mono fun j hj=>⟨by omega,hj⟩
 ·rw[show aCq (edT (es++[e])) (fl++[false])=aCq (edT es) fl from bAl hfl];exact hP.arcs
 ·rw[show aCq (edT (es++[e])) (fl++[false])=aCq (edT es) fl from bAl hfl];exact hP.len
theorem Adj.more {es:List IE} {fl:List Bool} {e:IE} {u w:Nat} (h:Adj es fl u w) (hfl:fl.length=es.length):Adj (es++[e]) (fl++[false]) u w:=by
 obtain⟨i,d,h1,h2,h3⟩:=h
 have hi:=(AK.1 h1).1
 exact⟨i,d,by rw[A7 hi];exact h1,by rw[A7 (by omega)];exact h2,h3⟩
theorem Out.more {N:Nat} {es:List IE} {fl:List Bool} {l:List T5} {e:IE} {v:Nat} {x:Int} (h:Out N es fl l v x) (hfl:fl.length=es.length):Out N (es++[e]) (fl++[false]) l v x:=by
 obtain⟨u,hu,hs,h⟩:=h
 exact⟨u,hu,hs,h.imp id fun ⟨w,hw,ha,he⟩=>⟨w,hw,ha.more hfl,he⟩⟩
theorem bOv (es:List IE):(es.flatMap ecl).all Value.oneCell'=true:=by
 rw[List.all_eq_true]
 intro v hv
 obtain⟨e,_,he⟩:=List.mem_flatMap.1 hv
 simp only[ecl,AM,List.not_mem_nil,or_false] at he
 rcases he with rfl|rfl<;>rfl
theorem aYu (es:List IE):(es.flatMap ecl).length=es.length*2:=by
 induction es with
 |nil=>rfl
 |cons e es ih=>rw[A6,List.length_append,ih,AL];simp only[ecl,AL,AU];omega
end Go.Proofs.YtammjnjpheobaaaGreat
