/-
  Parts of the proof, put together (10). No condition.
-/
import Derived.Test.YtaofijjjheiknaaGreatM9
set_option linter.unusedVariables false
set_option linter.unusedSimpArgs false
set_option linter.unnecessarySimpa false
set_option maxHeartbeats 4000000
open Go.IntKind renaming wrap→AJ
open Go.Proofs.Tryz renaming prog→AC
open List renaming cons_append→AA,nil_append→AB,getElem?_eq_getElem→AE,length_append→AF,mem_cons_self→AH,mem_cons_of_mem→AI,getElem?_eq_some_iff→AK,mem_cons→AM,mem_append→AO,append_assoc→AP,append_nil→AQ,mem_map→AU,flatten_cons→AW,map_append→AX,length_map→AY,flatten_append→A0,take_of_length_le→A4,flatten_nil→A5,pairwise_iff_getElem→BJ,count_append→BK,mem_append_left→BO,take_add_one→BP,drop_eq_getElem_cons→BQ,perm_middle→B4,rel_of_pairwise_cons→CA,filter_append→CC,mem_iff_getElem→CG,drop_zero→CT,map_map→DE,take_length→DF,length_set→DS,append_of_mem→EA,find?_eq_none→EE,length_eq_zero_iff→EF
open Nat renaming reduceAdd→AD,le_refl→AG,zero_le→AS,le_trans→BB,div_le_div_right→BX,lt_trichotomy→CJ,add_le_add_right→DH
open Option.some renaming injEq→BA,inj→BD
namespace Go.Proofs.YtaofijjjheiknaaGreat
open Go.SL Go.Spc Go.Tup Go.Srt
theorem aAq.in_ {d d':Nat→Option (List Int)} {s:Nat} {f:Fl} {ts:List T5} {live:List Ext} (h:aAq d s [f.ext] f ts) (hm:f.blocks≠0→f.ext∈live) (hk:∀x,inF live x→d' x=d x):aAq d' s [f.ext] f ts:=by
 by_cases hb:f.blocks=0
 ·exact{h with onto:=fun j hj=>by omega}
 ·refine h.keep fun x ⟨e,he,h2⟩=>hk x ⟨e,?_,h2⟩
  simp only[List.mem_singleton] at he;subst he
  exact hm hb
theorem bIb {α:Type} {l:List α} {i:Nat} {x:α} (h:l[i]? =some x):∃l1 l2,l=l1++x::l2∧∀y,l.set i y=l1++y::l2:=by
 induction l generalizing i with
 |nil=>simp at h
 |cons a l ih=>
  cases i with
  |zero=>simp only[List.getElem?_cons_zero,BA] at h;subst h;exact⟨[],l,rfl,fun y=>rfl⟩
  |succ i=>
   obtain⟨l1,l2,h1,h2⟩:=ih (i:=i) oA11
   exact⟨a::l1,l2,by rw[h1];rfl,fun y=>by rw[List.set_cons_succ,h2];rfl⟩
theorem aLr.uniq {p:Jp} {J:Jb} {held:List (Fl×List T5)} {W:Wk} {cd ca cs:aAc} (h:aLr p J held W) (hW:Wc p.bd p.ba p.bs W cd ca cs) {f:Fl} {ts us:List T5} {l1 l2:List (Fl×List T5)} (he:held=l1++(f,us)::l2) (hm:(f,ts)∈held):us=ts:=by
 obtain⟨⟨aa,_⟩,_⟩:=hW.dev.num
 have h1:=h.files _ hm
 have h2:=h.files (f,us) (by rw[he];simp)
 by_cases hb:f.blocks=0
 ·have h3:=h1.blk
  have hh:1≤aAf p.size f.width:=by rw[←h.size];exact aAl aa h1.w1 h1.w2
  dsimp only at h3
  unfold aAb at h3
  rw[hb] at h3
  have h4:f.count+aAf p.size f.width-1<aAf p.size f.width:=by
   rcases Nat.div_eq_zero_iff.1 h3.symm with h|h<;>omega
  have h5:f.count=0:=oM
  have h6:=h1.len;have h7:=h2.len
  dsimp only at h6 h7
  rw[EF.1 (by omega:ts.length=0),EF.1 (by omega:us.length=0)]
 ·by_cases hu:us=ts
  ·exact hu
  ·exfalso
   have ab:(f,ts)∈l1++l2:=by
    rw[he] at hm
    simp only[AO,AM,Prod.mk.injEq] at hm⊢
    rcases hm with hm|⟨_,hm⟩|hm
    ·exact .inl hm
    ·exact absurd hm.symm hu
    ·exact .inr hm
   have h3:W.live.Perm (f.ext::aAz ((l1++l2).map (·.1)) p.L0):=by
    refine h.live.trans ?_
    have h4:(held.map (·.1)).Perm (f::(l1++l2).map (·.1)):=by rw[he];simp
    refine(aEl h4 _).trans ((aDt _ _ _).trans ?_)
    unfold aCj;rw[if_neg hb]
   have h5:=hW.live.perm h3
   have h6:f.ext∈aAz ((l1++l2).map (·.1)) p.L0:=aHa (AU.2 ⟨_,ab,rfl⟩) hb
   have h7:=CA h5.apart h6
   have h8:f.ext.2=f.blocks:=rfl
   omega
theorem aPo {p:Jp} {e:Int} {cd ca cs:aAc} {ph:Option Addr} {n cap:Nat} {ch:aAc}:([aJg p e cd ca cs ph n cap ch]:Hp).flatten.Perm ([aFg p.bj p.bw e ph n cap,ch,[aAi p.bw p.bd p.ba p.bs,cd,ca,cs].flatten]:Hp).flatten:=by
 unfold aJg;refine aEq fun z=> ?_;simp only[AW,A5,AQ,BK];omega
theorem JSort (p:Jp) (hp:p.Ok) (J:Jb) (C:aAc) (hJ:aRu p J C) (f:Fl) (ts:List T5) (G':List (Fl×List T5)) (o:T5) (ho:aGj o=true) (once:Bool) (A T:Nat)
  (hG:J.e=0→J.G.Perm ((f,ts)::G')) (hT:J.e=0→aFb f.blocks≤T) (ao:J.e=0→Fits p J T) (hA:J.e=0→aZc f.blocks≤A) (a6:J.acts+A≤1000000000) (ax:f.count≤100000):
  Ct AC 64 [pv p.bj,flv f,tv o,.bool once] [C] fun v H'=>
   ∃g C' e',v=flv g∧H'=[C']∧aRu p ⟨e',J.er,(g,srt (ltO o) once ts)::G',J.acts+A,J.took+T⟩ C'∧
    (e'=0→J.e=0∧g.width=f.width∧g.count=(srt (ltO o) once ts).length)∧g.count≤f.count∧g.blocks≤f.blocks:=by
 obtain⟨W,cd,ca,cs,held,ph,cap,ch,rfl,hW,hV,aa⟩:=hJ
 by_cases he:J.e=0
 ·have a7:=aa.used hp hW
  have ap:=aa.ok he
  have ag:(f,ts)∈held:=ap.1.mem_iff.2 ((hG he).mem_iff.2 AH)
  obtain⟨k1,k2,hk⟩:=EA ag
  have ay:W.live.Perm (aCj f (aAz ((k1++k2).map (·.1)) p.L0)):=by
   refine aa.live.trans ((aEl (b:=f::(k1++k2).map (·.1)) ?_ _).trans (aDt _ _ _))
   rw[hk];simp
  have aq:=aa.files _ ag
  rw[←aa.size] at aq
  have hS:=Sort_u p.bw p.bd p.ba p.bs W cd ca cs hW f ts _ aq ay o ho once oM (by have:=aa.acts;omega) ax
  have az:Ct AC 127 [pv p.bw,flv f,tv o,.bool once] [[aAi p.bw p.bd p.ba p.bs,cd,ca,cs].flatten] fun v H'=>∃g e au,v= .tuple #[flv g,.int .i64 e]∧H'=[au]∧
    ∃ac ad ae W',au=[aAi p.bw p.bd p.ba p.bs,ac,ad,ae].flatten∧Wc p.bd p.ba p.bs W' ac ad ae∧Ev W W' (aZc f.blocks) (aFb f.blocks)∧W'.α.gs.Perm W.α.gs∧aBv (aAz ((k1++k2).map (·.1)) p.L0) W W'∧
    ((e=0∧W'.live.Perm (aCj g (aAz ((k1++k2).map (·.1)) p.L0))∧g.width=f.width∧g.count≤f.count∧aAq W'.δ.disk W.δ.size [g.ext] g (srt (ltO o) once ts))∨
     (e=6∧g=⟨0,0,0,0⟩∧W.δ.fault≠-1∧W'.live.Perm W.live∧aBv W.live W W')):=by
   refine Ct.convP hS oA15 ?_
   rintro v H' ⟨ac,ad,ae,W',rfl,ai,ab,aj,ak,hc⟩
   rcases hc with⟨g,out,rfl,h1,h2,h3,h4,h5,h6⟩|⟨rfl,h1,_⟩|⟨rfl,h1,h2,h3⟩
   ·rw[srt_is (aBy o) h5 h6] at h4
    exact⟨[[aAi p.bw p.bd p.ba p.bs,ac,ad,ae].flatten],⟨g,0,_,rfl,rfl,ac,ad,ae,W',rfl,ai,ab,aj,ak,.inl ⟨rfl,h1,h2,h3,h4⟩⟩,by simp⟩
   ·have:=aa.big hW he (ao he);have:=hT he;omega
   ·exact⟨[[aAi p.bw p.bd p.ba p.bs,ac,ad,ae].flatten],⟨⟨0,0,0,0⟩,6,_,rfl,rfl,ac,ad,ae,W',rfl,ai,ab,aj,ak,.inr ⟨rfl,rfl,h1,h2,h3⟩⟩,by simp⟩
  have hY:=bIa p.bj p.bw ph cap held ch hV (by have:=aa.len;omega) f ts ag o once _ _ az
  rw[he]
  refine Ct.convP hY aPo ?_
  rintro v H' ⟨g,e,au,⟨ac,ad,ae,W',rfl,ai,ab,aj,ak,hc⟩,hv⟩
  have al:W'.δ.acts≤J.acts+A:=by have:=ab.acts.2;have:=aa.acts;have:=hA he;omega
  have av:p.b0≤big W'.σ.free+(J.took+T):=by have:=ab.big;have:=aa.tk;have:=hT he;omega
  have a0:aBv p.L0 W W':=ak.sub fun e he=>aCx he
  have ah:∀x,inF p.L0 x→W'.δ.disk x=p.D0 x:=fun x hx=>(a0 x hx).trans (aa.keep x hx)
  rcases hv with⟨rfl,rfl,i,aw,us,hi,rfl,a1⟩|⟨a2,rfl,rfl⟩
  ·rcases hc with⟨_,c1,c2,c3,c4⟩|⟨h0,_⟩
   ·obtain⟨l1,l2,e1,e2⟩:=bIb hi
    obtain rfl:=aa.uniq hW e1 ag
    have am:(k1++k2).Perm (l1++l2):=by
     have h1:(k1++(f,us)::k2).Perm (l1++(f,us)::l2):=by rw[←hk,←e1]
     exact((B4.symm.trans h1).trans B4).cons_inv
    have a3:g.blocks≤f.blocks:=by rw[c4.blk,aq.blk,c2];exact aAm c3
    have a4:G'.Perm (l1++l2):=by
     have h1:=(ap.1.trans (hG he))
     rw[e1] at h1
     exact(h1.symm.trans B4).cons_inv
    refine⟨[aJg p 0 ac ad ae ph held.length cap aw],⟨g,_,0,rfl,rfl,⟨W',ac,ad,ae,held.set i (g,srt (ltO o) once us),ph,cap,aw,by rw[DS],ai,by rw[DS];exact a1 _,?_⟩,fun _=>⟨rfl,c2,c4.len.symm⟩,c3,a3⟩,aPo.symm⟩
    rw[e2]
    refine⟨aj.trans aa.gs,ab.room.trans aa.room,ab.size.trans aa.size,ab.n.trans aa.n,?_,?_,?_,ah,fun hf=>ab.fault (aa.flt hf),al,av,fun _=>⟨?_,ap.2⟩,fun h0=>absurd rfl h0⟩
    ·refine c1.trans ?_
     have h1:((l1++(g,srt (ltO o) once us)::l2).map (·.1)).Perm (g::(k1++k2).map (·.1)):=by
      refine(List.perm_middle.map _).trans ?_
      exact(am.symm.map _).cons _
     exact((aEl h1 _).trans (aDt _ _ _)).symm
    ·intro x hx
     have an:x=(g,srt (ltO o) once us)∨x∈l1++l2:=by
      simp only[AO,AM] at hx⊢
      rcases hx with h|h|h
      ·exact .inr (.inl h)
      ·exact .inl h
      ·exact .inr (.inr h)
     rcases an with rfl|an
     ·rw[←aa.size];exact c4
     ·have h1:=aa.files x (by rw[e1];simp only[AO,AM] at an⊢;rcases an with h|h;exact .inl h;exact .inr (.inr h))
      exact h1.in_ (fun hb=>aHa (AU.2 ⟨x,am.mem_iff.2 an,rfl⟩) hb) ak
    ·have:=aa.len;rw[e1] at this;simpa using this
    ·exact B4.trans (a4.symm.cons _)
   ·omega
  ·rcases hc with⟨h0,_⟩|⟨rfl,rfl,c1,c2,c3⟩
   ·exact absurd h0 a2
   ·refine⟨[aJg p 6 ac ad ae ph held.length cap ch],⟨⟨0,0,0,0⟩,_,6,rfl,rfl,⟨W',ac,ad,ae,held,ph,cap,ch,rfl,ai,hV,?_⟩,fun h0=>absurd h0 oA14,AS _,AS _⟩,aPo.symm⟩
    refine⟨aj.trans aa.gs,ab.room.trans aa.room,ab.size.trans aa.size,ab.n.trans aa.n,c2.trans aa.live,?_,aa.len,ah,fun hf=>ab.fault (aa.flt hf),al,av,fun h0=>absurd (show(6:Int)=0 from h0) oA14,fun _=> .inl ⟨rfl,?_⟩⟩
    ·intro x hx
     exact(aa.files x hx).in_ (fun hb=>aa.live.mem_iff.2 (aHa (AU.2 ⟨x,hx,rfl⟩) hb)) c3
    ·by_cases hf:p.fl
     ·exact hf
     ·exact absurd (aa.flt hf) c1
 ·have a5:=Ct.wide (bMl p.bj p.bw J.e he ph held.length cap f o once) [aAi p.bw p.bd p.ba p.bs,cd,ca,cs,ch]
  refine Ct.convP a5 (by unfold aJg;refine aEq fun z=> ?_;simp only[AW,A5,AQ,A0,BK];omega) ?_
  rintro v H' ⟨H1,⟨rfl,rfl⟩,rfl⟩
  refine⟨[aJg p J.e cd ca cs ph held.length cap ch],⟨⟨0,0,0,0⟩,_,J.e,rfl,rfl,⟨W,cd,ca,cs,held,ph,cap,ch,rfl,hW,hV,?_⟩,fun h0=>absurd h0 he,AS _,AS _⟩,?_⟩
  ·have:=aa.idle he none ((⟨0,0,0,0⟩,srt (ltO o) once ts)::G') A T
   have h2:J.er.or none=J.er:=by cases J.er<;>rfl
   rw[h2] at this
   exact this
  ·unfold aJg;refine aEq fun z=> ?_;simp only[AW,A5,AQ,A0,BK];omega
theorem aLr.take1 {p:Jp} {J:Jb} {held:List (Fl×List T5)} {W W':Wk} {cd ca cs:aAc} (h:aLr p J held W) (hW:Wc p.bd p.ba p.bs W cd ca cs) {f:Fl} {us:List T5} {l1 l2:List (Fl×List T5)} (he:held=l1++(f,us)::l2)
  (hδ:W'.δ=W.δ) (hα:W'.α=W.α) (hn:W'.σ.n=W.σ.n) (hb:Go.Spc.big W.σ.free≤Go.Spc.big W'.σ.free) (hl:W'.live.Perm (aAz ((l1++l2).map (·.1)) p.L0)) {G':List (Fl×List T5)} (hG:J.e=0→∃ts,J.G.Perm ((f,ts)::G')):aLr p ⟨J.e,J.er,G',J.acts,J.took⟩ (l1++l2) W':=by
 refine⟨by rw[hα];exact h.gs,by rw[hα];exact h.room,by rw[hδ];exact h.size,hn.trans h.n,hl,?_,?_,by rw[hδ];exact h.keep,by rw[hδ];exact h.flt,by rw[hδ];exact h.acts,BB h.tk (DH hb _),fun e0=> ?_,h.why⟩
 ·intro x hx
  rw[hδ]
  refine h.files x ?_
  rw[he]
  simp only[AO,AM] at hx⊢
  rcases hx with h|h
  ·exact .inl h
  ·exact .inr (.inr h)
 ·have:=h.len;rw[he] at this;simp at this⊢;omega
 ·obtain⟨h1,h2⟩:=h.ok e0
  obtain⟨ts,h3⟩:=hG e0
  have h4:(f,ts)∈held:=h1.mem_iff.2 (h3.mem_iff.2 AH)
  obtain rfl:=h.uniq hW he h4
  have h5:=h1.trans h3
  rw[he] at h5
  exact⟨(B4.symm.trans h5).cons_inv,h2⟩
structure JFreeX where
 k:Nat
 held:List (Fl×List T5)
 ph:Option Addr
 cap:Nat
 ch:aAc
 cs:aAc
 W:Wk
theorem bIc {α:Type} {l:List α} {i:Nat} {x:α} (h:l[i]? =some x):∃l1 l2,l=l1++x::l2∧l1.length=i:=by
 obtain⟨hi,rfl⟩:=AK.1 h
 exact⟨l.take i,l.drop (i+1),by rw[←BQ hi,List.take_append_drop],by simp;omega⟩
theorem aWr (l1 l2:List Fl) (f:Fl) (rest:List Value):((aAj (l1++f::l2)++rest).drop ((l1.length+1)*4)).take (l2.length*4)=aAj l2:=by
 rw[aCq,aHs,←AP,AP (aAj l1++fl4 f)]
 have h1:(aAj l1++fl4 f).length=(l1.length+1)*4:=by rw[AF,aBq];simp[fl4];omega
 rw[←h1,List.drop_left]
 rw[←aBq,List.take_left]
theorem aWs (l1 l2:List Fl) (rest:List Value):aAj (l1++l2)++rest=aAj l1++(aAj l2++rest):=by rw[aCq,AP]
theorem bEf (l:List Fl):(aAj l).all Value.oneCell'=true:=by
 induction l with
 |nil=>rfl
 |cons f l ih=>rw[aHs,List.all_append,ih];rfl
theorem bId (p:Jp) (hp:p.Ok) (J:Jb) (ab:List (Fl×List T5)) (W0:Wk) (cd ca aw:aAc) (bu:Wc p.bd p.ba p.bs W0 cd ca aw) (av:aLr p J ab W0) (ax:Option Addr) (ae:Nat) (au:aAc) (bq:Vec 42 4 ax ab.length ae (aAj (ab.map (·.1))) au)
  (fs:List Fl) (fts G':List (Fl×List T5)) (hG:J.e=0→J.G.Perm (fts++G')∧fs=fts.map (·.1)) (cv:fs.length≤1000) (pa:Option Addr) (cap:Nat) (cf:aAc) (bv:Vec 42 4 pa fs.length cap (aAj fs) cf):
  Ct AC 114 [pv p.bj,.slice pa fs.length cap] [aFg p.bj p.bw J.e ax ab.length ae,au,aAi p.bw p.bd p.ba p.bs,aw,cf] fun v H'=>
   ∃held ph cap' ch cs W,v= .tuple #[]∧H'=[aFg p.bj p.bw J.e ph held.length cap',ch,aAi p.bw p.bd p.ba p.bs,cs,cf]∧Wc p.bd p.ba p.bs W cd ca cs∧Vec 42 4 ph held.length cap' (aAj (held.map (·.1))) ch∧aLr p ⟨J.e,J.er,G',J.acts,J.took⟩ held W:=by
 unfold aFg
 refine Ct.go Tryz.func114 Tryz.ntmps114 fun w0=> ?_
 repeat(refine sv ?_;intros)
 refine G.loop (X:=JFreeX) (fun x=>x.k≤fs.length∧Wc p.bd p.ba p.bs x.W cd ca x.cs∧Vec 42 4 x.ph x.held.length x.cap (aAj (x.held.map (·.1))) x.ch∧aLr p ⟨J.e,J.er,fts.drop x.k++G',J.acts,J.took⟩ x.held x.W)
  (fun x=>[(10,.int .i64 (x.k:Int)),(9,.int .i64 (fs.length:Int)),(8,.slice pa fs.length cap),(0,pv p.bj)])
  (fun x=>[[(p.bj,row [pv p.bw,.int .i64 J.e,.slice x.ph x.held.length x.cap] 98)],x.ch,aAi p.bw p.bd p.ba p.bs,x.cs,cf]) (fun x=>fs.length-x.k) ⟨0,ab,ax,ae,au,aw,W0⟩
  ⟨AS _,bu,bq,{av with ok:=fun e0=>⟨(av.ok e0).1.trans (by simpa using(hG e0).1),(av.ok e0).2⟩}⟩ (body:= ?_)
 rintro⟨k,held,ph,aa,ch,cs,W⟩ ⟨hk,hW,hV,hJ⟩
 dsimp only at hk hW hV hJ⊢
 have ci:=hJ.len
 by_cases ag:k<fs.length
 ·obtain⟨fb,ah,rfl,rfl,cw,cz,hfm⟩:∃b rest,pa=some ⟨b,0,none⟩∧cf=[(b,row (aAj fs++rest) 42)]∧cap*4≤(aAj fs).length+rest.length∧fs.length≤cap∧cap≤maxLen:=by
   rcases bv.2 with⟨_,e,_⟩|hh
   ·omega
   ·exact hh
  have bz:fs[k]? =some fs[k]:=AE ag
  have ay:=aJu (rs:=fs.map fun f=>(f,[])) (rest:=ah) (j:=k) (r:=(fs[k],[])) (by simp[bz])
  rw[DE] at ay
  have b1:(fs.map ((fun x:Fl×List T5=>x.1)∘fun f=>(f,[])))=fs:=by simp[Function.comp_def]
  rw[b1] at ay
  have a7:J.e=0→∃ts,(fts.drop k++G').Perm ((fs[k],ts)::(fts.drop (k+1)++G')):=by
   intro e0
   obtain⟨_,h2⟩:=hG e0
   have h3:k<fts.length:=by have:=congrArg List.length h2;rw[AY] at this;omega
   refine⟨fts[k].2,?_⟩
   rw[BQ h3]
   have h4:fs[k]=fts[k].1:=by simp[h2]
   rw[h4];exact .refl _
  generalize hf:fs[k]=f at*
  generalize a8:aAj fs++ah=b2 at*
  obtain⟨f1,f2,f3,f4⟩:=f
  dsimp only at ay
  have b3:held.length≤maxLen:=by simp only[maxLen];omega
  repeat(refine sv ?_;intros)
  rename_i b5
  refine G.loop (X:=Nat) (fun i=>i≤held.length∧∀j x,j<i→held[j]? =some x→x.1≠⟨f1,f2,f3,f4⟩)
   (fun i=>[(19,.int .i64 (i:Int)),(18,.int .i64 (held.length:Int)),(17,.slice ph held.length aa),(5,pv b5),(10,.int .i64 (k:Int)),(9,.int .i64 (fs.length:Int)),(8,.slice (some ⟨fb,0,none⟩) fs.length cap),(0,pv p.bj)])
   (fun _=>[[(b5,row [.int .i64 (f1:Int),.int .i64 (f2:Int),.int .i64 (f3:Int),.int .i64 (f4:Int)] 42)],[(p.bj,row [pv p.bw,.int .i64 J.e,.slice ph held.length aa] 98)],ch,aAi p.bw p.bd p.ba p.bs,cs,[(fb,row b2 42)]]) (fun i=>held.length-i) 0 ⟨AS _,fun j x h=>by omega⟩ (body:= ?_)
  rintro i ⟨hi,a9⟩
  by_cases bc:i<held.length
  ·obtain⟨vb,rest,rfl,rfl,b4,c5,c6⟩:∃b rest,ph=some ⟨b,0,none⟩∧ch=[(b,row (aAj (held.map (·.1))++rest) 42)]∧aa*4≤(aAj (held.map (·.1))).length+rest.length∧held.length≤aa∧aa≤maxLen:=by
    rcases hV.2 with⟨_,e,_⟩|hh
    ·omega
    ·exact hh
   have az:held[i]? =some held[i]:=AE bc
   have be:=aJu (rest:=rest) az
   generalize hx:held[i]=x at*
   obtain⟨⟨x1,x2,x3,x4⟩,us⟩:=x
   dsimp only at be
   by_cases bf:x1=f1∧x2=f2∧x3=f3∧x4=f4
   ·obtain⟨rfl,rfl,rfl,rfl⟩:=bf
    obtain⟨l1,l2,e1,a0⟩:=bIc az
    have b6:W.live.Perm (aCj ⟨x1,x2,x3,x4⟩ (aAz ((l1++l2).map (·.1)) p.L0)):=by
     refine hJ.live.trans ((aEl (b:=⟨x1,x2,x3,x4⟩::(l1++l2).map (·.1)) ?_ _).trans (aDt _ _ _))
     rw[e1];simp
    have hF:=aKv p.bw p.bd p.ba p.bs W cd ca cs hW ⟨x1,x2,x3,x4⟩ _ (aDv.add b6)
    have bg:flv ⟨x1,x2,x3,x4⟩= .agg #[.int .i64 (x1:Int),.int .i64 (x2:Int),.int .i64 (x3:Int),.int .i64 (x4:Int)]:=rfl
    rw[bg] at hF
    have c7:held.length=i+1+l2.length:=by rw[e1];simp;omega
    have ap:(l1++l2).length=i+(held.length-(i+1)):=by rw[AF];omega
    have bh:held.map (·.1)=l1.map (·.1)++⟨x1,x2,x3,x4⟩::l2.map (·.1):=by rw[e1];simp
    have aq:(l1.map (·.1)).length=i:=by rw[AY];exact a0
    have ai:=aWr (l1.map (·.1)) (l2.map (·.1)) ⟨x1,x2,x3,x4⟩ rest
    have ad:=aWs (l1.map (·.1)) (⟨x1,x2,x3,x4⟩::l2.map (·.1)) rest
    rw[←bh] at ai ad
    have bi:held.length-(i+1)=(l2.map (·.1)).length:=by rw[AY];omega
    rw[aq,←bi] at ai
    have cj:(aAj (l2.map (·.1))).length=(held.length-(i+1))*4:=by rw[aBq,bi]
    have cm:=bEf (l2.map (·.1))
    generalize bk:aAj (held.map (·.1))++rest=cells at*
    have c8:aa*4≤cells.length:=by rw[←bk,AF];exact b4
    have b7:Vec 42 4 (some ⟨vb,0,none⟩) i i (aAj (l1.map (·.1))) [(vb,row cells 42)]:=by
     refine Vec.mk' ad (by rw[aBq,aq]) oM (AG _) oM
    have ei:((i:Int)+1).toNat=i+1:=oM
    have a6:∀W',W'.δ=W.δ→W'.α=W.α→W'.σ.n=W.σ.n→big W.σ.free≤big W'.σ.free→W'.live=aAz ((l1++l2).map (·.1)) p.L0→aLr p ⟨J.e,J.er,fts.drop (k+1)++G',J.acts,J.took⟩ (l1++l2) W':=by
     intro W' a1 a2 a3 a4 a5
     exact hJ.take1 hW e1 a1 a2 a3 a4 (by rw[a5]) (fun e0=>a7 e0)
    by_cases cu:i+1<held.length
    ·repeat(refine sv ?_;intros)
     rename_i p' cap' bo b8
     refine R.call (hct:=hF) (h:= ?_)
     rintro _ _ ⟨aj,W',rfl,rfl,ak,ac,al,am,an⟩
     try dsimp only[AA,AB]
     repeat(refine sv ?_;intros)
     have ao:Vec 42 4 p' (l1++l2).length cap' (aAj ((l1++l2).map (·.1))) bo:=by rw[ap,AX,aCq];exact b8
     rw[←ap]
     refine Dn.round ⟨k+1,l1++l2,p',cap',bo,aj,W'⟩ ⟨ag,ak,ao,a6 W' al am ac.n ac.big an⟩ oD
    ·have bp:held.length-(i+1)=0:=oM
     obtain rfl:l2=[]:=EF.1 oM
     have ao:Vec 42 4 (some ⟨vb,0,none⟩) (l1++[]).length i (aAj ((l1++([]:List (Fl×List T5))).map (·.1))) [(vb,row cells 42)]:=by rw[AQ,a0];exact b7
     have hj:Value.slice (some ⟨vb,0,none⟩) i i= .slice (some ⟨vb,0,none⟩) (l1++([]:List (Fl×List T5))).length i:=by rw[AQ,a0]
     by_cases c9:i+1<aa
     ·repeat(first|rw[bp]|(apply R.append0;exact rfl;exact rfl;exact AG _;exact rfl;exact nle rfl)|(refine st ?_;intros)|refine G.draw [] (h:= ?_))
      refine R.call (hct:=hF) (h:= ?_)
      rintro _ _ ⟨aj,W',rfl,rfl,ak,ac,al,am,an⟩
      try dsimp only[AA,AB]
      repeat(refine sv ?_;intros)
      rw[hj]
      refine Dn.round ⟨k+1,l1++[],some ⟨vb,0,none⟩,i,[(vb,row cells 42)],aj,W'⟩ ⟨ag,ak,ao,a6 W' al am ac.n ac.big an⟩ oD
     ·repeat(first|rw[bp]|(apply R.append0;exact rfl;exact rfl;exact AG _;exact rfl;exact nle rfl)|(refine st ?_;intros)|refine G.draw [] (h:= ?_))
      refine R.call (hct:=hF) (h:= ?_)
      rintro _ _ ⟨aj,W',rfl,rfl,ak,ac,al,am,an⟩
      try dsimp only[AA,AB]
      repeat(refine sv ?_;intros)
      rw[hj]
      refine Dn.round ⟨k+1,l1++[],some ⟨vb,0,none⟩,i,[(vb,row cells 42)],aj,W'⟩ ⟨ag,ak,ao,a6 W' al am ac.n ac.big an⟩ oD
   ·generalize bk:aAj (held.map (·.1))++rest=cells at*
    repeat(refine sv ?_;intros)
    refine Dn.round (i+1) ⟨oM,fun j y hj hy=> ?_⟩ oM
    by_cases b9:j=i
    ·subst b9
     rw[az] at hy
     simp only[BA] at hy
     subst hy
     intro h0
     simp only[Fl.mk.injEq] at h0
     exact bf h0
    ·exact a9 j y oM hy
  ·have cg:J.e≠0:=by
    intro e0
    obtain⟨ts,h1⟩:=a7 e0
    have h2:((⟨f1,f2,f3,f4⟩,ts):Fl×List T5)∈held:=(hJ.ok e0).1.mem_iff.2 (h1.mem_iff.2 AH)
    obtain⟨j,hj,he⟩:=List.getElem_of_mem h2
    exact a9 j _ oM (AE hj) (by rw[he])
   repeat(refine sv ?_;intros)
   refine Dn.round ⟨k+1,held,ph,aa,ch,cs,W⟩ ⟨ag,hW,hV,{hJ with ok:=fun e0=>absurd e0 cg}⟩ oD
 ·obtain rfl:k=fs.length:=by omega
  repeat(refine sv ?_;intros)
  (refine Dn.postEnd (Hr:=[[(p.bj,row [pv p.bw,.int .i64 J.e,.slice ph held.length aa] 98)],ch,aAi p.bw p.bd p.ba p.bs,cs,cf]) Tryz.results114 (hR:= ?_);refine⟨held,ph,aa,ch,cs,W,rfl,rfl,hW,hV,{hJ with ok:=fun e0=> ?_}⟩)
  have h2:=congrArg List.length (hG e0).2
  rw[AY] at h2
  have h3:=hJ.ok e0
  dsimp only at h3
  rw[h2,List.drop_length,AB] at h3
  exact h3
theorem JFree (p:Jp) (hp:p.Ok) (J:Jb) (C:aAc) (hJ:aRu p J C) (fs:List Fl) (fts G':List (Fl×List T5)) (hG:J.e=0→J.G.Perm (fts++G')∧fs=fts.map (·.1)) (ah:fs.length≤1000) (pa:Option Addr) (cap:Nat) (cf:aAc) (ai:Vec 42 4 pa fs.length cap (aAj fs) cf):
  Ct AC 114 [pv p.bj,.slice pa fs.length cap] [C,cf] fun v H'=>∃C',v= .tuple #[]∧H'=[C',cf]∧aRu p ⟨J.e,J.er,G',J.acts,J.took⟩ C':=by
 obtain⟨W,cd,ca,cs,held,ph,ac,ch,rfl,hW,hV,aj⟩:=hJ
 refine Ct.convP (Ct.wide (bId p hp J held W cd ca cs hW aj ph ac ch hV fs fts G' hG ah pa cap cf ai) [cd,ca]) (by unfold aJg;refine aEq fun z=> ?_;simp only[AW,A5,AQ,A0,BK];omega) ?_
 rintro v H' ⟨H1,⟨aa,ad,ab,ae,ag,W',rfl,rfl,ak,al,am⟩,rfl⟩
 refine⟨[aJg p J.e cd ca ag ad aa.length ab ae,cf],⟨_,rfl,rfl,W',cd,ca,ag,aa,ad,ab,ae,rfl,ak,al,am⟩,?_⟩
 unfold aJg;refine aEq fun z=> ?_;simp only[AW,A5,AQ,A0,BK];omega
def bMm (p:Jp) (W:Wk) (A T:Nat) (er:Option Nat) (ts:List T5) (R:Fl→Int→Hp→Prop) (jr:aAc) (v:Value) (H':Hp):Prop:=∃f e aa ab ac W' ad,v= .tuple #[flv f,.int .i64 e]∧
 H'=jr::aAi p.bw p.bd p.ba p.bs::aa::ab::ac::ad∧Wc p.bd p.ba p.bs W' aa ab ac∧aEh p W W' A T er ts f e∧R f e ad
def aGm (p:Jp) (J:Jb) (mk:Nat) (us:List Value) (Hx:Hp) (A T:Nat) (er:Option Nat) (ts:List T5) (R:Fl→Int→Hp→Prop):Prop:=
 ∀W cd ca cs held ph cap,Wc p.bd p.ba p.bs W cd ca cs→aLr p J held W→
  Ct AC mk us (aFg p.bj p.bw 0 ph held.length cap::aAi p.bw p.bd p.ba p.bs::cd::ca::cs::Hx) (bMm p W A T er ts R (aFg p.bj p.bw 0 ph held.length cap))
theorem JRun (p:Jp) (hp:p.Ok) (J:Jb) (C:aAc) (hJ:aRu p J C) (mk:Nat) (al:Callable AC mk) (us:List Value) (Hx:Hp) (A T:Nat) (er:Option Nat) (ts:List T5) (R:Fl→Int→Hp→Prop) (ap:J.e=0→aGm p J mk us Hx A T er ts R) (ax:J.G.length≤1000):
  Ct AC 60 [pv p.bj,.func (.func mk) #[] us.toArray] (C::Hx) fun v H'=>∃f C' e' Hx',v=flv f∧H'=C'::Hx'∧aRu p ⟨e',J.er.or er,(f,ts)::J.G,J.acts+A,J.took+T⟩ C'∧
   ((J.e=0∧R f e' Hx')∨(J.e≠0∧e'=J.e∧f=⟨0,0,0,0⟩∧Hx'=Hx)):=by
 obtain⟨W,cd,ca,cs,held,ph,aa,ch,rfl,hW,ai,ae⟩:=hJ
 by_cases he:J.e=0
 ·have hG:=ae.ok he
  have hS:=ap he W cd ca cs held ph aa hW ae
  have aq:Ct AC mk us [aFg p.bj p.bw 0 ph held.length aa,([aAi p.bw p.bd p.ba p.bs,cd,ca,cs]++Hx).flatten] (StepR (aFg p.bj p.bw 0 ph held.length aa) fun f e am=>∃ab ac ad W' Hx',am=([aAi p.bw p.bd p.ba p.bs,ab,ac,ad]++Hx').flatten∧
    Wc p.bd p.ba p.bs W' ab ac ad∧aEh p W W' A T er ts f e∧R f e Hx'):=by
   refine Ct.convP hS oA15 ?_
   rintro v H' ⟨f,e,ab,ac,ad,W',Hx',rfl,rfl,ag,aj,hR⟩
   exact⟨[aFg p.bj p.bw 0 ph held.length aa,([aAi p.bw p.bd p.ba p.bs,ab,ac,ad]++Hx').flatten],⟨f,e,_,rfl,rfl,ab,ac,ad,W',Hx',rfl,ag,aj,hR⟩,by simp⟩
  have ak:=bRf p.bj p.bw ph held.length aa _ ch ai (by have:=ae.len;omega) mk al us _ _ aq
  refine Ct.convP ak (by rw[he];unfold aJg;refine aEq fun z=> ?_;simp only[AW,A5,AQ,A0,BK];omega) ?_
  rintro v H' ⟨f,e,am,rfl,⟨ab,ac,ad,W',Hx',rfl,ag,aj,hR⟩,hc⟩
  have au:held.length<100000:=by have h2:=hG.1.length_eq;omega
  have an:=ae.step he aj au
  rcases hc with⟨rfl,p',ah,ao,rfl,av⟩|⟨aw,rfl⟩
  ·refine⟨aJg p 0 ab ac ad p' (held.length+1) ah ao::Hx',⟨f,_,0,Hx',rfl,rfl,⟨W',ab,ac,ad,held++[(f,ts)],p',ah,ao,by simp,ag,?_,by simpa using an⟩,.inl ⟨he,hR⟩⟩,?_⟩
   ·simpa using av
   ·unfold aJg;refine aEq fun z=> ?_;simp only[AW,A5,AQ,A0,BK];omega
  ·refine⟨aJg p e ab ac ad ph held.length aa ch::Hx',⟨f,_,e,Hx',rfl,rfl,⟨W',ab,ac,ad,held,ph,aa,ch,rfl,ag,ai,by simpa[aw] using an⟩,.inl ⟨he,hR⟩⟩,?_⟩
   unfold aJg;refine aEq fun z=> ?_;simp only[AW,A5,AQ,A0,BK];omega
 ·have ak:=Ct.wide (Run_no p.bj p.bw J.e he ph held.length aa (.func (.func mk) #[] us.toArray)) ([aAi p.bw p.bd p.ba p.bs,cd,ca,cs,ch]++Hx)
  refine Ct.convP ak (by unfold aJg;refine aEq fun z=> ?_;simp only[AW,A5,AQ,A0,BK];omega) ?_
  rintro v H' ⟨H1,⟨rfl,rfl⟩,rfl⟩
  refine⟨aJg p J.e cd ca cs ph held.length aa ch::Hx,⟨⟨0,0,0,0⟩,_,J.e,Hx,rfl,rfl,⟨W,cd,ca,cs,held,ph,aa,ch,rfl,hW,ai,ae.idle he _ _ _ _⟩,.inr ⟨he,rfl,rfl,rfl⟩⟩,?_⟩
  unfold aJg;refine aEq fun z=> ?_;simp only[AW,A5,AQ,A0,BK];omega
structure bIe (p:Jp) (J:Jb) (rs:List Fl) (W:Wk):Prop where
 gs:W.α.gs.Perm p.gs
 room:W.α.room=p.room
 size:W.δ.size=p.size
 n:W.σ.n=p.n
 keep:∀x,inF p.L0 x→W.δ.disk x=p.D0 x
 flt:¬p.fl→W.δ.fault= -1
 acts:W.δ.acts≤J.acts
 tk:p.b0≤big W.σ.free+J.took
 good:J.e=0→∀G1 G2,J.G.Perm (G1++G2)→rs=G1.map (·.1)→W.live.Perm (aAz rs p.L0)∧(∀x∈G1,aAq W.δ.disk p.size [x.1.ext] x.1 x.2)∧J.er=none
 bad:J.e≠0→W.live.Perm p.L0∧((J.e=6∧p.fl)∨∃m:Nat,J.er=some m∧J.e=(m:Int))
structure ResX where
 k:Nat
 cs:aAc
 W:Wk
def aGn (e:Int) (rs:List Fl) (x:Fl×List T5):Bool:=decide (e=0)&&rs.contains x.1
theorem aRv:∀(fs:List Fl) (L:List Ext),(∀f∈fs,f.blocks=0)→aAz fs L=L
 |[],_,_=>rfl
 |f::fs,L,h=>by
  have h1:aAz (f::fs) L=aAz fs (aCj f L):=rfl
  rw[h1]
  have h2:aCj f L=L:=by unfold aCj;rw[if_pos (h f AH)]
  rw[h2]
  exact aRv fs L fun g hg=>h g (AI _ hg)
theorem bIf (a b:List Fl) (L:List Ext):aAz (a++b) L=aAz b (aAz a L):=by simp[aAz]
theorem aZf {α:Type} {q:α→Bool} {l:List α} {k:Nat} {x:α} (h:l[k]? =some x):(l.take (k+1)).filter q=(l.take k).filter q++(if q x then[x] else[]):=by
 rw[BP,h,CC]
 simp only[Option.toList_some,List.filter_cons,List.filter_nil]
theorem aZg (p:Jp) (hp:p.Ok) (J:Jb) (held:List (Fl×List T5)) (W0:Wk) (cd ca ak:aAc) (ay:Wc p.bd p.ba p.bs W0 cd ca ak) (aa:aLr p J held W0) (ph:Option Addr) (ab:Nat) (ch:aAc) (hV:Vec 42 4 ph held.length ab (aAj (held.map (·.1))) ch)
  (rs:List Fl) (bg:rs.length≤1000) (pa:Option Addr) (cap:Nat) (cf:aAc) (a6:Vec 42 4 pa rs.length cap (aAj rs) cf):
  Ct AC 66 [pv p.bj,.slice pa rs.length cap] [aFg p.bj p.bw J.e ph held.length ab,ch,aAi p.bw p.bd p.ba p.bs,ak,cf] fun v H'=>
   ∃cs W,v= .int .i64 J.e∧H'=[aAi p.bw p.bd p.ba p.bs,cs,cf]∧Wc p.bd p.ba p.bs W cd ca cs∧bIe p J rs W:=by
 unfold aFg
 have bf:=aa.len
 refine Ct.go Tryz.func66 Tryz.ntmps66 fun w0=> ?_
 repeat(refine sv ?_;intros)
 refine G.loop (X:=ResX) (fun x=>x.k≤held.length∧Wc p.bd p.ba p.bs x.W cd ca x.cs∧x.W.δ=W0.δ∧x.W.α=W0.α∧x.W.σ.n=W0.σ.n∧big W0.σ.free≤big x.W.σ.free∧x.W.live.Perm (aAz (((held.take x.k).filter (aGn J.e rs)++held.drop x.k).map (·.1)) p.L0))
  (fun x=>[(15,.int .i64 (x.k:Int)),(14,.int .i64 (held.length:Int)),(13,.slice ph held.length ab),(1,.slice pa rs.length cap),(0,pv p.bj)])
  (fun x=>[[(p.bj,row [pv p.bw,.int .i64 J.e,.slice ph held.length ab] 98)],ch,aAi p.bw p.bd p.ba p.bs,x.cs,cf]) (fun x=>held.length-x.k) ⟨0,ak,W0⟩
  ⟨AS _,ay,rfl,rfl,rfl,AG _,by simpa using aa.live⟩ (body:= ?_)
 rintro⟨k,cs,W⟩ ⟨hk,hW,hδ,hα,hσ,ad,hl⟩
 dsimp only at hk hW hδ hα hσ ad hl⊢
 by_cases ae:k<held.length
 ·obtain⟨vb,rest,rfl,rfl,bh,bi,bk⟩:∃b rest,ph=some ⟨b,0,none⟩∧ch=[(b,row (aAj (held.map (·.1))++rest) 42)]∧ab*4≤(aAj (held.map (·.1))).length+rest.length∧held.length≤ab∧ab≤maxLen:=by
   rcases hV.2 with⟨_,e,_⟩|hh
   ·omega
   ·exact hh
  have az:held[k]? =some held[k]:=AE ae
  have a0:=aJu (rest:=rest) az
  have ac:=aZf (q:=aGn J.e rs) az
  have a1:=BQ ae
  generalize bo:aAj (held.map (·.1))++rest=cells at*
  generalize hx:held[k]=x at*
  obtain⟨⟨x1,x2,x3,x4⟩,us⟩:=x
  dsimp only at a0
  have ag:aGn J.e rs (⟨x1,x2,x3,x4⟩,us)=false→W.live.Perm (aCj ⟨x1,x2,x3,x4⟩ (aAz (((held.take (k+1)).filter (aGn J.e rs)++held.drop (k+1)).map (·.1)) p.L0)):=by
   intro hs
   rw[hs] at ac
   simp only[Bool.false_eq_true,if_false,AQ] at ac
   rw[a1] at hl
   refine hl.trans ((aEl (b:=⟨x1,x2,x3,x4⟩::(((held.take (k+1)).filter (aGn J.e rs)++held.drop (k+1)).map (·.1))) ?_ _).trans (aDt _ _ _))
   rw[ac]
   simp only[AX,List.map_cons]
   exact B4
  have al:aGn J.e rs (⟨x1,x2,x3,x4⟩,us)=true→W.live.Perm (aAz (((held.take (k+1)).filter (aGn J.e rs)++held.drop (k+1)).map (·.1)) p.L0):=by
   intro hs
   rw[hs] at ac
   simp only[if_true] at ac
   rw[a1] at hl
   rw[ac,AP,List.singleton_append]
   exact hl
  have hF:=fun Lv hl=>aKv p.bw p.bd p.ba p.bs W cd ca cs hW ⟨x1,x2,x3,x4⟩ Lv hl
  have a2:flv ⟨x1,x2,x3,x4⟩= .agg #[.int .i64 (x1:Int),.int .i64 (x2:Int),.int .i64 (x3:Int),.int .i64 (x4:Int)]:=rfl
  rw[a2] at hF
  repeat(refine sv ?_;intros)
  rename_i b6
  refine G.loop (X:=Nat×Bool) (fun y=>y.1≤rs.length∧y.2=dec ((⟨x1,x2,x3,x4⟩:Fl)∈rs.take y.1))
   (fun y=>[(21,.int .i64 (y.1:Int)),(20,.int .i64 (rs.length:Int)),(19,.slice pa rs.length cap),(7,.bool y.2),(6,pv b6),(15,.int .i64 (k:Int)),(14,.int .i64 (held.length:Int)),(13,.slice (some ⟨vb,0,none⟩) held.length ab),(1,.slice pa rs.length cap),(0,pv p.bj)])
   (fun _=>[[(b6,row [.int .i64 (x1:Int),.int .i64 (x2:Int),.int .i64 (x3:Int),.int .i64 (x4:Int)] 42)],[(p.bj,row [pv p.bw,.int .i64 J.e,.slice (some ⟨vb,0,none⟩) held.length ab] 98)],[(vb,row cells 42)],aAi p.bw p.bd p.ba p.bs,cs,cf]) (fun y=>rs.length-y.1) (0,false) ⟨AS _,(aBu oA15).symm⟩ (body:= ?_)
  rintro⟨m,b⟩ ⟨hm,hb⟩
  dsimp only at hm hb⊢
  by_cases ah:m<rs.length
  ·obtain⟨fb,ai,rfl,rfl,bp,bq,hfm⟩:∃b rest,pa=some ⟨b,0,none⟩∧cf=[(b,row (aAj rs++rest) 42)]∧cap*4≤(aAj rs).length+rest.length∧rs.length≤cap∧cap≤maxLen:=by
    rcases a6.2 with⟨_,e,_⟩|hh
    ·omega
    ·exact hh
   have a3:rs[m]? =some rs[m]:=AE ah
   have am:=aJu (rs:=rs.map fun f=>(f,[])) (rest:=ai) (j:=m) (r:=(rs[m],[])) (by simp[a3])
   rw[DE] at am
   have a7:(rs.map ((fun x:Fl×List T5=>x.1)∘fun f=>(f,[])))=rs:=by simp[Function.comp_def]
   rw[a7] at am
   have a4:(⟨x1,x2,x3,x4⟩:Fl)∈rs.take (m+1)↔(⟨x1,x2,x3,x4⟩:Fl)∈rs.take m∨(⟨x1,x2,x3,x4⟩:Fl)=rs[m]:=by
    rw[BP,a3,AO];simp
   generalize hf:rs[m]=f at*
   generalize a5:aAj rs++ai=bu at*
   obtain⟨f1,f2,f3,f4⟩:=f
   dsimp only at am
   cases b with
   |true=>
    repeat(refine sv ?_;intros)
    refine Dn.round (m+1,true) ⟨ah,(aBf (a4.2 (.inl (aSl.1 hb.symm)))).symm⟩ oD
   |false=>
    have a8:¬(⟨x1,x2,x3,x4⟩:Fl)∈rs.take m:=fun h=>by rw[aBf h] at hb;cases hb
    repeat(refine sv ?_;intros)
    refine Dn.round (m+1,dec ((f1:Int)=(x1:Int)∧(f2:Int)=(x2:Int)∧(f3:Int)=(x3:Int)∧(f4:Int)=(x4:Int))) ⟨ah,bFq ?_⟩ oD
    rw[a4,Fl.mk.injEq]
    constructor
    ·intro h;exact .inr oM
    ·rintro(h|h)
     ·exact absurd h a8
     ·omega
  ·obtain rfl:m=rs.length:=by omega
   rw[DF] at hb
   have an:aGn J.e rs (⟨x1,x2,x3,x4⟩,us)=(decide (J.e=0)&&b):=by
    unfold aGn
    rw[hb,aDy]
    congr 1
    rw[Bool.eq_iff_iff];simp
   cases b with
   |true=>
    by_cases he:J.e=0
    ·have hs:=al (by rw[an,decide_eq_true he];rfl)
     repeat(refine sv ?_;intros)
     refine Dn.round ⟨k+1,cs,W⟩ ⟨ae,hW,hδ,hα,hσ,ad,hs⟩ oD
    ·have hs:=hF _ (aDv.add (ag (by rw[an,decide_eq_false he];rfl)))
     repeat(refine sv ?_;intros)
     refine R.call (hct:=hs) (h:= ?_)
     rintro _ _ ⟨ao,W',rfl,rfl,ap,aj,aq,au,av⟩
     try dsimp only[AA,AB]
     repeat(refine sv ?_;intros)
     refine Dn.round ⟨k+1,ao,W'⟩ ⟨ae,ap,aq.trans hδ,au.trans hα,aj.n.trans hσ,BB ad aj.big,by rw[av]⟩ oD
   |false=>
    have hs:=hF _ (aDv.add (ag (by rw[an,Bool.and_false])))
    repeat(refine sv ?_;intros)
    refine R.call (hct:=hs) (h:= ?_)
    rintro _ _ ⟨ao,W',rfl,rfl,ap,aj,aq,au,av⟩
    try dsimp only[AA,AB]
    repeat(refine sv ?_;intros)
    refine Dn.round ⟨k+1,ao,W'⟩ ⟨ae,ap,aq.trans hδ,au.trans hα,aj.n.trans hσ,BB ad aj.big,by rw[av]⟩ oD
 ·obtain rfl:k=held.length:=by omega
  rw[DF,List.drop_length,AQ] at hl
  repeat(refine sv ?_;intros)
  (refine Dn.post (Hr:=[aAi p.bw p.bd p.ba p.bs,cs,cf]) Tryz.results66 (hR:= ?_);refine⟨cs,W,rfl,rfl,hW,?_⟩)
  refine⟨by rw[hα];exact aa.gs,by rw[hα];exact aa.room,by rw[hδ];exact aa.size,hσ.trans aa.n,by rw[hδ];exact aa.keep,by rw[hδ];exact aa.flt,by rw[hδ];exact aa.acts,BB aa.tk (DH ad _),?_,?_⟩
  ·rintro e0 G1 G2 hG rfl
   obtain⟨g1,g2⟩:=aa.ok e0
   have aw:=g1.trans hG
   refine⟨?_,fun x hx=>by rw[hδ];exact aa.files x (aw.mem_iff.2 (BO _ hx)),g2⟩
   refine hl.trans ((aEl ((aw.filter _).map _) _).trans ?_)
   have h1:G1.filter (aGn J.e (G1.map (·.1)))=G1:=List.filter_eq_self.2 fun x hx=>by
    unfold aGn
    rw[decide_eq_true e0,Bool.true_and]
    simp only[List.contains_iff_mem]
    exact AU.2 ⟨x,hx,rfl⟩
   rw[CC,h1,AX,bIf,aRv]
   intro f hf
   obtain⟨y,hy,rfl⟩:=AU.1 hf
   obtain⟨a9,ax⟩:=List.mem_filter.1 hy
   unfold aGn at ax
   rw[decide_eq_true e0,Bool.true_and,List.contains_iff_mem] at ax
   obtain⟨x,bc,be⟩:=AU.1 ax
   by_cases hb:y.1.blocks=0
   ·exact hb
   ·exfalso
    obtain⟨a,b,rfl⟩:=EA a9
    have h3:W0.live.Perm (y.1.ext::aAz ((G1++(a++b)).map (·.1)) p.L0):=by
     refine aa.live.trans ((aEl (b:=y.1::(G1++(a++b)).map (·.1)) ?_ _).trans ((aDt _ _ _).trans ?_))
     ·refine(aw.map _).trans ?_
      rw[←AP]
      refine(List.perm_middle.map _).trans ?_
      rw[AP];exact .refl _
     ·unfold aCj;rw[if_neg hb]
    have h5:=ay.live.perm h3
    have h6:y.1.ext∈aAz ((G1++(a++b)).map (·.1)) p.L0:=aHa (AU.2 ⟨x,BO _ bc,be⟩) hb
    have h7:=CA h5.apart h6
    have h8:y.1.ext.2=y.1.blocks:=rfl
    omega
  ·intro e0
   refine⟨?_,aa.why e0⟩
   have h1:held.filter (aGn J.e rs)=[]:=List.filter_eq_nil_iff.2 fun x _=>by
    unfold aGn;rw[decide_eq_false e0];simp
   rw[h1] at hl
   exact hl
theorem bRh (p:Jp) (hp:p.Ok) (J:Jb) (C:aAc) (hJ:aRu p J C) (rs:List Fl) (ad:rs.length≤1000) (pa:Option Addr) (cap:Nat) (cf:aAc) (ac:Vec 42 4 pa rs.length cap (aAj rs) cf):
  Ct AC 66 [pv p.bj,.slice pa rs.length cap] [C,cf] fun v H'=>∃cd ca cs W,v= .int .i64 J.e∧H'=[aAi p.bw p.bd p.ba p.bs,cd,ca,cs,cf]∧Wc p.bd p.ba p.bs W cd ca cs∧bIe p J rs W:=by
 obtain⟨W,cd,ca,cs,held,ph,aa,ch,rfl,hW,hV,ae⟩:=hJ
 refine Ct.convP (Ct.wide (aZg p hp J held W cd ca cs hW ae ph aa ch hV rs ad pa cap cf ac) [cd,ca]) (by unfold aJg;refine aEq fun z=> ?_;simp only[AW,A5,AQ,A0,BK];omega) ?_
 rintro v H' ⟨H1,⟨ab,W',rfl,rfl,ag,hD⟩,rfl⟩
 refine⟨[aAi p.bw p.bd p.ba p.bs,cd,ca,ab,cf],⟨cd,ca,ab,W',rfl,rfl,ag,hD⟩,?_⟩
 refine aEq fun z=> ?_;simp only[AW,A5,AQ,A0,BK];omega
structure BegX where
 k:Nat
 ca:aAc
 α:Ar
theorem bEg {fs:List Fl} {rest:List Value} {j:Nat} {f:Fl} (h:fs[j]? =some f):
  ((aAj fs++rest).drop (j*4)).take 4=[.int .i64 (f.first:Int),.int .i64 (f.blocks:Int),.int .i64 (f.width:Int),.int .i64 (f.count:Int)]:=by
 have aa:=aJu (rs:=fs.map fun f=>(f,[])) (rest:=rest) (j:=j) (r:=(f,[])) (by simp[h])
 rw[DE] at aa
 have ab:(fs.map ((fun x:Fl×List T5=>x.1)∘fun f=>(f,[])))=fs:=by simp[Function.comp_def]
 rw[ab] at aa
 exact aa
theorem vecpos {E sz:Nat} {p:Option Addr} {m cap:Nat} {xs:List Value} {c:aAc} (h:Vec E sz p m cap xs c) (hm:0<m):∃b rest,p=some ⟨b,0,none⟩∧c=[(b,row (xs++rest) E)]∧cap*sz≤xs.length+rest.length∧m≤cap∧cap≤maxLen:=by
 rcases h.2 with⟨_,e,_⟩|hh
 ·omega
 ·exact hh
theorem bBx (bw bd ba bs:Nat) (W:Wk) (cd ca cs:aAc) (h:Wc bd ba bs W cd ca cs) (l:List (Fl×List T5)) (hl:∀x∈l,aBm W x) (a6:l.length≤1000) (pa:Option Addr) (cap:Nat) (cf:aAc) (ao:Vec 42 4 pa l.length cap (aAj (l.map (·.1))) cf):
  Ct AC 50 [pv bw,.slice pa l.length cap] [aAi bw bd ba bs,cd,ca,cs,cf] fun v H'=>∃ca' α',Wc bd ba bs {W with α:=α'} cd ca' cs∧α'.gs.Perm W.α.gs∧α'.room=W.α.room∧
   ((8*W.δ.size≤W.α.room-W.α.used∧∃bj,v= .tuple #[pv bj,.int .i64 0]∧H'=[aFg bj bw 0 none 0 0,aAi bw bd ba bs,cd,ca',cs,cf])∨
    (W.α.room-W.α.used<8*W.δ.size∧v= .tuple #[.pointer none,.int .i64 7]∧H'=[aAi bw bd ba bs,cd,ca',cs,cf])):=by
 have aa:=aGy bw bd ba bs
 have ab:=aGx bw bd ba bs
 have ac:=aGq bd W.δ cd h.dev
 obtain⟨⟨a7,a8⟩,_⟩:=h.dev.num
 have a5:AJ .i64 ((8:Int)*(W.δ.size:Int))=((8*W.δ.size:Nat):Int):=by rw[aAd oM];omega
 unfold aFg
 refine Ct.go Tryz.func50 Tryz.ntmps50 fun w0=> ?_
 repeat(first|(refine st ?_;intros)|refine cq aa ?_|refine cq ab ?_|refine cq hLf ?_|refine cq ac ?_)
 refine G.loop (X:=BegX) (fun x=>x.k≤l.length∧Wc bd ba bs {W with α:=x.α} cd x.ca cs∧x.α.gs.Perm W.α.gs∧x.α.room=W.α.room)
  (fun x=>[(14,.int .i64 (x.k:Int)),(13,.int .i64 (l.length:Int)),(12,.slice pa l.length cap),(0,pv bw)])
  (fun x=>[aAi bw bd ba bs,cd,x.ca,cs,cf]) (fun x=>l.length-x.k) ⟨0,ca,W.α⟩ ⟨AS _,h,.refl _,rfl⟩ (body:= ?_)
 rintro⟨k,ad,α1⟩ ⟨hk,hW,hg,ae⟩
 dsimp only at hk hW hg ae⊢
 have a9:α1.used=W.α.used:=aKg h hW hg
 have al:=hW.ar.num
 dsimp only at al
 by_cases ai:k<l.length
 ·obtain⟨fb,ag,rfl,rfl,bc,be,hfm⟩:=vecpos ao oM
  have ap:(l.map (·.1))[k]? =some (l[k]).1:=by simp[ai]
  have aq:=bEg (rest:=ag) ap
  obtain⟨Lv,ah,_⟩:=hl _ (List.getElem_mem ai)
  have aj:=aIk bw bd ba bs {W with α:=α1} cd ad cs hW (l[k]).1 (l[k]).2 Lv ah
  have ak:=bGp bw bd ba bs {W with α:=α1} cd ad cs hW (l[k]).1 ah.w1 ah.w2 ah.cnt ah.blk
  generalize (l[k]).2=ts at*
  generalize (l[k]).1=f at*
  generalize aAj (l.map (·.1))++ag=bf at*
  obtain⟨f1,f2,f3,f4⟩:=f
  have am:flv ⟨f1,f2,f3,f4⟩= .agg #[.int .i64 (f1:Int),.int .i64 (f2:Int),.int .i64 (f3:Int),.int .i64 (f4:Int)]:=rfl
  rw[am] at aj ak
  dsimp only at aq aj ak
  repeat(first|(refine st ?_;intros)|refine cq aa ?_|refine cq ab ?_|refine cq hLf ?_|refine cq ac ?_)
  by_cases hr:W.δ.size≤α1.room-α1.used
  ·have an:=aj hr
   refine R.call (hct:=an) (h:= ?_)
   rintro _ _ ⟨bx,g,au,α2,cx,cb,rfl,rfl,av,aw,ax,bg,ay⟩
   try dsimp only[AA,AB]
   have az:=aNr bw bd ba bs {W with α:=α2} cd au cs av bx ⟨f1,f2,f3,f4⟩ ts g _ ax 0 cx cb ay
   repeat(first|(refine st ?_;intros)|refine cq aa ?_|refine cq ab ?_|refine cq hLf ?_|refine cq ac ?_)
   refine R.call (hct:=az) (h:= ?_)
   rintro _ _ ⟨a0,α5,bh,rfl,rfl,a1,a2,a3,bi⟩
   try dsimp only[AA,AB]
   repeat(first|(refine st ?_;intros)|refine cq aa ?_|refine cq ab ?_|refine cq hLf ?_|refine cq ac ?_)
   refine Dn.round ⟨k+1,a0,α5⟩ ⟨ai,a1,a3.trans hg,(a2.room.trans aw.room).trans ae⟩ oD
  ·have a4:=ak oM
   refine R.call (hct:=a4) (h:= ?_)
   rintro _ _ ⟨rfl,rfl⟩
   try dsimp only[AA,AB]
   repeat(first|(refine st ?_;intros)|refine cq aa ?_|refine cq ab ?_|refine cq hLf ?_|refine cq ac ?_)
   refine R.call (hct:=bDv) (h:= ?_)
   rintro _ _ ⟨rfl,rfl⟩
   try dsimp only[AA,AB]
   repeat(first|(refine st ?_;intros)|refine cq aa ?_|refine cq ab ?_|refine cq hLf ?_|refine cq ac ?_)
   refine Dn.round ⟨k+1,ad,α1⟩ ⟨ai,hW,hg,ae⟩ oD
 ·obtain rfl:k=l.length:=by omega
  have hLf:=bLn ba α1 ad hW.ar
  by_cases hr:8*W.δ.size≤W.α.room-W.α.used
  ·repeat(first|(refine st ?_;intros)|refine cq aa ?_|refine cq ab ?_|refine cq hLf ?_|refine cq ac ?_)
   rename_i bj
   (refine Dn.post (Hr:=[[(bj,row [pv bw,.int .i64 0,.slice none 0 0] 98)],aAi bw bd ba bs,cd,ad,cs,cf]) Tryz.results50 (hR:= ?_);exact⟨ad,α1,hW,hg,ae,.inl ⟨hr,bj,rfl,rfl⟩⟩)
  ·repeat(first|(refine st ?_;intros)|refine cq aa ?_|refine cq ab ?_|refine cq hLf ?_|refine cq ac ?_)
   (refine Dn.post (Hr:=[aAi bw bd ba bs,cd,ad,cs,cf]) Tryz.results50 (hR:= ?_);exact⟨ad,α1,hW,hg,ae,.inr ⟨oM,rfl,rfl⟩⟩)
theorem bIg (x:Value):CtQ AC 50 [.pointer none,x] [] (.tuple #[.pointer none,.int .i64 1]):=by
 refine Ct.go Tryz.func50 Tryz.ntmps50 fun w0=> ?_
 repeat(refine st ?_;intros)
 (refine Dn.post (Hr:=[]) Tryz.results50 (hR:= ?_);exact⟨rfl,rfl⟩)
def aLs (bw bd ba bs bj:Nat) (W:Wk):Jp:=⟨bw,bd,ba,bs,bj,W.δ.size,W.α.room,W.σ.n,W.α.gs,W.live,W.δ.disk,W.δ.fault≠-1,big W.σ.free⟩
theorem aWt {bw bd ba bs bj:Nat} {W:Wk} {cd ca cs aa:aAc} {α':Ar} (h:Wc bd ba bs W cd ca cs) (hW:Wc bd ba bs {W with α:=α'} cd aa cs) (hg:α'.gs.Perm W.α.gs) (hr:α'.room=W.α.room) (ab:8*W.δ.size≤W.α.room-W.α.used):
  (aLs bw bd ba bs bj W).Ok∧aRu (aLs bw bd ba bs bj W) ⟨0,none,[],W.δ.acts,0⟩ (aJg (aLs bw bd ba bs bj W) 0 cd aa cs none 0 0 []):=by
 obtain⟨⟨ac,ad⟩,_⟩:=h.dev.num
 have h1:=h.ar.num.2.2.2
 have h2:=h.ar.num.1
 refine⟨⟨⟨ac,ad⟩,by show(W.α.gs.map (·.n)).sum+8*W.δ.size≤W.α.room;omega⟩,{W with α:=α'},cd,aa,cs,[],none,0,[],rfl,hW,Vec.nil _ _,?_⟩
 exact⟨hg,hr,rfl,rfl,.refl _,by simp,AS _,fun _ _=>rfl,fun hf=>by simpa[aLs] using hf,AG _,AG _,fun _=>⟨.refl _,rfl⟩,fun h0=>absurd rfl h0⟩
theorem aHc {bw bd ba bs bj:Nat} {W:Wk} {x:Fl×List T5} (h:aBm W x):In0 (aLs bw bd ba bs bj W) x:=h
namespace aAt
variable {K:Type} {M:aAt K}
theorem bad_none (h:∀k t,M.err k t=none):∀(ts:List T5) (k:K),M.bad k ts=none
 |[],_=>rfl
 |t::ts,k=>by simp only[bad,h];exact bad_none h ts _
theorem oks_of {ok:K→T5→Prop} {I:K→Prop} {Q:T5→Prop} (h:∀k t,I k→Q t→ok k t∧I (M.next k t)):∀(ts:List T5) (k:K),I k→(∀t∈ts,Q t)→M.oks ok k ts
 |[],_,_,_=>trivial
 |t::ts,k,hI,hQ=>by
  obtain⟨h1,h2⟩:=h k t hI (hQ t AH)
  exact⟨h1,fun _=>oks_of h ts _ h2 fun u hu=>hQ u (AI _ hu)⟩
end aAt
def bRi (g:T5→T5):aAt Unit:=⟨fun _=>[],fun _ t=>[g t],fun _ _=>(),fun _ _=>none⟩
theorem aLc (g:T5→T5):∀(ts:List T5) (k:Unit),(bRi g).all k ts=ts.map g
 |[],_=>rfl
 |t::ts,k=>by simp only[aAt.all,aLc g ts];rfl
def aZh (R:Value→aAc→Prop) (v:Value) (H':Hp):Prop:=∃X',H'=[X']∧R v X'
def PutC (bx:Nat) (t:T5) (X:aAc) (R:Value→aAc→Prop):Prop:=Ct AC 92 [pv bx,tv t] [X] (aZh R)
theorem aFt.tail {g:T5→T5} {kk mk:Nat} {aa:T5→Prop} (ab:∀bx t X R,PutC bx (g t) X R→Ct AC mk [tv t,aPd bx] [X] (aZh R)) (ac:∀t,aa t→okT kk (g t)):aFt (bRi g) kk (fun _ t=>aa t) mk [] []:=by
 intro bx Pst Br bnd hP ps X k t hX hk hb
 refine(ab bx t X _ (hP ps X (g t) hX (ac t hk) (by simp[bRi] at hb;omega))).mono ?_
 rintro v H' ⟨X',rfl,hR⟩
 rcases hR with⟨rfl,ad⟩|⟨rfl,hB⟩
 ·exact⟨X',(),rfl,.inl ⟨rfl,rfl,rfl,ad⟩⟩
 ·exact⟨X',(),rfl,.inr (.inl ⟨rfl,hB⟩)⟩
theorem aHd:aAv (-1):=⟨by decide,by decide⟩
theorem aLt:aAv 0:=⟨by decide,by decide⟩
theorem aDg (x:Int):aAv (AJ .i64 x):=by
 have h1:(9223372036854775808:Int)=2^(64-1):=by decide
 unfold aAv
 simp only[AJ,IntKind.bits,IntKind.signed,Bool.true_and,decide_eq_true_eq,←h1]
 split<;>omega
theorem aBb {k:Nat} {t:T5} (h:okT k t):aAv t.c0∧aAv t.c1∧aAv t.c2∧aAv t.c3∧aAv t.c4:=
 ⟨h.1 _ (by simp[T5.toList]),h.1 _ (by simp[T5.toList]),h.1 _ (by simp[T5.toList]),h.1 _ (by simp[T5.toList]),h.1 _ (by simp[T5.toList])⟩
theorem bMn {k:Nat} {a b c d e:Int} (ha:aAv a) (hb:aAv b) (hc:aAv c) (hd:aAv d) (he:aAv e) (h0:k≤0→a=0) (h1:k≤1→b=0) (h2:k≤2→c=0) (h3:k≤3→d=0) (h4:k≤4→e=0):okT k ⟨a,b,c,d,e⟩:=by
 refine⟨fun x hx=> ?_,fun i hi=> ?_⟩
 ·simp only[T5.toList,AM,List.not_mem_nil,or_false] at hx
  rcases hx with rfl|rfl|rfl|rfl|rfl<;>assumption
 ·match i with
  |0=>exact h0 hi
  |1=>exact h1 hi
  |2=>exact h2 hi
  |3=>exact h3 hi
  |4=>exact h4 hi
  |n+5=>rfl
theorem okT5 {a b c d e:Int} (ha:aAv a) (hb:aAv b) (hc:aAv c) (hd:aAv d) (he:aAv e):okT 5 ⟨a,b,c,d,e⟩:=
 bMn ha hb hc hd he oM oM oM oM oM
theorem okT1 {a:Int} (ha:aAv a):okT 1 ⟨a,0,0,0,0⟩:=bMn ha aLt aLt aLt aLt oM oA15 oA15 oA15 oA15
theorem bEh {a b:Int} (ha:aAv a) (hb:aAv b):okT 2 ⟨a,b,0,0,0⟩:=bMn ha hb aLt aLt aLt oM oM oA15 oA15 oA15
theorem aUm {a b c:Int} (ha:aAv a) (hb:aAv b) (hc:aAv c):okT 3 ⟨a,b,c,0,0⟩:=bMn ha hb hc aLt aLt oM oM oM oA15 oA15
theorem bRj (x:Fl×List T5):cat [x]=x.2:=by simp[cat]
theorem bRk (x y:Fl×List T5):cat [x,y]=x.2++y.2:=by simp[cat]
theorem vec1 (b:Nat) (f:Fl):Vec 42 4 (some ⟨b,0,none⟩) [f].length 1 (aAj [f]) [(b,row (fl4 f) 42)]:=
 ⟨rfl,.inr ⟨b,[],rfl,by simp[aAj,fl4],by simp[aAj],by simp,by decide⟩⟩
theorem vec2 (b:Nat) (f g:Fl):Vec 42 4 (some ⟨b,0,none⟩) [f,g].length 2 (aAj [f,g]) [(b,row (fl4 f++fl4 g) 42)]:=
 ⟨rfl,.inr ⟨b,[],rfl,by simp[aAj,fl4],by simp[aAj],by simp,by decide⟩⟩
theorem aNy (x:Option Nat):x.or none=x:=by cases x<;>rfl
theorem JRunK (p:Jp) (hp:p.Ok) (J:Jb) (C:aAc) (hJ:aRu p J C) (mk:Nat) (aa:Callable AC mk) (us:List Value) (Hx:Hp) (A T:Nat) (er:Option Nat) (ts:List T5) (R:Fl→Int→Prop) (ac:J.e=0→aGm p J mk us Hx A T er ts fun f e Hx'=>Hx'=Hx∧R f e) (ab:J.G.length≤1000):
  Ct AC 60 [pv p.bj,.func (.func mk) #[] us.toArray] (C::Hx) fun v H'=>∃f C' e',v=flv f∧H'=C'::Hx∧aRu p ⟨e',J.er.or er,(f,ts)::J.G,J.acts+A,J.took+T⟩ C'∧
   ((J.e=0∧R f e')∨(J.e≠0∧e'=J.e∧f=⟨0,0,0,0⟩)):=by
 refine(JRun p hp J C hJ mk aa us Hx A T er ts _ ac ab).mono ?_
 rintro v H' ⟨f,C',e',Hx',h1,rfl,h3,⟨h4,rfl,h5⟩|⟨h4,h5,h6,rfl⟩⟩
 ·exact⟨f,C',e',h1,rfl,h3,.inl ⟨h4,h5⟩⟩
 ·exact⟨f,C',e',h1,rfl,h3,.inr ⟨h4,h5,h6⟩⟩
def WSt (bw bx first nb k bound:Nat) (g:Gr) (base:List Gr) (Lv:List Ext) (W:Wk) (cx cb:aAc):Prop:=
 (W.α.gs.Perm (g::base)∧aDv first nb Lv W.live∧∃ps,aHy bw bx W first nb k bound g ps cx cb)∨(W.α.gs.Perm base∧W.live.Perm Lv∧aEg bx cx)
theorem Cd.wide {P:Program} {f:FuncId} {args:List Value} {Hf:Hp} {R:Value→Hp→Prop} (h:Cd P f args Hf R) (F:Hp):Cd P f args (Hf++F) fun v H'=>∃H1,R v H1∧H'=H1++F:=by
 unfold Cd at h⊢
 intro u w hw
 refine(h u w hw.self).mono ?_
 rintro e u' w' ⟨hu,v,H',h3,h4,h5⟩
 exact⟨hu,v,H'++F,h3,⟨H',h4,rfl⟩,hw.framed h5⟩
theorem aEi (bw bd ba bs:Nat) (W:Wk) (cd ca cs:aAc) (h:Wc bd ba bs W cd ca cs) (bx first nb k bound:Nat) (g:Gr) (aa:List Gr) (Lv:List Ext) (cx cb:aAc) (hw:WSt bw bx first nb k bound g aa Lv W cx cb):
  Cd AC 90 [pv bx] [aAi bw bd ba bs,cd,ca,cs,cx,cb] fun v H'=>
   ∃cd' ca' cs' W' cx' cb',H'=[aAi bw bd ba bs,cd',ca',cs',cx',cb']∧Wc bd ba bs W' cd' ca' cs'∧Ev W W' 0 0∧W'.δ=W.δ∧W'.α.gs.Perm aa∧W'.live.Perm Lv:=by
 rcases hw with⟨h1,h2,ps,h3⟩|⟨h1,h2,h3⟩
 ·refine Cd.conv (aYt bw bd ba bs W cd ca cs h bx first nb k bound g ps cx cb h3 aa h1 Lv h2).2 (.refl _) ?_
  rintro v H' ⟨cd',ca',cs',W',cx',cb',_,rfl,a1,a2,a3,a4,a5,_⟩
  exact⟨_,⟨cd',ca',cs',W',cx',cb',rfl,a1,a2,a3,a4,a5⟩,.refl _⟩
 ·refine Cd.conv (Cd.wide (aEy bx cx h3).2 [aAi bw bd ba bs,cd,ca,cs,cb]) (aEq fun z=>by simp only[AW,A5,AQ,A0,BK];omega) ?_
  rintro v H' ⟨H1,⟨_,rfl⟩,rfl⟩
  exact⟨_,⟨cd,ca,cs,W,cx,cb,rfl,h,Ev.refl W,rfl,h1,h2⟩,aEq fun z=>by simp only[AW,A5,AQ,A0,BK];omega⟩
theorem bRl (bw bd ba bs:Nat) (W:Wk) (cd ca cs:aAc) (h:Wc bd ba bs W cd ca cs) (bx first nb k bound:Nat) (g:Gr) (ps:List T5) (cx cb:aAc) (hw:aHy bw bx W first nb k bound g ps cx cb) (Gs:List Gr) (hg:W.α.gs.Perm (g::Gs))
  (Lv:List Ext) (hl:aDv first nb Lv W.live) (ad:ps.length<bound) (t:T5) (ht:okT k t) (ae:W.δ.acts≤1000000000000) (hh:1≤aAf W.δ.size k):
  Ct AC 92 [pv bx,tv t] [aAi bw bd ba bs,cd,ca,cs,cx,cb] fun v H'=>
   ∃cd' ca' cs' W' cx' cb' e,v= .int .i64 e∧H'=[aAi bw bd ba bs,cd',ca',cs',cx',cb']∧Wc bd ba bs W' cd' ca' cs'∧Ev W W' 1 0∧aBv Lv W W'∧
    ((e=0∧W'.α.gs.Perm (g::Gs)∧aDv first nb Lv W'.live∧aHy bw bx W' first nb k bound g (ps++[t]) cx' cb')∨(e=6∧W.δ.fault≠-1∧WSt bw bx first nb k bound g Gs Lv W' cx' cb')):=by
 refine(bLr bw bd ba bs W cd ca cs h bx first nb k bound g ps cx cb hw Gs hg Lv hl ad t ht ae).mono ?_
 rintro v H' ⟨cd',ca',cs',W',cx',cb',rfl,aa,ag,ab,hc⟩
 have ac:Ev W W' 1 0:=ag.weak (by
  have h2:(ps.length+1)/aAf W.δ.size k≤ps.length/aAf W.δ.size k+1:=by
   calc (ps.length+1)/aAf W.δ.size k≤(ps.length+aAf W.δ.size k)/aAf W.δ.size k:=BX oM
    _=ps.length/aAf W.δ.size k+1:=Nat.add_div_right _ oM
  omega) (AG _)
 rcases hc with⟨rfl,e1,e2,e3,e4⟩|⟨rfl,e1,e2,e3,e4,e5⟩
 ·exact⟨cd',ca',cs',W',cx',cb',0,rfl,rfl,aa,ac,ab,.inl ⟨rfl,by rw[e1];exact hg,by rw[e3];exact hl,e4⟩⟩
 ·exact⟨cd',ca',cs',W',cx',cb',6,rfl,rfl,aa,ac,ab,.inr ⟨rfl,oM,.inr ⟨e3,e4,e5⟩⟩⟩
theorem aZi (bw bd ba bs:Nat) (W:Wk) (cd ca cs:aAc) (h:Wc bd ba bs W cd ca cs) (bx first nb k bound:Nat) (g:Gr) (ps:List T5) (cx cb:aAc) (hw:aHy bw bx W first nb k bound g ps cx cb) (Gs:List Gr) (hg:W.α.gs.Perm (g::Gs))
  (Lv:List Ext) (hl:aDv first nb Lv W.live) (ag:W.δ.acts≤1000000000000) (hh:1≤aAf W.δ.size k):
  Ct AC 93 [pv bx] [aAi bw bd ba bs,cd,ca,cs,cx,cb] fun v H'=>
   ∃cd' ca' cs' W' cx' cb' f e,v= .tuple #[flv f,.int .i64 e]∧H'=[aAi bw bd ba bs,cd',ca',cs',cx',cb']∧Wc bd ba bs W' cd' ca' cs'∧Ev W W' 1 0∧aBv Lv W W'∧W'.α.gs.Perm Gs∧aEg bx cx'∧
    ((e=0∧W'.live.Perm (aCj f Lv)∧f.width=k∧f.count=ps.length∧aAq W'.δ.disk W.δ.size [f.ext] f ps)∨(e=6∧f=⟨0,0,0,0⟩∧W.δ.fault≠-1∧W'.live.Perm Lv)):=by
 refine(aPc bw bd ba bs W cd ca cs h bx first nb k bound g ps cx cb hw Gs hg Lv hl ag).mono ?_
 rintro v H' ⟨cd',ca',cs',W',cx',cb',rfl,aa,ah,ab,ac,ad,hc⟩
 have ae:Ev W W' 1 0:=ah.weak (by
  unfold aAb
  have h1:(ps.length+aAf W.δ.size k-1)/aAf W.δ.size k≤(ps.length+aAf W.δ.size k)/aAf W.δ.size k:=BX oM
  rw[Nat.add_div_right _ oM] at h1
  omega) (AG _)
 rcases hc with⟨f,rfl,e1,e2,e3,e4⟩|⟨rfl,e1,e2,e3⟩
 ·exact⟨cd',ca',cs',W',cx',cb',f,0,rfl,rfl,aa,ae,ab,ac,ad,.inl ⟨rfl,by rw[e1];exact .refl _,e2,e3,e4⟩⟩
 ·exact⟨cd',ca',cs',W',cx',cb',⟨0,0,0,0⟩,6,rfl,rfl,aa,ae,ab,ac,ad,.inr ⟨rfl,rfl,oM,e3⟩⟩
def RSt (bw bx:Nat) (f:Fl) (ts:List T5) (g:Gr) (base:List Gr) (W:Wk) (cx cb:aAc):Prop:=
 (W.α.gs.Perm (g::base)∧∃pos,aGt bw bx W f ts g pos cx cb)∨(W.α.gs.Perm base∧aDj bx cx)
theorem aBn (bw bd ba bs:Nat) (W:Wk) (cd ca cs:aAc) (h:Wc bd ba bs W cd ca cs) (bx:Nat) (f:Fl) (ts:List T5) (g:Gr) (aa:List Gr) (cx cb:aAc) (hr:RSt bw bx f ts g aa W cx cb):
  Cd AC 96 [pv bx] [aAi bw bd ba bs,ca,cx] fun v H'=>
   ∃ca' α' cx',H'=[aAi bw bd ba bs,ca',cx']∧Wc bd ba bs {W with α:=α'} cd ca' cs∧Ev W {W with α:=α'} 0 0∧α'.gs.Perm aa:=by
 rcases hr with⟨h1,pos,h2⟩|⟨h1,h2⟩
 ·refine Cd.conv (aDn bw bd ba bs W cd ca cs h bx f ts g aa h1 pos cx cb h2).2 (.refl _) ?_
  rintro v H' ⟨ca',α',cx',_,rfl,a1,a2,a3,_⟩
  exact⟨_,⟨ca',α',cx',rfl,a1,a2,a3⟩,.refl _⟩
 ·refine Cd.conv (Cd.wide (aJe bx cx h2).2 [aAi bw bd ba bs,ca]) (aEq fun z=>by simp only[AW,A5,AQ,A0,BK];omega) ?_
  rintro v H' ⟨H1,⟨_,rfl⟩,rfl⟩
  exact⟨_,⟨ca,W.α,cx,rfl,h,Ev.refl W,h1⟩,aEq fun z=>by simp only[AW,A5,AQ,A0,BK];omega⟩
structure Mkr (K:Type) where
 own:K→List Gr
 C:K→aAc
 J:Wk→K→Nat→Prop
 E:Wk→K→Prop
 pot:K→Nat
structure Mkr.Ok {K:Type} (Z:Mkr K) (Lv:List Ext):Prop where
 stay:∀W W' r i,Z.J W r i→W'.δ.size=W.δ.size→aBv Lv W W'→(∀e∈Lv,e∈W'.live)→(W.δ.fault= -1→W'.δ.fault= -1)→Z.J W' r i
 fin:∀W r i,Z.J W r i→Z.E W r
 stayE:∀W W' r,Z.E W r→W'.δ.size=W.δ.size→Z.E W' r
def MkrCt (bw bd ba bs:Nat) {K:Type} (Z:Mkr K) (size room:Nat) (ts:List T5) (out:Nat→T5) (fid:Nat) (fs us:List Value):Prop:=
 ∀(aa:List Gr) (W:Wk) (cd ca cs:aAc) (r:K) (i:Nat) (t:T5),Wc bd ba bs W cd ca cs→W.α.gs.Perm (Z.own r++aa)→W.α.room=room→W.δ.size=size→Z.J W r i→ts[i]? =some t→W.δ.acts≤100000000000→
  Ct AC fid (fs++[tv t]++us) [aAi bw bd ba bs,cd,ca,cs,Z.C r] fun v H'=>
   ∃ab ac W' r' u k e,v= .tuple #[tv u,.bool k,.int .i64 e]∧H'=[aAi bw bd ba bs,ab,ac,cs,Z.C r']∧Wc bd ba bs W' ab ac cs∧Ev W W' (Z.pot r'-Z.pot r) 0∧W'.δ.disk=W.δ.disk∧W'.σ=W.σ∧W'.live=W.live∧Z.pot r≤Z.pot r'∧W'.α.gs.Perm (Z.own r'++aa)∧
    ((e=0∧k=true∧u=out i∧Z.J W' r' (i+1))∨(e=6∧W.δ.fault≠-1∧Z.E W' r'))
def aCy (out:Nat→T5) (i:Nat):List T5:=(List.range i).map out
theorem aHe (out:Nat→T5) (i:Nat):(aCy out i).length=i:=by simp[aCy]
theorem aPp (out:Nat→T5) (i:Nat):aCy out (i+1)=aCy out i++[out i]:=by simp[aCy,List.range_succ]
structure EachJX (K:Type) where
 i:Nat
 cd:aAc
 ca:aAc
 cs:aAc
 cx:aAc
 cb:aAc
 cy:aAc
 cc:aAc
 W:Wk
 r:K
theorem aPq {x y:Gr} {a b:List Gr}:(a++(x::y::b)).Perm (x::y::(a++b)):=B4.trans (List.perm_middle.cons _)
theorem bRm (bw bd ba bs:Nat) {K:Type} (Z:Mkr K) (W:Wk) (cd ca cs:aAc) (h:Wc bd ba bs W cd ca cs) (hZ:Z.Ok W.live) (f:Fl) (ts:List T5) (LvF:List Ext) (a9:aAq W.δ.disk W.δ.size LvF f ts) (b9:∀e∈LvF,e∈W.live)
  (width:Nat) (c8:1≤width) (c7:width≤5) (out:Nat→T5) (dr:∀i,i<f.count→okT width (out i)) (b1:Nat) (ds:Callable AC b1) (fs us:List Value) (e7:MkrCt bw bd ba bs Z W.δ.size W.α.room ts out b1 fs us)
  (r:K) (aa:List Gr) (hg:W.α.gs.Perm (Z.own r++aa)) (hJ:Z.J W r 0) (P:Nat) (hP:∀W r,Z.E W r→Z.pot r≤P) (gm:P≤1000000)
  (hr:2*W.δ.size≤W.α.room-W.α.used) (dt:aAb W.δ.size width f.count≤big W.σ.free) (gl:W.δ.acts≤1000000000) (gp:f.count≤1000000):
  Ct AC 169 [pv bw,flv f,.int .i64 (width:Int),.func (.func b1) fs.toArray us.toArray] [aAi bw bd ba bs,cd,ca,cs,Z.C r] fun v H'=>
   ∃cd' ca' cs' W' r' f' e,v= .tuple #[flv f',.int .i64 e]∧H'=[aAi bw bd ba bs,cd',ca',cs',Z.C r']∧Wc bd ba bs W' cd' ca' cs'∧Ev W W' (f.blocks+f.count+1+P) (aAb W.δ.size width f.count)∧aBv W.live W W'∧W'.α.gs.Perm (Z.own r'++aa)∧Z.E W' r'∧
    ((e=0∧W'.live.Perm (aCj f' W.live)∧f'.width=width∧f'.count=f.count∧aAq W'.δ.disk W.δ.size [f'.ext] f' (aCy out f.count))∨(e=6∧f'=⟨0,0,0,0⟩∧W.δ.fault≠-1∧W'.live.Perm W.live)):=by
 obtain⟨⟨c9,gq⟩,_⟩:=h.dev.num
 have gr:=a9.len
 have e8:=a9.w1
 have e9:=a9.w2
 have du:=a9.blk
 have hp:=aAl c9 e8 e9
 have dw:=aIk bw bd ba bs W cd ca cs h f ts LvF a9 oM
 have dx:flv f= .agg #[.int .i64 (f.first:Int),.int .i64 (f.blocks:Int),.int .i64 (f.width:Int),.int .i64 (f.count:Int)]:=rfl
 have gt:=eQ1
 have hz:tv T5.zero= .agg #[.int .i64 T5.zero.c0,.int .i64 T5.zero.c1,.int .i64 T5.zero.c2,.int .i64 T5.zero.c3,.int .i64 T5.zero.c4]:=rfl
 have bg:∀(W':Wk) (cd' ca' cs':aAc) (r':K) (kk:Nat),Wc bd ba bs W' cd' ca' cs'→Ev W W' kk (aAb W.δ.size width f.count)→kk≤f.blocks+f.count+1+P→aBv W.live W W'→W'.α.gs.Perm (Z.own r'++aa)→Z.E W' r'→W.δ.fault≠-1→W'.live.Perm W.live→
   ∃cg ci cj aj da f' e,Value.tuple #[.agg #[.int .i64 0,.int .i64 0,.int .i64 0,.int .i64 0],.int .i64 6]= .tuple #[flv f',.int .i64 e]∧[aAi bw bd ba bs,cd',ca',cs',Z.C r']=[aAi bw bd ba bs,cg,ci,cj,Z.C da]∧Wc bd ba bs aj cg ci cj∧Ev W aj (f.blocks+f.count+1+P) (aAb W.δ.size width f.count)∧aBv W.live W aj∧aj.α.gs.Perm (Z.own da++aa)∧Z.E aj da∧
    ((e=0∧aj.live.Perm (aCj f' W.live)∧f'.width=width∧f'.count=f.count∧aAq aj.δ.disk W.δ.size [f'.ext] f' (aCy out f.count))∨(e=6∧f'=⟨0,0,0,0⟩∧W.δ.fault≠-1∧aj.live.Perm W.live)):=
  fun W' cd' ca' cs' r' kk a1 a2 a3 a4 a5 a6 a7 a8=>⟨cd',ca',cs',W',r',⟨0,0,0,0⟩,6,rfl,rfl,a1,a2.weak a3 (AG _),a4,a5,a6,.inr ⟨rfl,rfl,a7,a8⟩⟩
 rw[dx] at dw⊢
 refine Ct.introD Tryz.func169 rfl Tryz.ntmps169 (nle rfl) fun w0=> ?_;dsimp only[aAa,AD]
 repeat(refine st ?_;intros)
 rename_i b5 b8
 refine R.call (hct:=dw) (h:= ?_)
 rintro _ _ ⟨bx,g,fa,α1,cx,cb,rfl,rfl,dy,dz,d0,fb,fc⟩
 try dsimp only[AA,AB]
 have gu:α1.used=W.α.used+W.δ.size:=by
  have:=dy.ar.num.2.2.2
  dsimp only at this
  rw[this,(d0.map (·.n)).sum_nat,h.ar.num.2.2.2];simp[fb];omega
 have gg:α1.room=W.α.room:=dz.room
 have d1:=aKd bw bd ba bs {W with α:=α1} cd fa cs dy width f.count c8 c7 oM oD
 dsimp only at d1
 repeat(refine st ?_;intros)
 refine R.call (hct:=d1) (h:= ?_)
 rintro _ _ (⟨_,bx2,first,g2,fd,fe,fg,W2,cy,cc,rfl,rfl,fh,d2,e1,e2,e3,e4,e5⟩|⟨fi,_⟩)
 rotate_left
 ·exact absurd dt oM
 dsimp only[AA,AB]
 have bh:=dz.trans d2
 have d3:aBv W.live W W2:=fun x _=>by rw[e1]
 have cm:W2.δ.size=W.δ.size:=bh.size
 have fj:Z.J W2 r 0:=hZ.stay _ _ _ _ hJ cm d3 (fun e he=>e4.mem he) bh.fault
 have d4:W2.α.gs.Perm (g2::g::(Z.own r++aa)):=e2.trans ((d0.trans (hg.cons _)).cons _)
 repeat(refine st ?_;intros)
 refine G.loop (X:=EachJX K) (fun x=>x.i≤f.count∧Wc bd ba bs x.W x.cd x.ca x.cs∧Ev W x.W (aAb W.δ.size f.width x.i+x.i+(Z.pot x.r-Z.pot r)) (aAb W.δ.size width f.count)∧Z.pot r≤Z.pot x.r∧x.W.α.gs.Perm (g2::g::(Z.own x.r++aa))∧Z.J x.W x.r x.i∧
   aGt bw bx x.W f ts g x.i x.cx x.cb∧aHy bw bx2 x.W first (aAb W.δ.size width f.count) width f.count g2 (aCy out x.i) x.cy x.cc∧aDv first (aAb W.δ.size width f.count) W.live x.W.live∧aBv W.live W x.W)
  (fun _=>[(12,pv bx2),(13,.func (.func 97) #[pv bx] #[]),(3,.func (.func b1) fs.toArray us.toArray),(8,pv b8)])
  (fun x=>[[(b8,row [.int .i64 0,.int .i64 0,.int .i64 0,.int .i64 0] 42)],aAi bw bd ba bs,x.cd,x.ca,x.cs,Z.C x.r,x.cx,x.cb,x.cy,x.cc]) (fun x=>f.count-x.i) ⟨0,fd,fe,fg,cx,cb,cy,cc,W2,r⟩
  ⟨AS _,fh,bh.weak (AS _) oM,AG _,d4,fj,fc.move d2.size,by rw[←cm] at e5⊢;exact e5,e4,d3⟩ (body:= ?_)
 rintro⟨i,d5,d6,bc,db,dc,bi,bk,W3,r3⟩ ⟨hi,dd,ak,cu,b2,bo,ay,az,be,bp⟩
 dsimp only at hi dd ak cu b2 bo ay az be bp⊢
 have a0:W3.δ.size=W.δ.size:=ak.size
 have gh:=ak.acts.2
 have gw:aAb W.δ.size f.width i≤f.blocks:=by rw[du];exact aAm hi
 have gx:=aAx (n:=f.count) hp
 have gi:=hP W3 r3 (hZ.fin _ _ _ bo)
 have d7:aAq W3.δ.disk W3.δ.size LvF f ts:=by rw[a0];exact a9.keep fun x ⟨e,he,h2⟩=>bp x ⟨e,b9 e he,h2⟩
 have de:∀e∈LvF,e∈W3.live:=fun e he=>be.mem (b9 e he)
 by_cases b3:i<f.count
 ·have d8:ts[i]? =some ts[i]:=AE oM
  have d9:W3.α.gs.Perm (g::(g2::(Z.own r3++aa))):=b2.trans (.swap _ _ _)
  have ea:=aJt bw bd ba bs W3 d5 d6 bc dd bx f ts LvF d7 de g _ d9 i db dc ay _ d8 oM
  have fk:tv ts[i]= .agg #[.int .i64 (ts[i]).c0,.int .i64 (ts[i]).c1,.int .i64 (ts[i]).c2,.int .i64 (ts[i]).c3,.int .i64 (ts[i]).c4]:=rfl
  rw[fk,hz,a0] at ea
  have fm:=fun W cd ca cs=>e7 (g2::g::aa) W cd ca cs r3 i ts[i]
  generalize ht:ts[i]=t at*
  have eb:tv t= .agg #[.int .i64 t.c0,.int .i64 t.c1,.int .i64 t.c2,.int .i64 t.c3,.int .i64 t.c4]:=rfl
  have gy:aAb W.δ.size f.width (i+1)≤f.blocks:=by rw[du];exact aAm b3
  have gz:aAb W.δ.size f.width i≤aAb W.δ.size f.width (i+1):=aAm oM
  repeat(refine st ?_;intros)
  refine R.callV (fs:=[pv bx]) (vs:=[]) (hf:=inferInstance) (hct:=ea) (h:= ?_)
  rintro _ _ ⟨b4,b6,W4,bq,bu,rfl,b7,ae,bv,g0,ao,⟨rfl,fp,fq⟩|⟨rfl,ec,g1,df,dg⟩⟩<;>dsimp only[AA,AB]
  ·have ag:=ak.trans ae
   have dh:aBv W.live W3 W4:=fun x _=>by rw[bv]
   have fr:Z.J W4 r3 i:=hZ.stay _ _ _ _ bo ae.size dh (fun e he=>by rw[ao];exact be.mem he) ae.fault
   have gj:=ag.acts.2
   have ft:W4.α.gs.Perm (Z.own r3++(g2::g::aa)):=by rw[fp];exact b2.trans aPq.symm
   have hS:=fm W4 b4 b6 bc b7 ft ag.room ag.size fr d8 oM
   rw[eb] at hS
   repeat(refine st ?_;intros)
   apply R.callV
   ·exact rfl
   ·exact ds
   ·exact rfl
   ·exact hS
   ·exact oA1
   ·exact rfl
   ·exact nle rfl
   rintro _ _ ⟨ee,ef,W5,r5,u,k,e,rfl,rfl,eg,di,eh,g3,fu,ei,fv,hc⟩
   dsimp only[AA,AB]
   have al:=ag.trans di
   have fw:W5.δ.size=W.δ.size:=al.size
   have bz:aGt bw bx W5 f ts g (i+1) bq bu:=fq.move di.size
   have cv:aHy bw bx2 W5 first (aAb W.δ.size width f.count) width f.count g2 (aCy out i) bi bk:=az.move (ae.trans di).size (fun x _ _=>by rw[eh,bv])
   have cw:aDv first (aAb W.δ.size width f.count) W.live W5.live:=by rw[fu,ao];exact be
   have dj:aBv W.live W W5:=fun x hx=>by rw[eh,bv];exact bp x hx
   have cz:W5.α.gs.Perm (g2::g::(Z.own r5++aa)):=fv.trans aPq
   have ej:tv u= .agg #[.int .i64 u.c0,.int .i64 u.c1,.int .i64 u.c2,.int .i64 u.c3,.int .i64 u.c4]:=rfl
   have gk:=al.acts.2
   rw[ej]
   rcases hc with⟨rfl,rfl,hu,dk⟩|⟨rfl,fx,c5⟩
   ·have ek:=hP W5 r5 (hZ.fin _ _ _ dk)
    have el:=bRl bw bd ba bs W5 ee ef bc eg bx2 first (aAb W.δ.size width f.count) width f.count g2 (aCy out i) bi bk cv (g::(Z.own r5++aa)) cz W.live cw (by rw[aHe];exact b3) u (by rw[hu];exact dr i b3) oM (by rw[fw];exact aAl c9 c8 c7)
    rw[ej] at el
    repeat(refine st ?_;intros)
    refine R.call (hct:=el) (h:= ?_)
    rintro _ _ ⟨em,en,eo,W6,ep,et,e,rfl,rfl,eu,bf,dl,fy⟩
    try dsimp only[AA,AB]
    have c6:=al.trans bf
    rcases fy with⟨rfl,f0,ew,f1⟩|⟨rfl,f2,f6⟩
    ·repeat(refine st ?_;intros)
     refine Dn.round ⟨i+1,em,en,eo,bq,bu,ep,et,W6,r5⟩ ⟨b3,eu,c6.weak oD oM,BB cu ei,f0,hZ.stay _ _ _ _ dk bf.size dl (fun e he=>ew.mem he) bf.fault,bz.move bf.size,by rw[aPp,←hu];exact f1,ew,dj.trans dl⟩ oD
    ·have hD:=aEi bw bd ba bs W6 em en eo eu bx2 first (aAb W.δ.size width f.count) width f.count g2 (g::(Z.own r5++aa)) W.live ep et f6
     repeat(refine st ?_;intros)
     refine Go.SL.Lv.call (hc:=hD) (h:= ?_)
     rintro _ _ ⟨ab,ap,ac,W7,dm,dp,rfl,aq,ad,am,au,an⟩
     try dsimp only[AA,AB]
     have av:=aBn bw bd ba bs W7 ab ap ac aq bx f ts g (Z.own r5++aa) bq bu (.inl ⟨au,i+1,bz.move (bf.trans ad).size⟩)
     refine Go.SL.Lv.call (hc:=av) (h:= ?_)
     rintro _ _ ⟨ah,α8,dq,rfl,aw,ai,ax⟩
     try dsimp only[AA,AB]
     (refine Go.SL.Lv.nil (Hr:=[aAi bw bd ba bs,ab,ah,ac,Z.C r5]) Tryz.results169 (hR:= ?_);exact bg {W7 with α:=α8} ab ah ac r5 _ aw ((c6.trans (ad.trans ai)).weak (k':=f.blocks+f.count+1+P) oM oM) (AG _) (fun x hx=>by show W7.δ.disk x=_;rw[am];exact(dj.trans dl) x hx) ax (hZ.stayE _ _ _ (hZ.fin _ _ _ dk) ((bf.trans ad).trans ai).size) (aBj al f2) an)
   ·have ek:=hP W5 r5 c5
    have hD:=aEi bw bd ba bs W5 ee ef bc eg bx2 first (aAb W.δ.size width f.count) width f.count g2 (g::(Z.own r5++aa)) W.live bi bk (.inl ⟨cz,cw,_,cv⟩)
    repeat(refine st ?_;intros)
    refine Go.SL.Lv.call (hc:=hD) (h:= ?_)
    rintro _ _ ⟨ab,ap,ac,W7,dm,dp,rfl,aq,ad,am,au,an⟩
    try dsimp only[AA,AB]
    have av:=aBn bw bd ba bs W7 ab ap ac aq bx f ts g (Z.own r5++aa) bq bu (.inl ⟨au,i+1,bz.move ad.size⟩)
    refine Go.SL.Lv.call (hc:=av) (h:= ?_)
    rintro _ _ ⟨ah,α8,dq,rfl,aw,ai,ax⟩
    try dsimp only[AA,AB]
    (refine Go.SL.Lv.nil (Hr:=[aAi bw bd ba bs,ab,ah,ac,Z.C r5]) Tryz.results169 (hR:= ?_);exact bg {W7 with α:=α8} ab ah ac r5 _ aw ((al.trans (ad.trans ai)).weak (k':=f.blocks+f.count+1+P) oM oM) (AG _) (fun x hx=>by show W7.δ.disk x=_;rw[am];exact dj x hx) ax (hZ.stayE _ _ _ c5 (ad.trans ai).size) (aBj ag fx) an)
  ·have ag:=ak.trans ae
   have f7:W3.δ.fault≠-1:=oM
   have hD:=aEi bw bd ba bs W4 b4 b6 bc b7 bx2 first (aAb W.δ.size width f.count) width f.count g2 (Z.own r3++aa) W.live bi bk (.inl ⟨df,by rw[ao];exact be,_,az.move ae.size (fun x _ _=>by rw[bv])⟩)
   repeat(refine st ?_;intros)
   refine Go.SL.Lv.call (hc:=hD) (h:= ?_)
   rintro _ _ ⟨ab,ap,ac,W7,dm,dp,rfl,aq,ad,am,au,an⟩
   try dsimp only[AA,AB]
   have av:=aBn bw bd ba bs W7 ab ap ac aq bx f ts g (Z.own r3++aa) bq bu (.inr ⟨au,dg⟩)
   refine Go.SL.Lv.call (hc:=av) (h:= ?_)
   rintro _ _ ⟨ah,α8,dq,rfl,aw,ai,ax⟩
   try dsimp only[AA,AB]
   (refine Go.SL.Lv.nil (Hr:=[aAi bw bd ba bs,ab,ah,ac,Z.C r3]) Tryz.results169 (hR:= ?_);exact bg {W7 with α:=α8} ab ah ac r3 _ aw ((ag.trans (ad.trans ai)).weak (k':=f.blocks+f.count+1+P) oM oM) (AG _) (fun x hx=>by show W7.δ.disk x=_;rw[am,bv];exact bp x hx) ax (hZ.stayE _ _ _ (hZ.fin _ _ _ bo) ((ae.trans ad).trans ai).size) (aBj ak f7) an)
 ·obtain rfl:i=f.count:=by omega
  have ey:=aGf bw bx W3 f ts g db dc ay
  rw[hz] at ey
  have f8:=aZi bw bd ba bs W3 d5 d6 bc dd bx2 first (aAb W.δ.size width f.count) width f.count g2 _ bi bk az (g::(Z.own r3++aa)) b2 W.live be oM (by rw[a0];exact aAl c9 c8 c7)
  repeat(refine st ?_;intros)
  refine R.callVP (fs:=[pv bx]) (vs:=[]) (hf:=inferInstance) (hct:=ey) (h:= ?_)
  repeat(refine st ?_;intros)
  refine R.call (hct:=f8) (h:= ?_)
  rintro _ _ ⟨b4,b6,ga,W4,gb,gc,f',e,rfl,rfl,b7,ae,dh,df,dg,gd⟩
  try dsimp only[AA,AB]
  have ge:flv f'= .agg #[.int .i64 (f'.first:Int),.int .i64 (f'.blocks:Int),.int .i64 (f'.width:Int),.int .i64 (f'.count:Int)]:=rfl
  rw[ge]
  have hD:=aEi bw bd ba bs W4 b4 b6 ga b7 bx2 first (aAb W.δ.size width f.count) width f.count g2 (g::(Z.own r3++aa)) W4.live gb gc (.inr ⟨df,.refl _,dg⟩)
  repeat(refine st ?_;intros)
  refine Go.SL.Lv.call (hc:=hD) (h:= ?_)
  rintro _ _ ⟨ab,ap,ac,W7,dm,dp,rfl,aq,ad,am,au,an⟩
  try dsimp only[AA,AB]
  have av:=aBn bw bd ba bs W7 ab ap ac aq bx f ts g (Z.own r3++aa) db dc (.inl ⟨au,f.count,ay.move (ae.trans ad).size⟩)
  refine Go.SL.Lv.call (hc:=av) (h:= ?_)
  rintro _ _ ⟨ah,α8,dq,rfl,aw,ai,ax⟩
  try dsimp only[AA,AB]
  (refine Go.SL.Lv.nil (Hr:=[aAi bw bd ba bs,ab,ah,ac,Z.C r3]) Tryz.results169 (hR:= ?_);refine⟨ab,ah,ac,{W7 with α:=α8},r3,f',e,rfl,rfl,aw,((ak.trans ae).trans (ad.trans ai)).weak oM oM,fun x hx=>by show W7.δ.disk x=_;rw[am];exact(bp.trans dh) x hx,ax,hZ.stayE _ _ _ (hZ.fin _ _ _ bo) ((ae.trans ad).trans ai).size,?_⟩)
  rcases gd with⟨rfl,ao,gf,ez,e0⟩|⟨rfl,rfl,ec,ao⟩
  ·rw[aHe] at ez
   exact .inl ⟨rfl,an.trans ao,gf,ez,by show aAq W7.δ.disk _ _ _ _;rw[am,←a0];exact e0⟩
  ·exact .inr ⟨rfl,rfl,aBj ak ec,an.trans ao⟩
def aZj (t:T5) (j:Nat) (x:Int):T5:=
 match j with
 |0=>{t with c0:=x}
 |1=>{t with c1:=x}
 |2=>{t with c2:=x}
 |3=>{t with c3:=x}
 |_=>{t with c4:=x}
theorem bEi (t:T5) {j:Nat} (hj:j<5) (x:Int):(aAk t).set j (.int .i64 x)=aAk (aZj t j x):=by
 match j,hj with
 |0,_=>rfl
 |1,_=>rfl
 |2,_=>rfl
 |3,_=>rfl
 |4,_=>rfl
theorem bIh (t:T5) {i:Nat} (h:i<5):(aAk t)[i]? =some (.int .i64 (t.col i)):=by
 match i,h with
 |0,_=>rfl
 |1,_=>rfl
 |2,_=>rfl
 |3,_=>rfl
 |4,_=>rfl
def lkV (bs:List T5) (k:Int) (v:Nat):Int:=
 match bs.find? fun t=>decide (t.c0=k) with
 |some t=>t.col v
 |none=> -1
def aDu (bs:List T5) (key value to:Nat) (t:T5):T5:=aZj t to (lkV bs (t.col key) value)
theorem bBy {bs:List T5} {k:Int} {v:Nat} (h:∀u∈bs,u.c0≠k):lkV bs k v= -1:=by
 unfold lkV
 rw[EE.2 fun u hu=>by simp[h u hu]]
theorem aLd {bs:List T5} (hr:bs.Pairwise fun a c=>a.c0<c.c0) {k:Int} {v:Nat} {t:T5} (ht:t∈bs) (hk:t.c0=k):lkV bs k v=t.col v:=by
 unfold lkV
 cases hf:bs.find? fun t=>decide (t.c0=k) with
 |none=>
  rw[EE] at hf
  exact(hf t ht (by simp[hk])).elim
 |some u=>
  have h1:u.c0=k:=by simpa using List.find?_some hf
  have h2:=List.mem_of_find?_eq_some hf
  obtain⟨i,hi,rfl⟩:=CG.1 ht
  obtain⟨j,hj,rfl⟩:=CG.1 h2
  rcases CJ i j with h3|h3|h3
  ·have:=BJ.1 hr i j hi hj h3;omega
  ·subst h3;rfl
  ·have:=BJ.1 hr j i hj hi h3;omega
structure LkS where
 pos:Nat
 ok:Bool
 begun:Bool
 t:T5
 last:Int
 any:Bool
 cx:aAc
 cb:aAc
 op:Bool
structure aRw (bs:List T5) (s:LkS) (k:Int):Prop where
 nb:s.begun=false→s.pos=0
 yes:s.begun=true→s.ok=true→∃p,s.pos=p+1∧bs[p]? =some s.t∧∀j u,j<p→bs[j]? =some u→u.c0<k
 no:s.begun=true→s.ok=false→s.pos=bs.length∧∀u∈bs,u.c0<k
theorem aRw.up {bs:List T5} {s:LkS} {k k':Int} (h:aRw bs s k) (hk:k≤k'):aRw bs s k' where
 nb:=h.nb
 yes a b:=by
  obtain⟨p,h1,h2,h3⟩:=h.yes a b
  exact⟨p,h1,h2,fun j u hj hu=>by have:=h3 j u hj hu;omega⟩
 no a b:=⟨(h.no a b).1,fun u hu=>by have:=(h.no a b).2 u hu;omega⟩
theorem aRw.all {bs:List T5} {s:LkS} {k:Int} (h:aRw bs s k) (hc:s.begun=true→s.ok=true∧s.t.c0<k):∀j u,j<s.pos→bs[j]? =some u→u.c0<k:=by
 intro j u hj hu
 cases hb:s.begun with
 |false=>have:=h.nb hb;omega
 |true=>
  obtain⟨h1,h2⟩:=hc hb
  obtain⟨p,h3,h4,h5⟩:=h.yes hb h1
  rcases Nat.lt_or_ge j p with h6|h6
  ·exact h5 j u h6 hu
  ·obtain rfl:j=p:=by omega
   rw[h4] at hu
   rw[←BD hu];exact h2
def aKh (bl bx key value to:Nat) (s:LkS):aAc:=[(bl,row [.func (.func 97) #[pv bx] #[],.int .i64 s.t.c0,.int .i64 s.t.c1,.int .i64 s.t.c2,.int .i64 s.t.c3,.int .i64 s.t.c4,.bool s.ok,.bool s.begun,.int .i64 (key:Int),.int .i64 (value:Int),.int .i64 (to:Int),.int .i64 s.last,.bool s.any] 187)]
theorem bRn (bw bd ba bs bl bx key value to:Nat) (W:Wk) (cd ca cs:aAc) (h:Wc bd ba bs W cd ca cs) (fb:Fl) (bts:List T5) (LvB:List Ext) (az:aAq W.δ.disk W.δ.size LvB fb bts) (ay:∀e∈LvB,e∈W.live) (am:bts.Pairwise fun a c=>a.c0<c.c0)
  (g:Gr) (Gs:List Gr) (hg:W.α.gs.Perm (g::Gs)) (s:LkS) (ae:aGt bw bx W fb bts g s.pos s.cx s.cb) (ax:s.pos≤fb.count) (hs:s.begun=true→s.ok=true∧∃p,s.pos=p+1∧bts[p]? =some s.t) (a0:W.δ.acts≤1000000000000):
  Ct AC 213 [pv bl] [aKh bl bx key value to s,aAi bw bd ba bs,cd,ca,cs,s.cx,s.cb] fun v H'=>
   ∃cd' ca' W' s' e,v= .int .i64 e∧H'=[aKh bl bx key value to s',aAi bw bd ba bs,cd',ca',cs,s'.cx,s'.cb]∧Wc bd ba bs W' cd' ca' cs∧Ev W W' (aAb W.δ.size fb.width s'.pos-aAb W.δ.size fb.width s.pos) 0∧W'.δ.disk=W.δ.disk∧W'.σ=W.σ∧W'.live=W.live∧
    s'.last=s.last∧s'.any=s.any∧s'.begun=true∧
    ((e=0∧W'.α.gs.Perm (g::Gs)∧aGt bw bx W' fb bts g s'.pos s'.cx s'.cb∧((s.pos<fb.count∧s'.pos=s.pos+1∧s'.ok=true∧bts[s.pos]? =some s'.t)∨(s.pos=fb.count∧s'.pos=s.pos∧s'.ok=false)))∨
     (e=6∧W.δ.fault≠-1∧W'.α.gs.Perm Gs∧aDj bx s'.cx∧s'.pos≤fb.count∧s.pos≤s'.pos)):=by
 have hz:tv T5.zero= .agg #[.int .i64 T5.zero.c0,.int .i64 T5.zero.c1,.int .i64 T5.zero.c2,.int .i64 T5.zero.c3,.int .i64 T5.zero.c4]:=rfl
 have a5:=az.len
 obtain⟨pos,ok,begun,t,last,any,cx,cb,op⟩:=s
 unfold aKh
 dsimp only at ae ax hs⊢
 by_cases al:pos<fb.count
 ·have an:bts[pos]? =some bts[pos]:=AE oM
  have ao:=aJt bw bd ba bs W cd ca cs h bx fb bts LvB az ay g Gs hg pos cx cb ae _ an a0
  have a1:tv bts[pos]= .agg #[.int .i64 (bts[pos]).c0,.int .i64 (bts[pos]).c1,.int .i64 (bts[pos]).c2,.int .i64 (bts[pos]).c3,.int .i64 (bts[pos]).c4]:=rfl
  rw[a1,hz] at ao
  have a2:begun=true→¬(bts[pos]).c0≤t.c0:=fun hb=>by
   obtain⟨_,p,h1,h2⟩:=hs hb
   obtain⟨hp,h3⟩:=AK.1 h2
   have:=BJ.1 am p pos hp oM oM
   rw[h3] at this;omega
  generalize hu:bts[pos]=u at*
  cases begun with
  |false=>
   refine Ct.go Tryz.func213 Tryz.ntmps213 fun w0=> ?_
   repeat(refine sv ?_;intros)
   refine R.callV (fs:=[pv bx]) (vs:=[]) (hf:=inferInstance) (hct:=ao) (h:= ?_)
   rintro _ _ ⟨aa,ab,W4,ac,ad,rfl,ag,ah,ai,aj,ak,⟨rfl,ap,aq⟩|⟨rfl,a3,a4,au,av⟩⟩<;>dsimp only[AA,AB]
   ·repeat(refine sv ?_;intros)
    (refine Dn.post (Hr:=[[(bl,row [.func (.func 97) #[pv bx] #[],.int .i64 u.c0,.int .i64 u.c1,.int .i64 u.c2,.int .i64 u.c3,.int .i64 u.c4,.bool true,.bool true,.int .i64 (key:Int),.int .i64 (value:Int),.int .i64 (to:Int),.int .i64 last,.bool any] 187)],aAi bw bd ba bs,aa,ab,cs,ac,ad]) Tryz.results213 (hR:= ?_);exact⟨aa,ab,W4,⟨pos+1,true,true,u,last,any,ac,ad,op⟩,0,rfl,rfl,ag,ah,ai,aj,ak,rfl,rfl,rfl,.inl ⟨rfl,by rw[ap];exact hg,aq,.inl ⟨al,rfl,rfl,an⟩⟩⟩)
   ·repeat(refine sv ?_;intros)
    (refine Dn.post (Hr:=[[(bl,row [.func (.func 97) #[pv bx] #[],.int .i64 T5.zero.c0,.int .i64 T5.zero.c1,.int .i64 T5.zero.c2,.int .i64 T5.zero.c3,.int .i64 T5.zero.c4,.bool false,.bool true,.int .i64 (key:Int),.int .i64 (value:Int),.int .i64 (to:Int),.int .i64 last,.bool any] 187)],aAi bw bd ba bs,aa,ab,cs,ac,ad]) Tryz.results213 (hR:= ?_);exact⟨aa,ab,W4,⟨pos+1,false,true,T5.zero,last,any,ac,ad,op⟩,6,rfl,rfl,ag,ah,ai,aj,ak,rfl,rfl,rfl,.inr ⟨rfl,oM,au,av,al,Nat.le_succ _⟩⟩)
  |true=>
   obtain⟨rfl,_⟩:=hs rfl
   have a6:=a2 rfl
   refine Ct.go Tryz.func213 Tryz.ntmps213 fun w0=> ?_
   repeat(refine sv ?_;intros)
   refine R.callV (fs:=[pv bx]) (vs:=[]) (hf:=inferInstance) (hct:=ao) (h:= ?_)
   rintro _ _ ⟨aa,ab,W4,ac,ad,rfl,ag,ah,ai,aj,ak,⟨rfl,ap,aq⟩|⟨rfl,a3,a4,au,av⟩⟩<;>dsimp only[AA,AB]
   ·repeat(refine sv ?_;intros)
    (refine Dn.post (Hr:=[[(bl,row [.func (.func 97) #[pv bx] #[],.int .i64 u.c0,.int .i64 u.c1,.int .i64 u.c2,.int .i64 u.c3,.int .i64 u.c4,.bool true,.bool true,.int .i64 (key:Int),.int .i64 (value:Int),.int .i64 (to:Int),.int .i64 last,.bool any] 187)],aAi bw bd ba bs,aa,ab,cs,ac,ad]) Tryz.results213 (hR:= ?_);exact⟨aa,ab,W4,⟨pos+1,true,true,u,last,any,ac,ad,op⟩,0,rfl,rfl,ag,ah,ai,aj,ak,rfl,rfl,rfl,.inl ⟨rfl,by rw[ap];exact hg,aq,.inl ⟨al,rfl,rfl,an⟩⟩⟩)
   ·repeat(refine sv ?_;intros)
    (refine Dn.post (Hr:=[[(bl,row [.func (.func 97) #[pv bx] #[],.int .i64 T5.zero.c0,.int .i64 T5.zero.c1,.int .i64 T5.zero.c2,.int .i64 T5.zero.c3,.int .i64 T5.zero.c4,.bool false,.bool true,.int .i64 (key:Int),.int .i64 (value:Int),.int .i64 (to:Int),.int .i64 last,.bool any] 187)],aAi bw bd ba bs,aa,ab,cs,ac,ad]) Tryz.results213 (hR:= ?_);exact⟨aa,ab,W4,⟨pos+1,false,true,T5.zero,last,any,ac,ad,op⟩,6,rfl,rfl,ag,ah,ai,aj,ak,rfl,rfl,rfl,.inr ⟨rfl,oM,au,av,al,Nat.le_succ _⟩⟩)
 ·obtain rfl:pos=fb.count:=by omega
  have aw:=aGf bw bx W fb bts g cx cb ae
  rw[hz] at aw
  cases begun with
  |false=>
   refine Ct.go Tryz.func213 Tryz.ntmps213 fun w0=> ?_
   repeat(refine sv ?_;intros)
   refine R.callVP (fs:=[pv bx]) (vs:=[]) (hf:=inferInstance) (hct:=aw) (h:= ?_)
   repeat(refine sv ?_;intros)
   (refine Dn.post (Hr:=[[(bl,row [.func (.func 97) #[pv bx] #[],.int .i64 T5.zero.c0,.int .i64 T5.zero.c1,.int .i64 T5.zero.c2,.int .i64 T5.zero.c3,.int .i64 T5.zero.c4,.bool false,.bool true,.int .i64 (key:Int),.int .i64 (value:Int),.int .i64 (to:Int),.int .i64 last,.bool any] 187)],aAi bw bd ba bs,cd,ca,cs,cx,cb]) Tryz.results213 (hR:= ?_);exact⟨cd,ca,W,⟨fb.count,false,true,T5.zero,last,any,cx,cb,op⟩,0,rfl,rfl,h,(Ev.refl W).weak (AS _) (AG _),rfl,rfl,rfl,rfl,rfl,rfl,.inl ⟨rfl,hg,ae,.inr ⟨rfl,rfl,rfl⟩⟩⟩)
  |true=>
   obtain⟨rfl,_⟩:=hs rfl
   refine Ct.go Tryz.func213 Tryz.ntmps213 fun w0=> ?_
   repeat(refine sv ?_;intros)
   refine R.callVP (fs:=[pv bx]) (vs:=[]) (hf:=inferInstance) (hct:=aw) (h:= ?_)
   repeat(refine sv ?_;intros)
   (refine Dn.post (Hr:=[[(bl,row [.func (.func 97) #[pv bx] #[],.int .i64 T5.zero.c0,.int .i64 T5.zero.c1,.int .i64 T5.zero.c2,.int .i64 T5.zero.c3,.int .i64 T5.zero.c4,.bool false,.bool true,.int .i64 (key:Int),.int .i64 (value:Int),.int .i64 (to:Int),.int .i64 last,.bool any] 187)],aAi bw bd ba bs,cd,ca,cs,cx,cb]) Tryz.results213 (hR:= ?_);exact⟨cd,ca,W,⟨fb.count,false,true,T5.zero,last,any,cx,cb,op⟩,0,rfl,rfl,h,(Ev.refl W).weak (AS _) (AG _),rfl,rfl,rfl,rfl,rfl,rfl,.inl ⟨rfl,hg,ae,.inr ⟨rfl,rfl,rfl⟩⟩⟩)
theorem bMo {c:List Value} (h:c.length=5):aFm [.int .i64 0,.int .i64 0,.int .i64 0,.int .i64 0,.int .i64 0] 0 c=c:=by
 rw[aGb _ _ _ (by simp[h]),h];simp
structure LkLX where
 cd:aAc
 ca:aAc
 W:Wk
 s:LkS
theorem aRw.more {bs:List T5} {s s':LkS} {k:Int} (h:aRw bs s k) (hc:s.begun=true→s.ok=true∧s.t.c0<k) (hb:s'.begun=true)
  (hm:(s'.pos=s.pos+1∧s'.ok=true∧bs[s.pos]? =some s'.t)∨(s.pos=bs.length∧s'.pos=s.pos∧s'.ok=false)):aRw bs s' k:=by
 have ha:=h.all hc
 refine⟨fun h1=>(by rw[hb] at h1;cases h1),fun _ ho=> ?_,fun _ ho=> ?_⟩
 ·rcases hm with⟨h1,_,h3⟩|⟨_,_,h3⟩
  ·exact⟨s.pos,h1,h3,ha⟩
  ·rw[h3] at ho;cases ho
 ·rcases hm with⟨_,h2,_⟩|⟨h1,h2,_⟩
  ·rw[h2] at ho;cases ho
  ·refine⟨h2.trans h1,fun u hu=> ?_⟩
   obtain⟨j,hj,rfl⟩:=CG.1 hu
   exact ha j _ oM (AE hj)
theorem aRw.hit {bs:List T5} {s:LkS} {k:Int} (h:aRw bs s k) (hr:bs.Pairwise fun a c=>a.c0<c.c0) (hb:s.begun=true) (ho:s.ok=true) (hk:s.t.c0=k) (v:Nat):lkV bs k v=s.t.col v:=by
 obtain⟨p,_,h2,_⟩:=h.yes hb ho
 exact aLd hr (List.mem_of_getElem? h2) hk
theorem aRw.over {bs:List T5} {s:LkS} {k:Int} (h:aRw bs s k) (hr:bs.Pairwise fun a c=>a.c0<c.c0) (hb:s.begun=true) (ho:s.ok=true) (hk:k<s.t.c0) (v:Nat):lkV bs k v= -1:=by
 obtain⟨p,_,h2,h3⟩:=h.yes hb ho
 obtain⟨hp,h4⟩:=AK.1 h2
 refine bBy fun u hu=> ?_
 obtain⟨j,hj,rfl⟩:=CG.1 hu
 rcases CJ j p with h5|h5|h5
 ·have:=h3 j _ h5 (AE hj);omega
 ·subst h5;rw[h4];omega
 ·have:=BJ.1 hr p j hp hj h5
  rw[h4] at this;omega
theorem aRw.out {bs:List T5} {s:LkS} {k:Int} (h:aRw bs s k) (hb:s.begun=true) (ho:s.ok=false) (v:Nat):lkV bs k v= -1:=
 bBy fun u hu=>by have:=(h.no hb ho).2 u hu;omega
theorem bRo (bw bd ba bs bl bx key value to:Nat) (cw:key<5) (cz:value<5) (dc:to<5) (W:Wk) (cd ca cs:aAc) (h:Wc bd ba bs W cd ca cs) (fb:Fl) (bts:List T5) (LvB:List Ext) (b2:aAq W.δ.disk W.δ.size LvB fb bts) (c5:∀e∈LvB,e∈W.live) (a1:bts.Pairwise fun a c=>a.c0<c.c0)
  (g:Gr) (Gs:List Gr) (hg:W.α.gs.Perm (g::Gs)) (s:LkS) (c6:aGt bw bx W fb bts g s.pos s.cx s.cb) (b7:s.pos≤fb.count) (t:T5) (hs:aRw bts s (t.col key)) (b6:s.any=true→s.last≤t.col key) (dx:W.δ.acts≤100000000000) (dy:fb.count≤1000000):
  Ct AC 170 [pv bl,tv t] [aKh bl bx key value to s,aAi bw bd ba bs,cd,ca,cs,s.cx,s.cb] fun v H'=>
   ∃cd' ca' W' s' u k e,v= .tuple #[tv u,.bool k,.int .i64 e]∧H'=[aKh bl bx key value to s',aAi bw bd ba bs,cd',ca',cs,s'.cx,s'.cb]∧Wc bd ba bs W' cd' ca' cs∧Ev W W' (aAb W.δ.size fb.width s'.pos-aAb W.δ.size fb.width s.pos) 0∧W'.δ.disk=W.δ.disk∧W'.σ=W.σ∧W'.live=W.live∧
    s.pos≤s'.pos∧s'.pos≤fb.count∧
    ((e=0∧k=true∧u=aDu bts key value to t∧W'.α.gs.Perm (g::Gs)∧aGt bw bx W' fb bts g s'.pos s'.cx s'.cb∧aRw bts s' (t.col key)∧s'.any=true∧s'.last=t.col key)∨
     (e=6∧W.δ.fault≠-1∧W'.α.gs.Perm Gs∧aDj bx s'.cx)):=by
 have dq:=b2.len
 have dz:=aAx (n:=fb.count) (aAl h.dev.num.1.1 b2.w1 b2.w2)
 have dd:tv t= .agg #[.int .i64 t.c0,.int .i64 t.c1,.int .i64 t.c2,.int .i64 t.c3,.int .i64 t.c4]:=rfl
 have de:aAk t=[.int .i64 t.c0,.int .i64 t.c1,.int .i64 t.c2,.int .i64 t.c3,.int .i64 t.c4]:=rfl
 have hq:=bIh t cw
 have b8:∀x,(aAk t).set to (.int .i64 x)=aAk (aZj t to x):=fun x=>bEi t dc x
 have bh:∀u:T5,u=aZj t to (lkV bts (t.col key) value)→.agg (aAk (aZj t to (lkV bts (t.col key) value))).toArray=tv (aDu bts key value to t):=fun _ _=>rfl
 have bh:=bh _ rfl
 have cj: .agg (aAk t).toArray=tv t:=rfl
 generalize hk:t.col key=k at*
 rw[dd]
 rw[de] at hq b8 cj
 generalize c7:([.int .i64 t.c0,.int .i64 t.c1,.int .i64 t.c2,.int .i64 t.c3,.int .i64 t.c4]:List Value)=cc at*
 have df:cc.length=5:=by rw[←c7];rfl
 have dr:(Value.agg cc.toArray).cells=cc.toArray:=rfl
 have d0:(cc.drop 0).take 5=cc:=by rw[CT,A4 oM]
 have d1:cc.all Value.oneCell'=true:=by rw[←c7];rfl
 have d2:=bMo df
 obtain⟨pos,ok,begun,tb,last,any,cx,cb,op⟩:=s
 unfold aKh
 dsimp only at c6 b7 hs b6⊢
 have dg:any=true→¬k<last:=fun h=>by have:=b6 h;omega
 have dh:aRw bts ⟨pos,ok,begun,tb,k,true,cx,cb,op⟩ k:=⟨hs.nb,hs.yes,hs.no⟩
 cases any
 case' true=>have ds:=dg rfl
 all_goals
  refine Ct.go Tryz.func170 Tryz.ntmps170 fun w0=> ?_
  repeat(refine sv ?_;intros)
  rename_i b3 b4
  refine G.loop (X:=LkLX) (fun x=>Wc bd ba bs x.W x.cd x.ca cs∧Ev W x.W (aAb W.δ.size fb.width x.s.pos-aAb W.δ.size fb.width pos) 0∧x.W.δ.disk=W.δ.disk∧x.W.σ=W.σ∧x.W.live=W.live∧pos≤x.s.pos∧x.s.pos≤fb.count∧x.W.α.gs.Perm (g::Gs)∧aGt bw bx x.W fb bts g x.s.pos x.s.cx x.s.cb∧aRw bts x.s k∧x.s.any=true∧x.s.last=k)
   (fun _=>[(7,.int .i64 k),(4,pv b4),(3,pv b3),(0,pv bl)])
   (fun x=>[[(b4,row [.int .i64 0,.int .i64 0,.int .i64 0,.int .i64 0,.int .i64 0] 33)],[(b3,row cc 33)],[(bl,row [.func (.func 97) #[pv bx] #[],.int .i64 x.s.t.c0,.int .i64 x.s.t.c1,.int .i64 x.s.t.c2,.int .i64 x.s.t.c3,.int .i64 x.s.t.c4,.bool x.s.ok,.bool x.s.begun,.int .i64 (key:Int),.int .i64 (value:Int),.int .i64 (to:Int),.int .i64 x.s.last,.bool x.s.any] 187)],aAi bw bd ba bs,x.cd,x.ca,cs,x.s.cx,x.s.cb])
   (fun x=>(fb.count-x.s.pos)+(if x.s.begun=true∧x.s.ok=false then 0 else 1)) ⟨cd,ca,W,⟨pos,ok,begun,tb,k,true,cx,cb,op⟩⟩
   ⟨h,(Ev.refl W).weak (AS _) (AG _),rfl,rfl,rfl,AG _,b7,hg,c6,dh,rfl,rfl⟩ (body:= ?_)
  rintro⟨ao,ap,W2,⟨ah,ok2,aj,ab,aa,dt,aq,au,b5⟩⟩ ⟨bi,am,bf,bk,bg,av,ai,bo,aw,an,c8,b9⟩
  dsimp only at bi am bf bk bg av ai bo aw an c8 b9⊢
  subst c8 b9
  have du:=am.acts.2
  have d3:aAb W.δ.size fb.width pos≤aAb W.δ.size fb.width ah:=aAm av
  have d4:aAb W.δ.size fb.width ah≤aAb W.δ.size fb.width fb.count:=aAm ai
  have c9:(aj=true→ok2=true∧ab.c0<aa)→Ct AC 213 [pv bl] [[(bl,row [.func (.func 97) #[pv bx] #[],.int .i64 ab.c0,.int .i64 ab.c1,.int .i64 ab.c2,.int .i64 ab.c3,.int .i64 ab.c4,.bool ok2,.bool aj,.int .i64 (key:Int),.int .i64 (value:Int),.int .i64 (to:Int),.int .i64 aa,.bool true] 187)],aAi bw bd ba bs,ao,ap,cs,aq,au] fun v H'=>
    ∃cd' ca' W' s' e,v= .int .i64 e∧H'=[[(bl,row [.func (.func 97) #[pv bx] #[],.int .i64 s'.t.c0,.int .i64 s'.t.c1,.int .i64 s'.t.c2,.int .i64 s'.t.c3,.int .i64 s'.t.c4,.bool s'.ok,.bool s'.begun,.int .i64 (key:Int),.int .i64 (value:Int),.int .i64 (to:Int),.int .i64 s'.last,.bool s'.any] 187)],aAi bw bd ba bs,cd',ca',cs,s'.cx,s'.cb]∧Wc bd ba bs W' cd' ca' cs∧Ev W W' (aAb W.δ.size fb.width s'.pos-aAb W.δ.size fb.width pos) 0∧W'.δ.disk=W.δ.disk∧W'.σ=W.σ∧W'.live=W.live∧
     s'.last=aa∧s'.any=true∧s'.begun=true∧pos≤s'.pos∧s'.pos≤fb.count∧
     ((e=0∧W'.α.gs.Perm (g::Gs)∧aGt bw bx W' fb bts g s'.pos s'.cx s'.cb∧aRw bts s' aa∧(fb.count-s'.pos)+(if s'.begun=true∧s'.ok=false then 0 else 1)<(fb.count-ah)+1)∨
      (e=6∧W.δ.fault≠-1∧W'.α.gs.Perm Gs∧aDj bx s'.cx)):=by
   intro hc
   have hM:=bRn bw bd ba bs bl bx key value to W2 ao ap cs bi fb bts LvB (by rw[bf,am.size];exact b2) (fun e he=>by rw[bg];exact c5 e he) a1 g Gs bo ⟨ah,ok2,aj,ab,aa,true,aq,au,b5⟩ aw ai (fun hb=>by
    obtain⟨h1,_⟩:=hc hb
    obtain⟨p,h2,h3,_⟩:=an.yes hb h1
    exact⟨h1,p,h2,h3⟩) oM
   refine hM.mono ?_
   rintro v H' ⟨cd',ca',W',s',e,rfl,rfl,di,cm,dj,dk,dl,e1,e2,e3,cu⟩
   rw[am.size] at cm
   dsimp only at cm e1 e2 cu
   have da:ah≤s'.pos∧s'.pos≤fb.count:=by
    rcases cu with⟨_,_,_,⟨h1,h2,_⟩|⟨h1,h2,_⟩⟩|⟨_,_,_,_,h5,h6⟩
    ·omega
    ·omega
    ·exact⟨h6,h5⟩
   have d5:aAb W.δ.size fb.width ah≤aAb W.δ.size fb.width s'.pos:=aAm da.1
   refine⟨cd',ca',W',s',e,rfl,rfl,di,(am.trans cm).weak oM (AG _),dj.trans bf,dk.trans bk,dl.trans bg,e1,e2,e3,oM,da.2,?_⟩
   rcases cu with⟨rfl,g1,g2,g3⟩|⟨rfl,f1,f2,f3,_⟩
   ·refine .inl ⟨rfl,g1,g2,an.more hc e3 (by
     rcases g3 with⟨_,q1,q2,q3⟩|⟨q0,q1,q2⟩
     ·exact .inl ⟨q1,q2,q3⟩
     ·exact .inr ⟨oD,q1,q2⟩),?_⟩
    rcases g3 with⟨q0,q1,q2,q3⟩|⟨q0,q1,q2⟩
    ·split<;>omega
    ·rw[if_pos ⟨e3,q2⟩];omega
   ·exact .inr ⟨rfl,aBj am f1,f2,f3⟩
  have bp:∀x:Int,lkV bts aa value=x→cc.set to (.int .i64 x)=aAk (aZj t to (lkV bts aa value)):=fun x hx=>by rw[b8,hx]
  cases aj with
  |false=>
   have hM:=c9 (fun h=>by cases h)
   have cv:(if(false:Bool)=true∧ok2=false then 0 else 1)=1:=if_neg oA15
   repeat(refine sv ?_;intros)
   refine R.call (hct:=hM) (h:= ?_)
   rintro _ _ ⟨a2,a3,W3,⟨ax,a4,ac,ad,ae,ak,a5,a6,bq⟩,e,rfl,rfl,a7,a8,a9,bc,be,ay,az,bu,al,ag,bv⟩
   try dsimp only[AA,AB]
   dsimp only at a7 a8 a9 bc be ay az bu al ag bv⊢
   rcases bv with⟨rfl,g1,g2,g3,g4⟩|⟨rfl,f1,f2,f3⟩
   ·repeat(refine sv ?_;intros)
    refine Dn.round ⟨a2,a3,W3,⟨ax,a4,ac,ad,ae,ak,a5,a6,bq⟩⟩ ⟨a7,a8,a9,bc,be,al,ag,g1,g2,g3,az,ay⟩ (by dsimp only;rw[cv];exact g4)
   ·repeat(refine sv ?_;intros)
    (refine Dn.post (Hr:=[[(bl,row [.func (.func 97) #[pv bx] #[],.int .i64 ad.c0,.int .i64 ad.c1,.int .i64 ad.c2,.int .i64 ad.c3,.int .i64 ad.c4,.bool a4,.bool ac,.int .i64 (key:Int),.int .i64 (value:Int),.int .i64 (to:Int),.int .i64 ae,.bool ak] 187)],aAi bw bd ba bs,a2,a3,cs,a5,a6]) Tryz.results170 (hR:= ?_);exact⟨a2,a3,W3,⟨ax,a4,ac,ad,ae,ak,a5,a6,bq⟩,t,false,6,by rw[←cj];rfl,rfl,a7,a8,a9,bc,be,al,ag,.inr ⟨rfl,f1,f2,f3⟩⟩)
  |true=>
   cases ok2 with
   |false=>
    have hv:=an.out rfl rfl value
    have bz:=bp _ hv
    have a0:=bh
    have b1:(aAk (aZj t to (lkV bts aa value))).length=5:=rfl
    have db:(aAk (aZj t to (lkV bts aa value))).all Value.oneCell'=true:=rfl
    generalize aAk (aZj t to (lkV bts aa value))=c2 at*
    have cg:(c2.drop 0).take 5=c2:=by rw[CT,A4 oM]
    have ci:=bMo b1
    repeat(refine sv ?_;intros)
    (refine Dn.post (Hr:=[[(bl,row [.func (.func 97) #[pv bx] #[],.int .i64 ab.c0,.int .i64 ab.c1,.int .i64 ab.c2,.int .i64 ab.c3,.int .i64 ab.c4,.bool false,.bool true,.int .i64 (key:Int),.int .i64 (value:Int),.int .i64 (to:Int),.int .i64 aa,.bool true] 187)],aAi bw bd ba bs,ao,ap,cs,aq,au]) Tryz.results170 (hR:= ?_);exact⟨ao,ap,W2,⟨ah,false,true,ab,aa,true,aq,au,b5⟩,aDu bts key value to t,true,0,by rw[←a0];rfl,rfl,bi,am,bf,bk,bg,av,ai,.inl ⟨rfl,rfl,rfl,bo,aw,an,rfl,rfl⟩⟩)
   |true=>
    by_cases dm:ab.c0<aa
    ·have hM:=c9 (fun _=>⟨rfl,dm⟩)
     have cv:(if(true:Bool)=true∧(true:Bool)=false then 0 else 1)=1:=if_neg oA15
     repeat(refine sv ?_;intros)
     refine R.call (hct:=hM) (h:= ?_)
     rintro _ _ ⟨a2,a3,W3,⟨ax,a4,ac,ad,ae,ak,a5,a6,bq⟩,e,rfl,rfl,a7,a8,a9,bc,be,ay,az,bu,al,ag,bv⟩
     try dsimp only[AA,AB]
     dsimp only at a7 a8 a9 bc be ay az bu al ag bv⊢
     rcases bv with⟨rfl,g1,g2,g3,g4⟩|⟨rfl,f1,f2,f3⟩
     ·repeat(refine sv ?_;intros)
      refine Dn.round ⟨a2,a3,W3,⟨ax,a4,ac,ad,ae,ak,a5,a6,bq⟩⟩ ⟨a7,a8,a9,bc,be,al,ag,g1,g2,g3,az,ay⟩ (by dsimp only;rw[cv];exact g4)
     ·repeat(refine sv ?_;intros)
      (refine Dn.post (Hr:=[[(bl,row [.func (.func 97) #[pv bx] #[],.int .i64 ad.c0,.int .i64 ad.c1,.int .i64 ad.c2,.int .i64 ad.c3,.int .i64 ad.c4,.bool a4,.bool ac,.int .i64 (key:Int),.int .i64 (value:Int),.int .i64 (to:Int),.int .i64 ae,.bool ak] 187)],aAi bw bd ba bs,a2,a3,cs,a5,a6]) Tryz.results170 (hR:= ?_);exact⟨a2,a3,W3,⟨ax,a4,ac,ad,ae,ak,a5,a6,bq⟩,t,false,6,by rw[←cj];rfl,rfl,a7,a8,a9,bc,be,al,ag,.inr ⟨rfl,f1,f2,f3⟩⟩)
    ·by_cases dp:ab.c0=aa
     ·have hv:=an.hit a1 rfl rfl dp value
      dsimp only at hv
      have bz:=bp _ hv
      have a0:=bh
      have dw:([.func (.func 97) #[pv bx] #[],.int .i64 ab.c0,.int .i64 ab.c1,.int .i64 ab.c2,.int .i64 ab.c3,.int .i64 ab.c4,.bool true,.bool true,.int .i64 (key:Int),.int .i64 (value:Int),.int .i64 (to:Int),.int .i64 aa,.bool true]:List Value)[1+value]? =some (.int .i64 (ab.col value)):=by
       match value,cz with
       |0,_=>rfl
       |1,_=>rfl
       |2,_=>rfl
       |3,_=>rfl
       |4,_=>rfl
      have b1:(aAk (aZj t to (lkV bts aa value))).length=5:=rfl
      have db:(aAk (aZj t to (lkV bts aa value))).all Value.oneCell'=true:=rfl
      generalize aAk (aZj t to (lkV bts aa value))=c2 at*
      have cg:(c2.drop 0).take 5=c2:=by rw[CT,A4 oM]
      have ci:=bMo b1
      generalize ab.col value=y at*
      repeat(refine sv ?_;intros)
      (refine Dn.post (Hr:=[[(bl,row [.func (.func 97) #[pv bx] #[],.int .i64 ab.c0,.int .i64 ab.c1,.int .i64 ab.c2,.int .i64 ab.c3,.int .i64 ab.c4,.bool true,.bool true,.int .i64 (key:Int),.int .i64 (value:Int),.int .i64 (to:Int),.int .i64 aa,.bool true] 187)],aAi bw bd ba bs,ao,ap,cs,aq,au]) Tryz.results170 (hR:= ?_);exact⟨ao,ap,W2,⟨ah,true,true,ab,aa,true,aq,au,b5⟩,aDu bts key value to t,true,0,by rw[←a0];rfl,rfl,bi,am,bf,bk,bg,av,ai,.inl ⟨rfl,rfl,rfl,bo,aw,an,rfl,rfl⟩⟩)
     ·have hv:=an.over a1 rfl rfl oD value
      have bz:=bp _ hv
      have a0:=bh
      have b1:(aAk (aZj t to (lkV bts aa value))).length=5:=rfl
      have db:(aAk (aZj t to (lkV bts aa value))).all Value.oneCell'=true:=rfl
      generalize aAk (aZj t to (lkV bts aa value))=c2 at*
      have cg:(c2.drop 0).take 5=c2:=by rw[CT,A4 oM]
      have ci:=bMo b1
      repeat(refine sv ?_;intros)
      (refine Dn.post (Hr:=[[(bl,row [.func (.func 97) #[pv bx] #[],.int .i64 ab.c0,.int .i64 ab.c1,.int .i64 ab.c2,.int .i64 ab.c3,.int .i64 ab.c4,.bool true,.bool true,.int .i64 (key:Int),.int .i64 (value:Int),.int .i64 (to:Int),.int .i64 aa,.bool true] 187)],aAi bw bd ba bs,ao,ap,cs,aq,au]) Tryz.results170 (hR:= ?_);exact⟨ao,ap,W2,⟨ah,true,true,ab,aa,true,aq,au,b5⟩,aDu bts key value to t,true,0,by rw[←a0];rfl,rfl,bi,am,bf,bk,bg,av,ai,.inl ⟨rfl,rfl,rfl,bo,aw,an,rfl,rfl⟩⟩)
end Go.Proofs.YtaofijjjheiknaaGreat
