/-
  Parts of the proof, put together (9). No condition.
-/
import Derived.Test.YtammjnjpheobaaaGreatL8
set_option linter.unusedVariables false
set_option linter.unusedSimpArgs false
set_option linter.unnecessarySimpa false
set_option maxHeartbeats 4000000
open Bool renaming true_and→DO
open Go.IntKind renaming wrap→AH
open Go.Proofs.Tryz renaming prog→AC
open List renaming cons_append→AA,nil_append→AB,getElem?_eq_getElem→AE,length_append→AF,mem_cons_self→AI,mem_cons_of_mem→AJ,getElem?_eq_some_iff→AK,mem_cons→AM,mem_append→AO,append_nil→AQ,append_assoc→AR,mem_map→AT,map_append→AV,flatten_cons→AW,length_map→AX,flatten_append→A3,take_of_length_le→A4,flatten_nil→A8,count_append→BI,drop_eq_getElem_cons→BM,take_add_one→BN,mem_append_left→BO,pairwise_iff_getElem→BQ,perm_middle→B0,rel_of_pairwise_cons→B7,filter_append→B8,mem_iff_getElem→CC,drop_zero→C9,length_set→DJ,append_of_mem→D3,find?_eq_none→D6,length_eq_zero_iff→D7,take_length→D9,map_map→EE
open Nat renaming reduceAdd→AD,le_refl→AG,zero_le→AS,le_trans→BA,div_le_div_right→BY,lt_trichotomy→CV,add_le_add_right→DD
open Option.some renaming injEq→A9,inj→BG
namespace Go.Proofs.YtammjnjpheobaaaGreat
open Go.SL Go.Spc Go.Tup Go.Srt
theorem aAq.in_ {d d':Nat→Option (List Int)} {s:Nat} {f:Fl} {ts:List T5} {live:List Ext} (h:aAq d s [f.ext] f ts) (hm:f.blocks≠0→f.ext∈live) (hk:∀x,inF live x→d' x=d x):aAq d' s [f.ext] f ts:=by
 by_cases hb:f.blocks=0
 ·exact{h with onto:=fun j hj=>by omega}
 ·refine h.keep fun x ⟨e,he,h2⟩=>hk x ⟨e,?_,h2⟩
  simp only[List.mem_singleton] at he;subst he
  exact hm hb
theorem bEz {α:Type} {l:List α} {i:Nat} {x:α} (h:l[i]? =some x):∃l1 l2,l=l1++x::l2∧∀y,l.set i y=l1++y::l2:=by
 induction l generalizing i with
 |nil=>simp at h
 |cons a l ih=>
  cases i with
  |zero=>simp only[List.getElem?_cons_zero,A9] at h;subst h;exact⟨[],l,rfl,fun y=>rfl⟩
  |succ i=>
   obtain⟨l1,l2,h1,h2⟩:=ih (i:=i) (by simpa using h)
   exact⟨a::l1,l2,by rw[h1];rfl,fun y=>by rw[List.set_cons_succ,h2];rfl⟩
theorem aLf.uniq {p:Jp} {J:Jb} {held:List (Fl×List T5)} {W:Wk} {cd ca cs:aAc} (h:aLf p J held W) (hW:Wc p.bd p.ba p.bs W cd ca cs) {f:Fl} {ts us:List T5} {l1 l2:List (Fl×List T5)} (he:held=l1++(f,us)::l2) (hm:(f,ts)∈held):us=ts:=by
 obtain⟨⟨hs1,_⟩,_⟩:=hW.dev.num
 have h1:=h.files _ hm
 have h2:=h.files (f,us) (by rw[he];simp)
 by_cases hb:f.blocks=0
 ·have h3:=h1.blk
  have hh:1≤aAf p.size f.width:=by rw[←h.size];exact aAj hs1 h1.w1 h1.w2
  dsimp only at h3
  unfold aAb at h3
  rw[hb] at h3
  have h4:f.count+aAf p.size f.width-1<aAf p.size f.width:=by
   rcases Nat.div_eq_zero_iff.1 h3.symm with h|h<;>omega
  have h5:f.count=0:=by omega
  have h6:=h1.len;have h7:=h2.len
  dsimp only at h6 h7
  rw[D7.1 (by omega:ts.length=0),D7.1 (by omega:us.length=0)]
 ·by_cases hu:us=ts
  ·exact hu
  ·exfalso
   have hm2:(f,ts)∈l1++l2:=by
    rw[he] at hm
    simp only[AO,AM,Prod.mk.injEq] at hm⊢
    rcases hm with hm|⟨_,hm⟩|hm
    ·exact .inl hm
    ·exact absurd hm.symm hu
    ·exact .inr hm
   have h3:W.live.Perm (f.ext::aAy ((l1++l2).map (·.1)) p.L0):=by
    refine h.live.trans ?_
    have h4:(held.map (·.1)).Perm (f::(l1++l2).map (·.1)):=by rw[he];simp
    refine(aEd h4 _).trans ((aDl _ _ _).trans ?_)
    unfold aCh;rw[if_neg hb]
   have h5:=hW.live.perm h3
   have h6:f.ext∈aAy ((l1++l2).map (·.1)) p.L0:=aGv (AT.2 ⟨_,hm2,rfl⟩) hb
   have h7:=B7 h5.apart h6
   have h8:f.ext.2=f.blocks:=rfl
   omega
theorem aOn {p:Jp} {e:Int} {cd ca cs:aAc} {ph:Option Addr} {n cap:Nat} {ch:aAc}:([aJf p e cd ca cs ph n cap ch]:Hp).flatten.Perm ([aFa p.bj p.bw e ph n cap,ch,[aAh p.bw p.bd p.ba p.bs,cd,ca,cs].flatten]:Hp).flatten:=by
 unfold aJf;refine aEk fun z=> ?_;simp only[AW,A8,AQ,BI];omega
theorem JSort (p:Jp) (hp:p.Ok) (J:Jb) (C:aAc) (hJ:aQq p J C) (f:Fl) (ts:List T5) (G':List (Fl×List T5)) (o:T5) (ho:aGb o=true) (once:Bool) (A T:Nat)
  (hG:J.e=0→J.G.Perm ((f,ts)::G')) (hT:J.e=0→aEi f.blocks≤T) (hroom:J.e=0→Fits p J T) (hA:J.e=0→aXg f.blocks≤A) (hac:J.acts+A≤1000000000) (hcn:f.count≤100000):
  Ct AC 44 [pv p.bj,flv f,tv o,.bool once] [C] fun v H'=>
   ∃g C' e',v=flv g∧H'=[C']∧aQq p ⟨e',J.er,(g,srt (ltO o) once ts)::G',J.acts+A,J.took+T⟩ C'∧
    (e'=0→J.e=0∧g.width=f.width∧g.count=(srt (ltO o) once ts).length)∧g.count≤f.count∧g.blocks≤f.blocks:=by
 obtain⟨W,cd,ca,cs,held,ph,cap,ch,rfl,hW,hV,hJW⟩:=hJ
 by_cases he:J.e=0
 ·have hus:=hJW.used hp hW
  have hok:=hJW.ok he
  have hmem:(f,ts)∈held:=hok.1.mem_iff.2 ((hG he).mem_iff.2 AI)
  obtain⟨k1,k2,hk⟩:=D3 hmem
  have hlv:W.live.Perm (aCh f (aAy ((k1++k2).map (·.1)) p.L0)):=by
   refine hJW.live.trans ((aEd (b:=f::(k1++k2).map (·.1)) ?_ _).trans (aDl _ _ _))
   rw[hk];simp
  have hfo:=hJW.files _ hmem
  rw[←hJW.size] at hfo
  have hS:=Sort_u p.bw p.bd p.ba p.bs W cd ca cs hW f ts _ hfo hlv o ho once (by omega) (by have:=hJW.acts;omega) hcn
  have hS2:Ct AC 83 [pv p.bw,flv f,tv o,.bool once] [[aAh p.bw p.bd p.ba p.bs,cd,ca,cs].flatten] fun v H'=>∃g e Hc',v= .tuple #[flv g,.int .i64 e]∧H'=[Hc']∧
    ∃cd' ca' cs' W',Hc'=[aAh p.bw p.bd p.ba p.bs,cd',ca',cs'].flatten∧Wc p.bd p.ba p.bs W' cd' ca' cs'∧Ev W W' (aXg f.blocks) (aEi f.blocks)∧W'.α.gs.Perm W.α.gs∧aBr (aAy ((k1++k2).map (·.1)) p.L0) W W'∧
    ((e=0∧W'.live.Perm (aCh g (aAy ((k1++k2).map (·.1)) p.L0))∧g.width=f.width∧g.count≤f.count∧aAq W'.δ.disk W.δ.size [g.ext] g (srt (ltO o) once ts))∨
     (e=6∧g=⟨0,0,0,0⟩∧W.δ.fault≠-1∧W'.live.Perm W.live∧aBr W.live W W')):=by
   refine Ct.convP hS (by simp) ?_
   rintro v H' ⟨cd',ca',cs',W',rfl,hW',hE',hg',hK',hc⟩
   rcases hc with⟨g,out,rfl,h1,h2,h3,h4,h5,h6⟩|⟨rfl,h1,_⟩|⟨rfl,h1,h2,h3⟩
   ·rw[srt_is (aBv o) h5 h6] at h4
    exact⟨[[aAh p.bw p.bd p.ba p.bs,cd',ca',cs'].flatten],⟨g,0,_,rfl,rfl,cd',ca',cs',W',rfl,hW',hE',hg',hK',.inl ⟨rfl,h1,h2,h3,h4⟩⟩,by simp⟩
   ·have:=hJW.big hW he (hroom he);have:=hT he;omega
   ·exact⟨[[aAh p.bw p.bd p.ba p.bs,cd',ca',cs'].flatten],⟨⟨0,0,0,0⟩,6,_,rfl,rfl,cd',ca',cs',W',rfl,hW',hE',hg',hK',.inr ⟨rfl,rfl,h1,h2,h3⟩⟩,by simp⟩
  have hY:=bEy p.bj p.bw ph cap held ch hV (by have:=hJW.len;omega) f ts hmem o once _ _ hS2
  rw[he]
  refine Ct.convP hY aOn ?_
  rintro v H' ⟨g,e,Hc',⟨cd',ca',cs',W',rfl,hW',hE',hg',hK',hc⟩,hv⟩
  have hacts:W'.δ.acts≤J.acts+A:=by have:=hE'.acts.2;have:=hJW.acts;have:=hA he;omega
  have htk:p.b0≤big W'.σ.free+(J.took+T):=by have:=hE'.big;have:=hJW.tk;have:=hT he;omega
  have hk0:aBr p.L0 W W':=hK'.sub fun e he=>aCy he
  have hkeep0:∀x,inF p.L0 x→W'.δ.disk x=p.D0 x:=fun x hx=>(hk0 x hx).trans (hJW.keep x hx)
  rcases hv with⟨rfl,rfl,i,ch',us,hi,rfl,hV'⟩|⟨hne,rfl,rfl⟩
  ·rcases hc with⟨_,c1,c2,c3,c4⟩|⟨h0,_⟩
   ·obtain⟨l1,l2,e1,e2⟩:=bEz hi
    obtain rfl:=hJW.uniq hW e1 hmem
    have hrest:(k1++k2).Perm (l1++l2):=by
     have h1:(k1++(f,us)::k2).Perm (l1++(f,us)::l2):=by rw[←hk,←e1]
     exact((B0.symm.trans h1).trans B0).cons_inv
    have hbl:g.blocks≤f.blocks:=by rw[c4.blk,hfo.blk,c2];exact aAk c3
    have hGp:G'.Perm (l1++l2):=by
     have h1:=(hok.1.trans (hG he))
     rw[e1] at h1
     exact(h1.symm.trans B0).cons_inv
    refine⟨[aJf p 0 cd' ca' cs' ph held.length cap ch'],⟨g,_,0,rfl,rfl,⟨W',cd',ca',cs',held.set i (g,srt (ltO o) once us),ph,cap,ch',by rw[DJ],hW',by rw[DJ];exact hV' _,?_⟩,fun _=>⟨rfl,c2,c4.len.symm⟩,c3,hbl⟩,aOn.symm⟩
    rw[e2]
    refine⟨hg'.trans hJW.gs,hE'.room.trans hJW.room,hE'.size.trans hJW.size,hE'.n.trans hJW.n,?_,?_,?_,hkeep0,fun hf=>hE'.fault (hJW.flt hf),hacts,htk,fun _=>⟨?_,hok.2⟩,fun h0=>absurd rfl h0⟩
    ·refine c1.trans ?_
     have h1:((l1++(g,srt (ltO o) once us)::l2).map (·.1)).Perm (g::(k1++k2).map (·.1)):=by
      refine(List.perm_middle.map _).trans ?_
      exact(hrest.symm.map _).cons _
     exact((aEd h1 _).trans (aDl _ _ _)).symm
    ·intro x hx
     have hx2:x=(g,srt (ltO o) once us)∨x∈l1++l2:=by
      simp only[AO,AM] at hx⊢
      rcases hx with h|h|h
      ·exact .inr (.inl h)
      ·exact .inl h
      ·exact .inr (.inr h)
     rcases hx2 with rfl|hx2
     ·rw[←hJW.size];exact c4
     ·have h1:=hJW.files x (by rw[e1];simp only[AO,AM] at hx2⊢;rcases hx2 with h|h;exact .inl h;exact .inr (.inr h))
      exact h1.in_ (fun hb=>aGv (AT.2 ⟨x,hrest.mem_iff.2 hx2,rfl⟩) hb) hK'
    ·have:=hJW.len;rw[e1] at this;simpa using this
    ·exact B0.trans (hGp.symm.cons _)
   ·omega
  ·rcases hc with⟨h0,_⟩|⟨rfl,rfl,c1,c2,c3⟩
   ·exact absurd h0 hne
   ·refine⟨[aJf p 6 cd' ca' cs' ph held.length cap ch],⟨⟨0,0,0,0⟩,_,6,rfl,rfl,⟨W',cd',ca',cs',held,ph,cap,ch,rfl,hW',hV,?_⟩,fun h0=>absurd h0 (by decide),AS _,AS _⟩,aOn.symm⟩
    refine⟨hg'.trans hJW.gs,hE'.room.trans hJW.room,hE'.size.trans hJW.size,hE'.n.trans hJW.n,c2.trans hJW.live,?_,hJW.len,hkeep0,fun hf=>hE'.fault (hJW.flt hf),hacts,htk,fun h0=>absurd (show(6:Int)=0 from h0) (by decide),fun _=> .inl ⟨rfl,?_⟩⟩
    ·intro x hx
     exact(hJW.files x hx).in_ (fun hb=>hJW.live.mem_iff.2 (aGv (AT.2 ⟨x,hx,rfl⟩) hb)) c3
    ·by_cases hf:p.fl
     ·exact hf
     ·exact absurd (hJW.flt hf) c1
 ·have hM2:=Ct.wide (bIw p.bj p.bw J.e he ph held.length cap f o once) [aAh p.bw p.bd p.ba p.bs,cd,ca,cs,ch]
  refine Ct.convP hM2 (by unfold aJf;refine aEk fun z=> ?_;simp only[AW,A8,AQ,A3,BI];omega) ?_
  rintro v H' ⟨H1,⟨rfl,rfl⟩,rfl⟩
  refine⟨[aJf p J.e cd ca cs ph held.length cap ch],⟨⟨0,0,0,0⟩,_,J.e,rfl,rfl,⟨W,cd,ca,cs,held,ph,cap,ch,rfl,hW,hV,?_⟩,fun h0=>absurd h0 he,AS _,AS _⟩,?_⟩
  ·have:=hJW.idle he none ((⟨0,0,0,0⟩,srt (ltO o) once ts)::G') A T
   have h2:J.er.or none=J.er:=by cases J.er<;>rfl
   rw[h2] at this
   exact this
  ·unfold aJf;refine aEk fun z=> ?_;simp only[AW,A8,AQ,A3,BI];omega
theorem aLf.take1 {p:Jp} {J:Jb} {held:List (Fl×List T5)} {W W':Wk} {cd ca cs:aAc} (h:aLf p J held W) (hW:Wc p.bd p.ba p.bs W cd ca cs) {f:Fl} {us:List T5} {l1 l2:List (Fl×List T5)} (he:held=l1++(f,us)::l2)
  (hδ:W'.δ=W.δ) (hα:W'.α=W.α) (hn:W'.σ.n=W.σ.n) (hb:Go.Spc.big W.σ.free≤Go.Spc.big W'.σ.free) (hl:W'.live.Perm (aAy ((l1++l2).map (·.1)) p.L0)) {G':List (Fl×List T5)} (hG:J.e=0→∃ts,J.G.Perm ((f,ts)::G')):aLf p ⟨J.e,J.er,G',J.acts,J.took⟩ (l1++l2) W':=by
 refine⟨by rw[hα];exact h.gs,by rw[hα];exact h.room,by rw[hδ];exact h.size,hn.trans h.n,hl,?_,?_,by rw[hδ];exact h.keep,by rw[hδ];exact h.flt,by rw[hδ];exact h.acts,BA h.tk (DD hb _),fun e0=> ?_,h.why⟩
 ·intro x hx
  rw[hδ]
  refine h.files x ?_
  rw[he]
  simp only[AO,AM] at hx⊢
  rcases hx with h|h
  ·exact .inl h
  ·exact .inr (.inr h)
 ·have:=h.len;rw[he] at this;simp at this⊢;omega
 ·obtain⟨h1,h2⟩:=h.ok e0
  obtain⟨ts,h3⟩:=hG e0
  have h4:(f,ts)∈held:=h1.mem_iff.2 (h3.mem_iff.2 AI)
  obtain rfl:=h.uniq hW he h4
  have h5:=h1.trans h3
  rw[he] at h5
  exact⟨(B0.symm.trans h5).cons_inv,h2⟩
structure JFreeX where
 k:Nat
 held:List (Fl×List T5)
 ph:Option Addr
 cap:Nat
 ch:aAc
 cs:aAc
 W:Wk
theorem bFa {α:Type} {l:List α} {i:Nat} {x:α} (h:l[i]? =some x):∃l1 l2,l=l1++x::l2∧l1.length=i:=by
 obtain⟨hi,rfl⟩:=AK.1 h
 exact⟨l.take i,l.drop (i+1),by rw[←BM hi,List.take_append_drop],by simp;omega⟩
theorem aUz (l1 l2:List Fl) (f:Fl) (rest:List Value):((aAi (l1++f::l2)++rest).drop ((l1.length+1)*4)).take (l2.length*4)=aAi l2:=by
 rw[aCo,aHo,←AR,AR (aAi l1++fl4 f)]
 have h1:(aAi l1++fl4 f).length=(l1.length+1)*4:=by rw[AF,aBl];simp[fl4];omega
 rw[←h1,List.drop_left]
 rw[←aBl,List.take_left]
theorem aVa (l1 l2:List Fl) (rest:List Value):aAi (l1++l2)++rest=aAi l1++(aAi l2++rest):=by rw[aCo,AR]
theorem bBk (l:List Fl):(aAi l).all Value.oneCell'=true:=by
 induction l with
 |nil=>rfl
 |cons f l ih=>rw[aHo,List.all_append,ih];rfl
theorem bFb (p:Jp) (hp:p.Ok) (J:Jb) (held0:List (Fl×List T5)) (W0:Wk) (cd ca cs0:aAc) (hW0:Wc p.bd p.ba p.bs W0 cd ca cs0) (hJ0:aLf p J held0 W0) (ph0:Option Addr) (cap0:Nat) (ch0:aAc) (hV0:Vec 27 4 ph0 held0.length cap0 (aAi (held0.map (·.1))) ch0)
  (fs:List Fl) (fts G':List (Fl×List T5)) (hG:J.e=0→J.G.Perm (fts++G')∧fs=fts.map (·.1)) (hfl:fs.length≤1000) (pa:Option Addr) (cap:Nat) (cf:aAc) (hVf:Vec 27 4 pa fs.length cap (aAi fs) cf):
  Ct AC 110 [pv p.bj,.slice pa fs.length cap] [aFa p.bj p.bw J.e ph0 held0.length cap0,ch0,aAh p.bw p.bd p.ba p.bs,cs0,cf] fun v H'=>
   ∃held ph cap' ch cs W,v= .tuple #[]∧H'=[aFa p.bj p.bw J.e ph held.length cap',ch,aAh p.bw p.bd p.ba p.bs,cs,cf]∧Wc p.bd p.ba p.bs W cd ca cs∧Vec 27 4 ph held.length cap' (aAi (held.map (·.1))) ch∧aLf p ⟨J.e,J.er,G',J.acts,J.took⟩ held W:=by
 unfold aFa
 refine Ct.intro Tryz.func110 rfl Tryz.ntmps110 (nle rfl) fun w0=> ?_;dsimp only[aAa,AD]
 repeat(first|(refine st ?_;intros)|refine G.draw [] (h:= ?_))
 refine G.loop (X:=JFreeX) (fun x=>x.k≤fs.length∧Wc p.bd p.ba p.bs x.W cd ca x.cs∧Vec 27 4 x.ph x.held.length x.cap (aAi (x.held.map (·.1))) x.ch∧aLf p ⟨J.e,J.er,fts.drop x.k++G',J.acts,J.took⟩ x.held x.W)
  (fun x=>[(10,.int .i64 (x.k:Int)),(9,.int .i64 (fs.length:Int)),(8,.slice pa fs.length cap),(0,pv p.bj)])
  (fun x=>[[(p.bj,row [pv p.bw,.int .i64 J.e,.slice x.ph x.held.length x.cap] 95)],x.ch,aAh p.bw p.bd p.ba p.bs,x.cs,cf]) (fun x=>fs.length-x.k) ⟨0,held0,ph0,cap0,ch0,cs0,W0⟩
  ⟨AS _,hW0,hV0,{hJ0 with ok:=fun e0=>⟨(hJ0.ok e0).1.trans (by simpa using(hG e0).1),(hJ0.ok e0).2⟩}⟩ (body:= ?_)
 rintro⟨k,held,ph,hcap,ch,cs,W⟩ ⟨hk,hW,hV,hJ⟩
 dsimp only at hk hW hV hJ⊢
 have hlen:=hJ.len
 by_cases hlt:k<fs.length
 ·obtain⟨fb,frest,rfl,rfl,hfr,hfc,hfm⟩:∃b rest,pa=some ⟨b,0,none⟩∧cf=[(b,row (aAi fs++rest) 27)]∧cap*4≤(aAi fs).length+rest.length∧fs.length≤cap∧cap≤maxLen:=by
   rcases hVf.2 with⟨_,e,_⟩|hh
   ·omega
   ·exact hh
  have hfk:fs[k]? =some fs[k]:=AE hlt
  have hgf:=aJq (rs:=fs.map fun f=>(f,[])) (rest:=frest) (j:=k) (r:=(fs[k],[])) (by simp[hfk])
  rw[EE] at hgf
  have hid:(fs.map ((fun x:Fl×List T5=>x.1)∘fun f=>(f,[])))=fs:=by simp[Function.comp_def]
  rw[hid] at hgf
  have hG2:J.e=0→∃ts,(fts.drop k++G').Perm ((fs[k],ts)::(fts.drop (k+1)++G')):=by
   intro e0
   obtain⟨_,h2⟩:=hG e0
   have h3:k<fts.length:=by have:=congrArg List.length h2;rw[AX] at this;omega
   refine⟨fts[k].2,?_⟩
   rw[BM h3]
   have h4:fs[k]=fts[k].1:=by simp[h2]
   rw[h4];exact .refl _
  generalize hf:fs[k]=f at*
  generalize hfcells:aAi fs++frest=fcs at*
  obtain⟨f1,f2,f3,f4⟩:=f
  dsimp only at hgf
  have hmaxl:held.length≤maxLen:=by simp only[maxLen];omega
  repeat(first|(refine st ?_;intros)|refine G.draw [] (h:= ?_))
  rename_i b5
  refine G.loop (X:=Nat) (fun i=>i≤held.length∧∀j x,j<i→held[j]? =some x→x.1≠⟨f1,f2,f3,f4⟩)
   (fun i=>[(19,.int .i64 (i:Int)),(18,.int .i64 (held.length:Int)),(17,.slice ph held.length hcap),(5,pv b5),(10,.int .i64 (k:Int)),(9,.int .i64 (fs.length:Int)),(8,.slice (some ⟨fb,0,none⟩) fs.length cap),(0,pv p.bj)])
   (fun _=>[[(b5,row [.int .i64 (f1:Int),.int .i64 (f2:Int),.int .i64 (f3:Int),.int .i64 (f4:Int)] 27)],[(p.bj,row [pv p.bw,.int .i64 J.e,.slice ph held.length hcap] 95)],ch,aAh p.bw p.bd p.ba p.bs,cs,[(fb,row fcs 27)]]) (fun i=>held.length-i) 0 ⟨AS _,fun j x h=>by omega⟩ (body:= ?_)
  rintro i ⟨hi,hno⟩
  by_cases hlt2:i<held.length
  ·obtain⟨vb,rest,rfl,rfl,hvl,hmc,hcm⟩:∃b rest,ph=some ⟨b,0,none⟩∧ch=[(b,row (aAi (held.map (·.1))++rest) 27)]∧hcap*4≤(aAi (held.map (·.1))).length+rest.length∧held.length≤hcap∧hcap≤maxLen:=by
    rcases hV.2 with⟨_,e,_⟩|hh
    ·omega
    ·exact hh
   have hli:held[i]? =some held[i]:=AE hlt2
   have hget:=aJq (rest:=rest) hli
   generalize hx:held[i]=x at*
   obtain⟨⟨x1,x2,x3,x4⟩,us⟩:=x
   dsimp only at hget
   by_cases hxf:x1=f1∧x2=f2∧x3=f3∧x4=f4
   ·obtain⟨rfl,rfl,rfl,rfl⟩:=hxf
    obtain⟨l1,l2,e1,hl1⟩:=bFa hli
    have hlv:W.live.Perm (aCh ⟨x1,x2,x3,x4⟩ (aAy ((l1++l2).map (·.1)) p.L0)):=by
     refine hJ.live.trans ((aEd (b:=⟨x1,x2,x3,x4⟩::(l1++l2).map (·.1)) ?_ _).trans (aDl _ _ _))
     rw[e1];simp
    have hF:=aKn p.bw p.bd p.ba p.bs W cd ca cs hW ⟨x1,x2,x3,x4⟩ _ (aDm.add hlv)
    have hflv:flv ⟨x1,x2,x3,x4⟩= .agg #[.int .i64 (x1:Int),.int .i64 (x2:Int),.int .i64 (x3:Int),.int .i64 (x4:Int)]:=rfl
    rw[hflv] at hF
    have hhl:held.length=i+1+l2.length:=by rw[e1];simp;omega
    have hl12:(l1++l2).length=i+(held.length-(i+1)):=by rw[AF];omega
    have hmap:held.map (·.1)=l1.map (·.1)++⟨x1,x2,x3,x4⟩::l2.map (·.1):=by rw[e1];simp
    have hl1m:(l1.map (·.1)).length=i:=by rw[AX];exact hl1
    have hnews:=aUz (l1.map (·.1)) (l2.map (·.1)) ⟨x1,x2,x3,x4⟩ rest
    have hfront:=aVa (l1.map (·.1)) (⟨x1,x2,x3,x4⟩::l2.map (·.1)) rest
    rw[←hmap] at hnews hfront
    have hnl:held.length-(i+1)=(l2.map (·.1)).length:=by rw[AX];omega
    rw[hl1m,←hnl] at hnews
    have hnll:(aAi (l2.map (·.1))).length=(held.length-(i+1))*4:=by rw[aBl,hnl]
    have hone:=bBk (l2.map (·.1))
    generalize hc2:aAi (held.map (·.1))++rest=cells at*
    have hcl:hcap*4≤cells.length:=by rw[←hc2,AF];exact hvl
    have hVi:Vec 27 4 (some ⟨vb,0,none⟩) i i (aAi (l1.map (·.1))) [(vb,row cells 27)]:=by
     refine Vec.mk' hfront (by rw[aBl,hl1m]) (by omega) (AG _) (by omega)
    have ei:((i:Int)+1).toNat=i+1:=by omega
    have hJ':∀W',W'.δ=W.δ→W'.α=W.α→W'.σ.n=W.σ.n→big W.σ.free≤big W'.σ.free→W'.live=aAy ((l1++l2).map (·.1)) p.L0→aLf p ⟨J.e,J.er,fts.drop (k+1)++G',J.acts,J.took⟩ (l1++l2) W':=by
     intro W' a1 a2 a3 a4 a5
     exact hJ.take1 hW e1 a1 a2 a3 a4 (by rw[a5]) (fun e0=>hG2 e0)
    by_cases hend:i+1<held.length
    ·repeat(first|(refine st ?_;intros)|refine G.draw [] (h:= ?_))
     rename_i p' cap' ch' hV'
     refine R.call (hct:=hF) (h:= ?_)
     rintro _ _ ⟨cs',W',rfl,rfl,hW',hE',hδ',hα',hl'⟩
     try dsimp only[AA,AB]
     repeat(first|(refine st ?_;intros)|refine G.draw [] (h:= ?_))
     have hV2:Vec 27 4 p' (l1++l2).length cap' (aAi ((l1++l2).map (·.1))) ch':=by rw[hl12,AV,aCo];exact hV'
     rw[←hl12]
     refine Dn.round ⟨k+1,l1++l2,p',cap',ch',cs',W'⟩ ⟨hlt,hW',hV2,hJ' W' hδ' hα' hE'.n hE'.big hl'⟩ (by dsimp only;omega)
    ·have hz0:held.length-(i+1)=0:=by omega
     obtain rfl:l2=[]:=D7.1 (by omega)
     have hV2:Vec 27 4 (some ⟨vb,0,none⟩) (l1++[]).length i (aAi ((l1++([]:List (Fl×List T5))).map (·.1))) [(vb,row cells 27)]:=by rw[AQ,hl1];exact hVi
     have hj:Value.slice (some ⟨vb,0,none⟩) i i= .slice (some ⟨vb,0,none⟩) (l1++([]:List (Fl×List T5))).length i:=by rw[AQ,hl1]
     by_cases hcp:i+1<hcap
     ·repeat(first|rw[hz0]|(apply R.append0;exact rfl;exact rfl;exact AG _;exact rfl;exact nle rfl)|(refine st ?_;intros)|refine G.draw [] (h:= ?_))
      refine R.call (hct:=hF) (h:= ?_)
      rintro _ _ ⟨cs',W',rfl,rfl,hW',hE',hδ',hα',hl'⟩
      try dsimp only[AA,AB]
      repeat(first|(refine st ?_;intros)|refine G.draw [] (h:= ?_))
      rw[hj]
      refine Dn.round ⟨k+1,l1++[],some ⟨vb,0,none⟩,i,[(vb,row cells 27)],cs',W'⟩ ⟨hlt,hW',hV2,hJ' W' hδ' hα' hE'.n hE'.big hl'⟩ (by dsimp only;omega)
     ·repeat(first|rw[hz0]|(apply R.append0;exact rfl;exact rfl;exact AG _;exact rfl;exact nle rfl)|(refine st ?_;intros)|refine G.draw [] (h:= ?_))
      refine R.call (hct:=hF) (h:= ?_)
      rintro _ _ ⟨cs',W',rfl,rfl,hW',hE',hδ',hα',hl'⟩
      try dsimp only[AA,AB]
      repeat(first|(refine st ?_;intros)|refine G.draw [] (h:= ?_))
      rw[hj]
      refine Dn.round ⟨k+1,l1++[],some ⟨vb,0,none⟩,i,[(vb,row cells 27)],cs',W'⟩ ⟨hlt,hW',hV2,hJ' W' hδ' hα' hE'.n hE'.big hl'⟩ (by dsimp only;omega)
   ·generalize hc2:aAi (held.map (·.1))++rest=cells at*
    repeat(first|(refine st ?_;intros)|refine G.draw [] (h:= ?_))
    refine Dn.round (i+1) ⟨by omega,fun j y hj hy=> ?_⟩ (by omega)
    by_cases hji:j=i
    ·subst hji
     rw[hli] at hy
     simp only[A9] at hy
     subst hy
     intro h0
     simp only[Fl.mk.injEq] at h0
     exact hxf h0
    ·exact hno j y (by omega) hy
  ·have hne:J.e≠0:=by
    intro e0
    obtain⟨ts,h1⟩:=hG2 e0
    have h2:((⟨f1,f2,f3,f4⟩,ts):Fl×List T5)∈held:=(hJ.ok e0).1.mem_iff.2 (h1.mem_iff.2 AI)
    obtain⟨j,hj,he⟩:=List.getElem_of_mem h2
    exact hno j _ (by omega) (AE hj) (by rw[he])
   repeat(first|(refine st ?_;intros)|refine G.draw [] (h:= ?_))
   refine Dn.round ⟨k+1,held,ph,hcap,ch,cs,W⟩ ⟨hlt,hW,hV,{hJ with ok:=fun e0=>absurd e0 hne}⟩ (by dsimp only;omega)
 ·obtain rfl:k=fs.length:=by omega
  repeat(first|(refine st ?_;intros)|refine G.draw [] (h:= ?_))
  (refine Dn.postEnd (Hr:=[[(p.bj,row [pv p.bw,.int .i64 J.e,.slice ph held.length hcap] 95)],ch,aAh p.bw p.bd p.ba p.bs,cs,cf]) Tryz.results110 (hR:= ?_);refine⟨held,ph,hcap,ch,cs,W,rfl,rfl,hW,hV,{hJ with ok:=fun e0=> ?_}⟩)
  have h2:=congrArg List.length (hG e0).2
  rw[AX] at h2
  have h3:=hJ.ok e0
  dsimp only at h3
  rw[h2,List.drop_length,AB] at h3
  exact h3
theorem JFree (p:Jp) (hp:p.Ok) (J:Jb) (C:aAc) (hJ:aQq p J C) (fs:List Fl) (fts G':List (Fl×List T5)) (hG:J.e=0→J.G.Perm (fts++G')∧fs=fts.map (·.1)) (hfl:fs.length≤1000) (pa:Option Addr) (cap:Nat) (cf:aAc) (hVf:Vec 27 4 pa fs.length cap (aAi fs) cf):
  Ct AC 110 [pv p.bj,.slice pa fs.length cap] [C,cf] fun v H'=>∃C',v= .tuple #[]∧H'=[C',cf]∧aQq p ⟨J.e,J.er,G',J.acts,J.took⟩ C':=by
 obtain⟨W,cd,ca,cs,held,ph,capj,ch,rfl,hW,hV,hJW⟩:=hJ
 refine Ct.convP (Ct.wide (bFb p hp J held W cd ca cs hW hJW ph capj ch hV fs fts G' hG hfl pa cap cf hVf) [cd,ca]) (by unfold aJf;refine aEk fun z=> ?_;simp only[AW,A8,AQ,A3,BI];omega) ?_
 rintro v H' ⟨H1,⟨held',ph',cap',ch',cs',W',rfl,rfl,hW',hV',hJ'⟩,rfl⟩
 refine⟨[aJf p J.e cd ca cs' ph' held'.length cap' ch',cf],⟨_,rfl,rfl,W',cd,ca,cs',held',ph',cap',ch',rfl,hW',hV',hJ'⟩,?_⟩
 unfold aJf;refine aEk fun z=> ?_;simp only[AW,A8,AQ,A3,BI];omega
def bIx (p:Jp) (W:Wk) (A T:Nat) (er:Option Nat) (ts:List T5) (R:Fl→Int→Hp→Prop) (jr:aAc) (v:Value) (H':Hp):Prop:=∃f e cd' ca' cs' W' Hx',v= .tuple #[flv f,.int .i64 e]∧
 H'=jr::aAh p.bw p.bd p.ba p.bs::cd'::ca'::cs'::Hx'∧Wc p.bd p.ba p.bs W' cd' ca' cs'∧aDp p W W' A T er ts f e∧R f e Hx'
def aFy (p:Jp) (J:Jb) (mk:Nat) (us:List Value) (Hx:Hp) (A T:Nat) (er:Option Nat) (ts:List T5) (R:Fl→Int→Hp→Prop):Prop:=
 ∀W cd ca cs held ph cap,Wc p.bd p.ba p.bs W cd ca cs→aLf p J held W→
  Ct AC mk us (aFa p.bj p.bw 0 ph held.length cap::aAh p.bw p.bd p.ba p.bs::cd::ca::cs::Hx) (bIx p W A T er ts R (aFa p.bj p.bw 0 ph held.length cap))
theorem JRun (p:Jp) (hp:p.Ok) (J:Jb) (C:aAc) (hJ:aQq p J C) (mk:Nat) (hcal:Callable AC mk) (us:List Value) (Hx:Hp) (A T:Nat) (er:Option Nat) (ts:List T5) (R:Fl→Int→Hp→Prop) (hst:J.e=0→aFy p J mk us Hx A T er ts R) (hGl:J.G.length≤1000):
  Ct AC 45 [pv p.bj,.func (.func mk) #[] us.toArray] (C::Hx) fun v H'=>∃f C' e' Hx',v=flv f∧H'=C'::Hx'∧aQq p ⟨e',J.er.or er,(f,ts)::J.G,J.acts+A,J.took+T⟩ C'∧
   ((J.e=0∧R f e' Hx')∨(J.e≠0∧e'=J.e∧f=⟨0,0,0,0⟩∧Hx'=Hx)):=by
 obtain⟨W,cd,ca,cs,held,ph,capj,ch,rfl,hW,hVj,hJW⟩:=hJ
 by_cases he:J.e=0
 ·have hG:=hJW.ok he
  have hS:=hst he W cd ca cs held ph capj hW hJW
  have hS2:Ct AC mk us [aFa p.bj p.bw 0 ph held.length capj,([aAh p.bw p.bd p.ba p.bs,cd,ca,cs]++Hx).flatten] (StepR (aFa p.bj p.bw 0 ph held.length capj) fun f e Hc'=>∃cd' ca' cs' W' Hx',Hc'=([aAh p.bw p.bd p.ba p.bs,cd',ca',cs']++Hx').flatten∧
    Wc p.bd p.ba p.bs W' cd' ca' cs'∧aDp p W W' A T er ts f e∧R f e Hx'):=by
   refine Ct.convP hS (by simp) ?_
   rintro v H' ⟨f,e,cd',ca',cs',W',Hx',rfl,rfl,hW',hSt,hR⟩
   exact⟨[aFa p.bj p.bw 0 ph held.length capj,([aAh p.bw p.bd p.ba p.bs,cd',ca',cs']++Hx').flatten],⟨f,e,_,rfl,rfl,cd',ca',cs',W',Hx',rfl,hW',hSt,hR⟩,by simp⟩
  have hM2:=bNg p.bj p.bw ph held.length capj _ ch hVj (by have:=hJW.len;omega) mk hcal us _ _ hS2
  refine Ct.convP hM2 (by rw[he];unfold aJf;refine aEk fun z=> ?_;simp only[AW,A8,AQ,A3,BI];omega) ?_
  rintro v H' ⟨f,e,Hc',rfl,⟨cd',ca',cs',W',Hx',rfl,hW',hSt,hR⟩,hc⟩
  have hlh:held.length<100000:=by have h2:=hG.1.length_eq;omega
  have hJ':=hJW.step he hSt hlh
  rcases hc with⟨rfl,p',cap',ch',rfl,hV'⟩|⟨hne,rfl⟩
  ·refine⟨aJf p 0 cd' ca' cs' p' (held.length+1) cap' ch'::Hx',⟨f,_,0,Hx',rfl,rfl,⟨W',cd',ca',cs',held++[(f,ts)],p',cap',ch',by simp,hW',?_,by simpa using hJ'⟩,.inl ⟨he,hR⟩⟩,?_⟩
   ·simpa using hV'
   ·unfold aJf;refine aEk fun z=> ?_;simp only[AW,A8,AQ,A3,BI];omega
  ·refine⟨aJf p e cd' ca' cs' ph held.length capj ch::Hx',⟨f,_,e,Hx',rfl,rfl,⟨W',cd',ca',cs',held,ph,capj,ch,rfl,hW',hVj,by simpa[hne] using hJ'⟩,.inl ⟨he,hR⟩⟩,?_⟩
   unfold aJf;refine aEk fun z=> ?_;simp only[AW,A8,AQ,A3,BI];omega
 ·have hM2:=Ct.wide (Run_no p.bj p.bw J.e he ph held.length capj (.func (.func mk) #[] us.toArray)) ([aAh p.bw p.bd p.ba p.bs,cd,ca,cs,ch]++Hx)
  refine Ct.convP hM2 (by unfold aJf;refine aEk fun z=> ?_;simp only[AW,A8,AQ,A3,BI];omega) ?_
  rintro v H' ⟨H1,⟨rfl,rfl⟩,rfl⟩
  refine⟨aJf p J.e cd ca cs ph held.length capj ch::Hx,⟨⟨0,0,0,0⟩,_,J.e,Hx,rfl,rfl,⟨W,cd,ca,cs,held,ph,capj,ch,rfl,hW,hVj,hJW.idle he _ _ _ _⟩,.inr ⟨he,rfl,rfl,rfl⟩⟩,?_⟩
  unfold aJf;refine aEk fun z=> ?_;simp only[AW,A8,AQ,A3,BI];omega
structure bFc (p:Jp) (J:Jb) (rs:List Fl) (W:Wk):Prop where
 gs:W.α.gs.Perm p.gs
 room:W.α.room=p.room
 size:W.δ.size=p.size
 n:W.σ.n=p.n
 keep:∀x,inF p.L0 x→W.δ.disk x=p.D0 x
 flt:¬p.fl→W.δ.fault= -1
 acts:W.δ.acts≤J.acts
 tk:p.b0≤big W.σ.free+J.took
 good:J.e=0→∀G1 G2,J.G.Perm (G1++G2)→rs=G1.map (·.1)→W.live.Perm (aAy rs p.L0)∧(∀x∈G1,aAq W.δ.disk p.size [x.1.ext] x.1 x.2)∧J.er=none
 bad:J.e≠0→W.live.Perm p.L0∧((J.e=6∧p.fl)∨∃m:Nat,J.er=some m∧J.e=(m:Int))
structure ResX where
 k:Nat
 cs:aAc
 W:Wk
def aGe (e:Int) (rs:List Fl) (x:Fl×List T5):Bool:=decide (e=0)&&rs.contains x.1
theorem aQr:∀(fs:List Fl) (L:List Ext),(∀f∈fs,f.blocks=0)→aAy fs L=L
 |[],_,_=>rfl
 |f::fs,L,h=>by
  have h1:aAy (f::fs) L=aAy fs (aCh f L):=rfl
  rw[h1]
  have h2:aCh f L=L:=by unfold aCh;rw[if_pos (h f AI)]
  rw[h2]
  exact aQr fs L fun g hg=>h g (AJ _ hg)
theorem bFd (a b:List Fl) (L:List Ext):aAy (a++b) L=aAy b (aAy a L):=by simp[aAy]
theorem aXk {α:Type} {q:α→Bool} {l:List α} {k:Nat} {x:α} (h:l[k]? =some x):(l.take (k+1)).filter q=(l.take k).filter q++(if q x then[x] else[]):=by
 rw[BN,h,B8]
 simp only[Option.toList_some,List.filter_cons,List.filter_nil]
theorem aXl (p:Jp) (hp:p.Ok) (J:Jb) (held:List (Fl×List T5)) (W0:Wk) (cd ca cs0:aAc) (hW0:Wc p.bd p.ba p.bs W0 cd ca cs0) (hJ0:aLf p J held W0) (ph:Option Addr) (hcap:Nat) (ch:aAc) (hV:Vec 27 4 ph held.length hcap (aAi (held.map (·.1))) ch)
  (rs:List Fl) (hfl:rs.length≤1000) (pa:Option Addr) (cap:Nat) (cf:aAc) (hVf:Vec 27 4 pa rs.length cap (aAi rs) cf):
  Ct AC 52 [pv p.bj,.slice pa rs.length cap] [aFa p.bj p.bw J.e ph held.length hcap,ch,aAh p.bw p.bd p.ba p.bs,cs0,cf] fun v H'=>
   ∃cs W,v= .int .i64 J.e∧H'=[aAh p.bw p.bd p.ba p.bs,cs,cf]∧Wc p.bd p.ba p.bs W cd ca cs∧bFc p J rs W:=by
 unfold aFa
 have hlen:=hJ0.len
 refine Ct.intro Tryz.func52 rfl Tryz.ntmps52 (nle rfl) fun w0=> ?_;dsimp only[aAa,AD]
 repeat(first|(refine st ?_;intros)|refine G.draw [] (h:= ?_))
 refine G.loop (X:=ResX) (fun x=>x.k≤held.length∧Wc p.bd p.ba p.bs x.W cd ca x.cs∧x.W.δ=W0.δ∧x.W.α=W0.α∧x.W.σ.n=W0.σ.n∧big W0.σ.free≤big x.W.σ.free∧x.W.live.Perm (aAy (((held.take x.k).filter (aGe J.e rs)++held.drop x.k).map (·.1)) p.L0))
  (fun x=>[(15,.int .i64 (x.k:Int)),(14,.int .i64 (held.length:Int)),(13,.slice ph held.length hcap),(1,.slice pa rs.length cap),(0,pv p.bj)])
  (fun x=>[[(p.bj,row [pv p.bw,.int .i64 J.e,.slice ph held.length hcap] 95)],ch,aAh p.bw p.bd p.ba p.bs,x.cs,cf]) (fun x=>held.length-x.k) ⟨0,cs0,W0⟩
  ⟨AS _,hW0,rfl,rfl,rfl,AG _,by simpa using hJ0.live⟩ (body:= ?_)
 rintro⟨k,cs,W⟩ ⟨hk,hW,hδ,hα,hσ,hbg,hl⟩
 dsimp only at hk hW hδ hα hσ hbg hl⊢
 by_cases hlt:k<held.length
 ·obtain⟨vb,rest,rfl,rfl,hvl,hmc,hcm⟩:∃b rest,ph=some ⟨b,0,none⟩∧ch=[(b,row (aAi (held.map (·.1))++rest) 27)]∧hcap*4≤(aAi (held.map (·.1))).length+rest.length∧held.length≤hcap∧hcap≤maxLen:=by
   rcases hV.2 with⟨_,e,_⟩|hh
   ·omega
   ·exact hh
  have hlk:held[k]? =some held[k]:=AE hlt
  have hget:=aJq (rest:=rest) hlk
  have htf:=aXk (q:=aGe J.e rs) hlk
  have hdr:=BM hlt
  generalize hc2:aAi (held.map (·.1))++rest=cells at*
  generalize hx:held[k]=x at*
  obtain⟨⟨x1,x2,x3,x4⟩,us⟩:=x
  dsimp only at hget
  have hfree:aGe J.e rs (⟨x1,x2,x3,x4⟩,us)=false→W.live.Perm (aCh ⟨x1,x2,x3,x4⟩ (aAy (((held.take (k+1)).filter (aGe J.e rs)++held.drop (k+1)).map (·.1)) p.L0)):=by
   intro hs
   rw[hs] at htf
   simp only[Bool.false_eq_true,if_false,AQ] at htf
   rw[hdr] at hl
   refine hl.trans ((aEd (b:=⟨x1,x2,x3,x4⟩::(((held.take (k+1)).filter (aGe J.e rs)++held.drop (k+1)).map (·.1))) ?_ _).trans (aDl _ _ _))
   rw[htf]
   simp only[AV,List.map_cons]
   exact B0
  have hstay:aGe J.e rs (⟨x1,x2,x3,x4⟩,us)=true→W.live.Perm (aAy (((held.take (k+1)).filter (aGe J.e rs)++held.drop (k+1)).map (·.1)) p.L0):=by
   intro hs
   rw[hs] at htf
   simp only[if_true] at htf
   rw[hdr] at hl
   rw[htf,AR,List.singleton_append]
   exact hl
  have hF:=fun Lv hl=>aKn p.bw p.bd p.ba p.bs W cd ca cs hW ⟨x1,x2,x3,x4⟩ Lv hl
  have hflv:flv ⟨x1,x2,x3,x4⟩= .agg #[.int .i64 (x1:Int),.int .i64 (x2:Int),.int .i64 (x3:Int),.int .i64 (x4:Int)]:=rfl
  rw[hflv] at hF
  repeat(first|(refine st ?_;intros)|refine G.draw [] (h:= ?_))
  rename_i b6
  refine G.loop (X:=Nat×Bool) (fun y=>y.1≤rs.length∧y.2=dec ((⟨x1,x2,x3,x4⟩:Fl)∈rs.take y.1))
   (fun y=>[(21,.int .i64 (y.1:Int)),(20,.int .i64 (rs.length:Int)),(19,.slice pa rs.length cap),(7,.bool y.2),(6,pv b6),(15,.int .i64 (k:Int)),(14,.int .i64 (held.length:Int)),(13,.slice (some ⟨vb,0,none⟩) held.length hcap),(1,.slice pa rs.length cap),(0,pv p.bj)])
   (fun _=>[[(b6,row [.int .i64 (x1:Int),.int .i64 (x2:Int),.int .i64 (x3:Int),.int .i64 (x4:Int)] 27)],[(p.bj,row [pv p.bw,.int .i64 J.e,.slice (some ⟨vb,0,none⟩) held.length hcap] 95)],[(vb,row cells 27)],aAh p.bw p.bd p.ba p.bs,cs,cf]) (fun y=>rs.length-y.1) (0,false) ⟨AS _,(aCm (by simp)).symm⟩ (body:= ?_)
  rintro⟨m,b⟩ ⟨hm,hb⟩
  dsimp only at hm hb⊢
  by_cases hlt2:m<rs.length
  ·obtain⟨fb,frest,rfl,rfl,hfr,hfc,hfm⟩:∃b rest,pa=some ⟨b,0,none⟩∧cf=[(b,row (aAi rs++rest) 27)]∧cap*4≤(aAi rs).length+rest.length∧rs.length≤cap∧cap≤maxLen:=by
    rcases hVf.2 with⟨_,e,_⟩|hh
    ·omega
    ·exact hh
   have hfk:rs[m]? =some rs[m]:=AE hlt2
   have hgf:=aJq (rs:=rs.map fun f=>(f,[])) (rest:=frest) (j:=m) (r:=(rs[m],[])) (by simp[hfk])
   rw[EE] at hgf
   have hid:(rs.map ((fun x:Fl×List T5=>x.1)∘fun f=>(f,[])))=rs:=by simp[Function.comp_def]
   rw[hid] at hgf
   have hb1:(⟨x1,x2,x3,x4⟩:Fl)∈rs.take (m+1)↔(⟨x1,x2,x3,x4⟩:Fl)∈rs.take m∨(⟨x1,x2,x3,x4⟩:Fl)=rs[m]:=by
    rw[BN,hfk,AO];simp
   generalize hf:rs[m]=f at*
   generalize hfcells:aAi rs++frest=fcs at*
   obtain⟨f1,f2,f3,f4⟩:=f
   dsimp only at hgf
   cases b with
   |true=>
    repeat(first|(refine st ?_;intros)|refine G.draw [] (h:= ?_))
    refine Dn.round (m+1,true) ⟨hlt2,(aBq (hb1.2 (.inl (aRi.1 hb.symm)))).symm⟩ (by dsimp only;omega)
   |false=>
    have hnm:¬(⟨x1,x2,x3,x4⟩:Fl)∈rs.take m:=fun h=>by rw[aBq h] at hb;cases hb
    repeat(first|(refine st ?_;intros)|refine G.draw [] (h:= ?_))
    refine Dn.round (m+1,dec ((f1:Int)=(x1:Int)∧(f2:Int)=(x2:Int)∧(f3:Int)=(x3:Int)∧(f4:Int)=(x4:Int))) ⟨hlt2,bCp ?_⟩ (by dsimp only;omega)
    rw[hb1,Fl.mk.injEq]
    constructor
    ·intro h;exact .inr (by omega)
    ·rintro(h|h)
     ·exact absurd h hnm
     ·omega
  ·obtain rfl:m=rs.length:=by omega
   rw[D9] at hb
   have hsb:aGe J.e rs (⟨x1,x2,x3,x4⟩,us)=(decide (J.e=0)&&b):=by
    unfold aGe
    rw[hb,aEa]
    congr 1
    rw[Bool.eq_iff_iff];simp
   cases b with
   |true=>
    by_cases he:J.e=0
    ·have hs:=hstay (by rw[hsb,decide_eq_true he];rfl)
     repeat(first|(refine st ?_;intros)|refine G.draw [] (h:= ?_))
     refine Dn.round ⟨k+1,cs,W⟩ ⟨hlt,hW,hδ,hα,hσ,hbg,hs⟩ (by dsimp only;omega)
    ·have hs:=hF _ (aDm.add (hfree (by rw[hsb,decide_eq_false he];rfl)))
     repeat(first|(refine st ?_;intros)|refine G.draw [] (h:= ?_))
     refine R.call (hct:=hs) (h:= ?_)
     rintro _ _ ⟨cs',W',rfl,rfl,hW',hE',hδ',hα',hl'⟩
     try dsimp only[AA,AB]
     repeat(first|(refine st ?_;intros)|refine G.draw [] (h:= ?_))
     refine Dn.round ⟨k+1,cs',W'⟩ ⟨hlt,hW',hδ'.trans hδ,hα'.trans hα,hE'.n.trans hσ,BA hbg hE'.big,by rw[hl']⟩ (by dsimp only;omega)
   |false=>
    have hs:=hF _ (aDm.add (hfree (by rw[hsb,Bool.and_false])))
    repeat(first|(refine st ?_;intros)|refine G.draw [] (h:= ?_))
    refine R.call (hct:=hs) (h:= ?_)
    rintro _ _ ⟨cs',W',rfl,rfl,hW',hE',hδ',hα',hl'⟩
    try dsimp only[AA,AB]
    repeat(first|(refine st ?_;intros)|refine G.draw [] (h:= ?_))
    refine Dn.round ⟨k+1,cs',W'⟩ ⟨hlt,hW',hδ'.trans hδ,hα'.trans hα,hE'.n.trans hσ,BA hbg hE'.big,by rw[hl']⟩ (by dsimp only;omega)
 ·obtain rfl:k=held.length:=by omega
  rw[D9,List.drop_length,AQ] at hl
  repeat(first|(refine st ?_;intros)|refine G.draw [] (h:= ?_))
  (refine Dn.post (Hr:=[aAh p.bw p.bd p.ba p.bs,cs,cf]) Tryz.results52 (hR:= ?_);refine⟨cs,W,rfl,rfl,hW,?_⟩)
  refine⟨by rw[hα];exact hJ0.gs,by rw[hα];exact hJ0.room,by rw[hδ];exact hJ0.size,hσ.trans hJ0.n,by rw[hδ];exact hJ0.keep,by rw[hδ];exact hJ0.flt,by rw[hδ];exact hJ0.acts,BA hJ0.tk (DD hbg _),?_,?_⟩
  ·rintro e0 G1 G2 hG rfl
   obtain⟨g1,g2⟩:=hJ0.ok e0
   have hp2:=g1.trans hG
   refine⟨?_,fun x hx=>by rw[hδ];exact hJ0.files x (hp2.mem_iff.2 (BO _ hx)),g2⟩
   refine hl.trans ((aEd ((hp2.filter _).map _) _).trans ?_)
   have h1:G1.filter (aGe J.e (G1.map (·.1)))=G1:=List.filter_eq_self.2 fun x hx=>by
    unfold aGe
    rw[decide_eq_true e0,DO]
    simp only[List.contains_iff_mem]
    exact AT.2 ⟨x,hx,rfl⟩
   rw[B8,h1,AV,bFd,aQr]
   intro f hf
   obtain⟨y,hy,rfl⟩:=AT.1 hf
   obtain⟨hy1,hy2⟩:=List.mem_filter.1 hy
   unfold aGe at hy2
   rw[decide_eq_true e0,DO,List.contains_iff_mem] at hy2
   obtain⟨x,hx1,hx2⟩:=AT.1 hy2
   by_cases hb:y.1.blocks=0
   ·exact hb
   ·exfalso
    obtain⟨a,b,rfl⟩:=D3 hy1
    have h3:W0.live.Perm (y.1.ext::aAy ((G1++(a++b)).map (·.1)) p.L0):=by
     refine hJ0.live.trans ((aEd (b:=y.1::(G1++(a++b)).map (·.1)) ?_ _).trans ((aDl _ _ _).trans ?_))
     ·refine(hp2.map _).trans ?_
      rw[←AR]
      refine(List.perm_middle.map _).trans ?_
      rw[AR];exact .refl _
     ·unfold aCh;rw[if_neg hb]
    have h5:=hW0.live.perm h3
    have h6:y.1.ext∈aAy ((G1++(a++b)).map (·.1)) p.L0:=aGv (AT.2 ⟨x,BO _ hx1,hx2⟩) hb
    have h7:=B7 h5.apart h6
    have h8:y.1.ext.2=y.1.blocks:=rfl
    omega
  ·intro e0
   refine⟨?_,hJ0.why e0⟩
   have h1:held.filter (aGe J.e rs)=[]:=List.filter_eq_nil_iff.2 fun x _=>by
    unfold aGe;rw[decide_eq_false e0];simp
   rw[h1] at hl
   exact hl
theorem bNi (p:Jp) (hp:p.Ok) (J:Jb) (C:aAc) (hJ:aQq p J C) (rs:List Fl) (hfl:rs.length≤1000) (pa:Option Addr) (cap:Nat) (cf:aAc) (hVf:Vec 27 4 pa rs.length cap (aAi rs) cf):
  Ct AC 52 [pv p.bj,.slice pa rs.length cap] [C,cf] fun v H'=>∃cd ca cs W,v= .int .i64 J.e∧H'=[aAh p.bw p.bd p.ba p.bs,cd,ca,cs,cf]∧Wc p.bd p.ba p.bs W cd ca cs∧bFc p J rs W:=by
 obtain⟨W,cd,ca,cs,held,ph,capj,ch,rfl,hW,hV,hJW⟩:=hJ
 refine Ct.convP (Ct.wide (aXl p hp J held W cd ca cs hW hJW ph capj ch hV rs hfl pa cap cf hVf) [cd,ca]) (by unfold aJf;refine aEk fun z=> ?_;simp only[AW,A8,AQ,A3,BI];omega) ?_
 rintro v H' ⟨H1,⟨cs',W',rfl,rfl,hW',hD⟩,rfl⟩
 refine⟨[aAh p.bw p.bd p.ba p.bs,cd,ca,cs',cf],⟨cd,ca,cs',W',rfl,rfl,hW',hD⟩,?_⟩
 refine aEk fun z=> ?_;simp only[AW,A8,AQ,A3,BI];omega
structure BegX where
 k:Nat
 ca:aAc
 α:Ar
theorem bBl {fs:List Fl} {rest:List Value} {j:Nat} {f:Fl} (h:fs[j]? =some f):
  ((aAi fs++rest).drop (j*4)).take 4=[.int .i64 (f.first:Int),.int .i64 (f.blocks:Int),.int .i64 (f.width:Int),.int .i64 (f.count:Int)]:=by
 have hgf:=aJq (rs:=fs.map fun f=>(f,[])) (rest:=rest) (j:=j) (r:=(f,[])) (by simp[h])
 rw[EE] at hgf
 have hid:(fs.map ((fun x:Fl×List T5=>x.1)∘fun f=>(f,[])))=fs:=by simp[Function.comp_def]
 rw[hid] at hgf
 exact hgf
theorem vecpos {E sz:Nat} {p:Option Addr} {m cap:Nat} {xs:List Value} {c:aAc} (h:Vec E sz p m cap xs c) (hm:0<m):∃b rest,p=some ⟨b,0,none⟩∧c=[(b,row (xs++rest) E)]∧cap*sz≤xs.length+rest.length∧m≤cap∧cap≤maxLen:=by
 rcases h.2 with⟨_,e,_⟩|hh
 ·omega
 ·exact hh
theorem aZn (bw bd ba bs:Nat) (W:Wk) (cd ca cs:aAc) (h:Wc bd ba bs W cd ca cs) (l:List (Fl×List T5)) (hl:∀x∈l,aBx W x) (hll:l.length≤1000) (pa:Option Addr) (cap:Nat) (cf:aAc) (hVf:Vec 27 4 pa l.length cap (aAi (l.map (·.1))) cf):
  Ct AC 41 [pv bw,.slice pa l.length cap] [aAh bw bd ba bs,cd,ca,cs,cf] fun v H'=>∃ca' α',Wc bd ba bs {W with α:=α'} cd ca' cs∧α'.gs.Perm W.α.gs∧α'.room=W.α.room∧
   ((8*W.δ.size≤W.α.room-W.α.used∧∃bj,v= .tuple #[pv bj,.int .i64 0]∧H'=[aFa bj bw 0 none 0 0,aAh bw bd ba bs,cd,ca',cs,cf])∨
    (W.α.room-W.α.used<8*W.δ.size∧v= .tuple #[.pointer none,.int .i64 7]∧H'=[aAh bw bd ba bs,cd,ca',cs,cf])):=by
 have hWA:=aGt bw bd ba bs
 have hWD:=aGs bw bd ba bs
 have hSz:=aGh bd W.δ cd h.dev
 obtain⟨⟨hs1,hs2⟩,_⟩:=h.dev.num
 have hmul:AH .i64 ((8:Int)*(W.δ.size:Int))=((8*W.δ.size:Nat):Int):=by rw[aAd (by omega)];omega
 unfold aFa
 refine Ct.intro Tryz.func41 rfl Tryz.ntmps41 (nle rfl) fun w0=> ?_;dsimp only[aAa,AD]
 repeat(first|(refine st ?_;intros)|(refine cq hWA ?_)|(refine cq hWD ?_)|(refine cq hLf ?_)|(refine cq hSz ?_))
 refine G.loop (X:=BegX) (fun x=>x.k≤l.length∧Wc bd ba bs {W with α:=x.α} cd x.ca cs∧x.α.gs.Perm W.α.gs∧x.α.room=W.α.room)
  (fun x=>[(14,.int .i64 (x.k:Int)),(13,.int .i64 (l.length:Int)),(12,.slice pa l.length cap),(0,pv bw)])
  (fun x=>[aAh bw bd ba bs,cd,x.ca,cs,cf]) (fun x=>l.length-x.k) ⟨0,ca,W.α⟩ ⟨AS _,h,.refl _,rfl⟩ (body:= ?_)
 rintro⟨k,ca1,α1⟩ ⟨hk,hW,hg,hrm⟩
 dsimp only at hk hW hg hrm⊢
 have hus:α1.used=W.α.used:=aKb h hW hg
 have hnum:=hW.ar.num
 dsimp only at hnum
 by_cases hlt:k<l.length
 ·obtain⟨fb,frest,rfl,rfl,hfr,hfc,hfm⟩:=vecpos hVf (by omega)
  have hfk:(l.map (·.1))[k]? =some (l[k]).1:=by simp[hlt]
  have hgf:=bBl (rest:=frest) hfk
  obtain⟨Lv,hfo,_⟩:=hl _ (List.getElem_mem hlt)
  have hRd:=aIk bw bd ba bs {W with α:=α1} cd ca1 cs hW (l[k]).1 (l[k]).2 Lv hfo
  have hRm:=bDo bw bd ba bs {W with α:=α1} cd ca1 cs hW (l[k]).1 hfo.w1 hfo.w2 hfo.cnt hfo.blk
  generalize (l[k]).2=ts at*
  generalize (l[k]).1=f at*
  generalize aAi (l.map (·.1))++frest=fcs at*
  obtain⟨f1,f2,f3,f4⟩:=f
  have hflv:flv ⟨f1,f2,f3,f4⟩= .agg #[.int .i64 (f1:Int),.int .i64 (f2:Int),.int .i64 (f3:Int),.int .i64 (f4:Int)]:=rfl
  rw[hflv] at hRd hRm
  dsimp only at hgf hRd hRm
  repeat(first|(refine st ?_;intros)|(refine cq hWA ?_)|(refine cq hWD ?_)|(refine cq hLf ?_)|(refine cq hSz ?_))
  by_cases hr:W.δ.size≤α1.room-α1.used
  ·have hRd2:=hRd hr
   refine R.call (hct:=hRd2) (h:= ?_)
   rintro _ _ ⟨bx,g,ca2,α2,cx,cb,rfl,rfl,hW2,hE2,hg2,hgn,hr2⟩
   try dsimp only[AA,AB]
   have hRc:=aMy bw bd ba bs {W with α:=α2} cd ca2 cs hW2 bx ⟨f1,f2,f3,f4⟩ ts g _ hg2 0 cx cb hr2
   repeat(first|(refine st ?_;intros)|(refine cq hWA ?_)|(refine cq hWD ?_)|(refine cq hLf ?_)|(refine cq hSz ?_))
   refine R.call (hct:=hRc) (h:= ?_)
   rintro _ _ ⟨ca5,α5,cx5,rfl,rfl,hW5,hE5,hg6,hx5⟩
   try dsimp only[AA,AB]
   repeat(first|(refine st ?_;intros)|(refine cq hWA ?_)|(refine cq hWD ?_)|(refine cq hLf ?_)|(refine cq hSz ?_))
   refine Dn.round ⟨k+1,ca5,α5⟩ ⟨hlt,hW5,hg6.trans hg,(hE5.room.trans hE2.room).trans hrm⟩ (by dsimp only;omega)
  ·have hR2:=hRm (by omega)
   refine R.call (hct:=hR2) (h:= ?_)
   rintro _ _ ⟨rfl,rfl⟩
   try dsimp only[AA,AB]
   repeat(first|(refine st ?_;intros)|(refine cq hWA ?_)|(refine cq hWD ?_)|(refine cq hLf ?_)|(refine cq hSz ?_))
   refine R.call (hct:=bBa) (h:= ?_)
   rintro _ _ ⟨rfl,rfl⟩
   try dsimp only[AA,AB]
   repeat(first|(refine st ?_;intros)|(refine cq hWA ?_)|(refine cq hWD ?_)|(refine cq hLf ?_)|(refine cq hSz ?_))
   refine Dn.round ⟨k+1,ca1,α1⟩ ⟨hlt,hW,hg,hrm⟩ (by dsimp only;omega)
 ·obtain rfl:k=l.length:=by omega
  have hLf:=bHz ba α1 ca1 hW.ar
  by_cases hr:8*W.δ.size≤W.α.room-W.α.used
  ·repeat(first|(refine st ?_;intros)|(refine cq hWA ?_)|(refine cq hWD ?_)|(refine cq hLf ?_)|(refine cq hSz ?_))
   rename_i bj
   (refine Dn.post (Hr:=[[(bj,row [pv bw,.int .i64 0,.slice none 0 0] 95)],aAh bw bd ba bs,cd,ca1,cs,cf]) Tryz.results41 (hR:= ?_);exact⟨ca1,α1,hW,hg,hrm,.inl ⟨hr,bj,rfl,rfl⟩⟩)
  ·repeat(first|(refine st ?_;intros)|(refine cq hWA ?_)|(refine cq hWD ?_)|(refine cq hLf ?_)|(refine cq hSz ?_))
   (refine Dn.post (Hr:=[aAh bw bd ba bs,cd,ca1,cs,cf]) Tryz.results41 (hR:= ?_);exact⟨ca1,α1,hW,hg,hrm,.inr ⟨by omega,rfl,rfl⟩⟩)
theorem bFe (x:Value):CtQ AC 41 [.pointer none,x] [] (.tuple #[.pointer none,.int .i64 1]):=by
 refine Ct.intro Tryz.func41 rfl Tryz.ntmps41 (nle rfl) fun w0=> ?_;dsimp only[aAa,AD]
 repeat(refine st ?_;intros)
 (refine Dn.post (Hr:=[]) Tryz.results41 (hR:= ?_);exact⟨rfl,rfl⟩)
def aLx (bw bd ba bs bj:Nat) (W:Wk):Jp:=⟨bw,bd,ba,bs,bj,W.δ.size,W.α.room,W.σ.n,W.α.gs,W.live,W.δ.disk,W.δ.fault≠-1,big W.σ.free⟩
theorem aVb {bw bd ba bs bj:Nat} {W:Wk} {cd ca cs ca':aAc} {α':Ar} (h:Wc bd ba bs W cd ca cs) (hW:Wc bd ba bs {W with α:=α'} cd ca' cs) (hg:α'.gs.Perm W.α.gs) (hr:α'.room=W.α.room) (hroom:8*W.δ.size≤W.α.room-W.α.used):
  (aLx bw bd ba bs bj W).Ok∧aQq (aLx bw bd ba bs bj W) ⟨0,none,[],W.δ.acts,0⟩ (aJf (aLx bw bd ba bs bj W) 0 cd ca' cs none 0 0 []):=by
 obtain⟨⟨hs1,hs2⟩,_⟩:=h.dev.num
 have h1:=h.ar.num.2.2.2
 have h2:=h.ar.num.1
 refine⟨⟨⟨hs1,hs2⟩,by show(W.α.gs.map (·.n)).sum+8*W.δ.size≤W.α.room;omega⟩,{W with α:=α'},cd,ca',cs,[],none,0,[],rfl,hW,Vec.nil _ _,?_⟩
 exact⟨hg,hr,rfl,rfl,.refl _,by simp,AS _,fun _ _=>rfl,fun hf=>by simpa[aLx] using hf,AG _,AG _,fun _=>⟨.refl _,rfl⟩,fun h0=>absurd rfl h0⟩
theorem aIn {bw bd ba bs bj:Nat} {W:Wk} {x:Fl×List T5} (h:aBx W x):In0 (aLx bw bd ba bs bj W) x:=h
namespace aAt
variable {K:Type} {M:aAt K}
theorem bad_none (h:∀k t,M.err k t=none):∀(ts:List T5) (k:K),M.bad k ts=none
 |[],_=>rfl
 |t::ts,k=>by simp only[bad,h];exact bad_none h ts _
theorem oks_of {ok:K→T5→Prop} {I:K→Prop} {Q:T5→Prop} (h:∀k t,I k→Q t→ok k t∧I (M.next k t)):∀(ts:List T5) (k:K),I k→(∀t∈ts,Q t)→M.oks ok k ts
 |[],_,_,_=>trivial
 |t::ts,k,hI,hQ=>by
  obtain⟨h1,h2⟩:=h k t hI (hQ t AI)
  exact⟨h1,fun _=>oks_of h ts _ h2 fun u hu=>hQ u (AJ _ hu)⟩
end aAt
def mMap (g:T5→T5):aAt Unit:=⟨fun _=>[],fun _ t=>[g t],fun _ _=>(),fun _ _=>none⟩
theorem aSd (g:T5→T5):∀(ts:List T5) (k:Unit),(mMap g).all k ts=ts.map g
 |[],_=>rfl
 |t::ts,k=>by simp only[aAt.all,aSd g ts];rfl
def bIy (R:Value→aAc→Prop) (v:Value) (H':Hp):Prop:=∃X',H'=[X']∧R v X'
def PutC (bx:Nat) (t:T5) (X:aAc) (R:Value→aAc→Prop):Prop:=Ct AC 74 [pv bx,tv t] [X] (bIy R)
theorem aGi.tail {g:T5→T5} {kk mk:Nat} {okt:T5→Prop} (hmk:∀bx t X R,PutC bx (g t) X R→Ct AC mk [tv t,aWf bx] [X] (bIy R)) (hok:∀t,okt t→okT kk (g t)):aGi (mMap g) kk (fun _ t=>okt t) mk [] []:=by
 intro bx Pst Br bnd hP ps X k t hX hk hb
 refine(hmk bx t X _ (hP ps X (g t) hX (hok t hk) (by simp[mMap] at hb;omega))).mono ?_
 rintro v H' ⟨X',rfl,hR⟩
 rcases hR with⟨rfl,hX'⟩|⟨rfl,hB⟩
 ·exact⟨X',(),rfl,.inl ⟨rfl,rfl,rfl,hX'⟩⟩
 ·exact⟨X',(),rfl,.inr (.inl ⟨rfl,hB⟩)⟩
theorem aHp:aBa (-1):=⟨by decide,by decide⟩
theorem aKv:aBa 0:=⟨by decide,by decide⟩
theorem aCb (x:Int):aBa (AH .i64 x):=by
 have h1:(9223372036854775808:Int)=2^(64-1):=by decide
 unfold aBa
 simp only[AH,IntKind.bits,IntKind.signed,DO,decide_eq_true_eq,←h1]
 split<;>omega
theorem aBm {k:Nat} {t:T5} (h:okT k t):aBa t.c0∧aBa t.c1∧aBa t.c2∧aBa t.c3∧aBa t.c4:=
 ⟨h.1 _ (by simp[T5.toList]),h.1 _ (by simp[T5.toList]),h.1 _ (by simp[T5.toList]),h.1 _ (by simp[T5.toList]),h.1 _ (by simp[T5.toList])⟩
theorem bIz {k:Nat} {a b c d e:Int} (ha:aBa a) (hb:aBa b) (hc:aBa c) (hd:aBa d) (he:aBa e) (h0:k≤0→a=0) (h1:k≤1→b=0) (h2:k≤2→c=0) (h3:k≤3→d=0) (h4:k≤4→e=0):okT k ⟨a,b,c,d,e⟩:=by
 refine⟨fun x hx=> ?_,fun i hi=> ?_⟩
 ·simp only[T5.toList,AM,List.not_mem_nil,or_false] at hx
  rcases hx with rfl|rfl|rfl|rfl|rfl<;>assumption
 ·match i with
  |0=>exact h0 hi
  |1=>exact h1 hi
  |2=>exact h2 hi
  |3=>exact h3 hi
  |4=>exact h4 hi
  |n+5=>rfl
theorem okT5 {a b c d e:Int} (ha:aBa a) (hb:aBa b) (hc:aBa c) (hd:aBa d) (he:aBa e):okT 5 ⟨a,b,c,d,e⟩:=
 bIz ha hb hc hd he (by omega) (by omega) (by omega) (by omega) (by omega)
theorem okT1 {a:Int} (ha:aBa a):okT 1 ⟨a,0,0,0,0⟩:=bIz ha aKv aKv aKv aKv (by omega) (by simp) (by simp) (by simp) (by simp)
theorem bBm {a b:Int} (ha:aBa a) (hb:aBa b):okT 2 ⟨a,b,0,0,0⟩:=bIz ha hb aKv aKv aKv (by omega) (by omega) (by simp) (by simp) (by simp)
theorem bKv {a b c:Int} (ha:aBa a) (hb:aBa b) (hc:aBa c):okT 3 ⟨a,b,c,0,0⟩:=bIz ha hb hc aKv aKv (by omega) (by omega) (by omega) (by simp) (by simp)
theorem bNj (x:Fl×List T5):cat [x]=x.2:=by simp[cat]
theorem bNk (x y:Fl×List T5):cat [x,y]=x.2++y.2:=by simp[cat]
theorem vec1 (b:Nat) (f:Fl):Vec 27 4 (some ⟨b,0,none⟩) [f].length 1 (aAi [f]) [(b,row (fl4 f) 27)]:=
 ⟨rfl,.inr ⟨b,[],rfl,by simp[aAi,fl4],by simp[aAi],by simp,by decide⟩⟩
theorem vec2 (b:Nat) (f g:Fl):Vec 27 4 (some ⟨b,0,none⟩) [f,g].length 2 (aAi [f,g]) [(b,row (fl4 f++fl4 g) 27)]:=
 ⟨rfl,.inr ⟨b,[],rfl,by simp[aAi,fl4],by simp[aAi],by simp,by decide⟩⟩
theorem aNf (x:Option Nat):x.or none=x:=by cases x<;>rfl
theorem JRunK (p:Jp) (hp:p.Ok) (J:Jb) (C:aAc) (hJ:aQq p J C) (mk:Nat) (hcal:Callable AC mk) (us:List Value) (Hx:Hp) (A T:Nat) (er:Option Nat) (ts:List T5) (R:Fl→Int→Prop) (hst:J.e=0→aFy p J mk us Hx A T er ts fun f e Hx'=>Hx'=Hx∧R f e) (hGl:J.G.length≤1000):
  Ct AC 45 [pv p.bj,.func (.func mk) #[] us.toArray] (C::Hx) fun v H'=>∃f C' e',v=flv f∧H'=C'::Hx∧aQq p ⟨e',J.er.or er,(f,ts)::J.G,J.acts+A,J.took+T⟩ C'∧
   ((J.e=0∧R f e')∨(J.e≠0∧e'=J.e∧f=⟨0,0,0,0⟩)):=by
 refine(JRun p hp J C hJ mk hcal us Hx A T er ts _ hst hGl).mono ?_
 rintro v H' ⟨f,C',e',Hx',h1,rfl,h3,⟨h4,rfl,h5⟩|⟨h4,h5,h6,rfl⟩⟩
 ·exact⟨f,C',e',h1,rfl,h3,.inl ⟨h4,h5⟩⟩
 ·exact⟨f,C',e',h1,rfl,h3,.inr ⟨h4,h5,h6⟩⟩
def WSt (bw bx first nb k bound:Nat) (g:Gr) (base:List Gr) (Lv:List Ext) (W:Wk) (cx cb:aAc):Prop:=
 (W.α.gs.Perm (g::base)∧aDm first nb Lv W.live∧∃ps,aIa bw bx W first nb k bound g ps cx cb)∨(W.α.gs.Perm base∧W.live.Perm Lv∧aDy bx cx)
theorem Cd.wide {P:Program} {f:FuncId} {args:List Value} {Hf:Hp} {R:Value→Hp→Prop} (h:Cd P f args Hf R) (F:Hp):Cd P f args (Hf++F) fun v H'=>∃H1,R v H1∧H'=H1++F:=by
 unfold Cd at h⊢
 intro u w hw
 refine(h u w hw.self).mono ?_
 rintro e u' w' ⟨hu,v,H',h3,h4,h5⟩
 exact⟨hu,v,H'++F,h3,⟨H',h4,rfl⟩,hw.framed h5⟩
theorem aDz (bw bd ba bs:Nat) (W:Wk) (cd ca cs:aAc) (h:Wc bd ba bs W cd ca cs) (bx first nb k bound:Nat) (g:Gr) (base:List Gr) (Lv:List Ext) (cx cb:aAc) (hw:WSt bw bx first nb k bound g base Lv W cx cb):
  Cd AC 75 [pv bx] [aAh bw bd ba bs,cd,ca,cs,cx,cb] fun v H'=>
   ∃cd' ca' cs' W' cx' cb',H'=[aAh bw bd ba bs,cd',ca',cs',cx',cb']∧Wc bd ba bs W' cd' ca' cs'∧Ev W W' 0 0∧W'.δ=W.δ∧W'.α.gs.Perm base∧W'.live.Perm Lv:=by
 rcases hw with⟨h1,h2,ps,h3⟩|⟨h1,h2,h3⟩
 ·refine Cd.conv (aWx bw bd ba bs W cd ca cs h bx first nb k bound g ps cx cb h3 base h1 Lv h2).2 (.refl _) ?_
  rintro v H' ⟨cd',ca',cs',W',cx',cb',_,rfl,a1,a2,a3,a4,a5,_⟩
  exact⟨_,⟨cd',ca',cs',W',cx',cb',rfl,a1,a2,a3,a4,a5⟩,.refl _⟩
 ·refine Cd.conv (Cd.wide (aEs bx cx h3).2 [aAh bw bd ba bs,cd,ca,cs,cb]) (aEk fun z=>by simp only[AW,A8,AQ,A3,BI];omega) ?_
  rintro v H' ⟨H1,⟨_,rfl⟩,rfl⟩
  exact⟨_,⟨cd,ca,cs,W,cx,cb,rfl,h,Ev.refl W,rfl,h1,h2⟩,aEk fun z=>by simp only[AW,A8,AQ,A3,BI];omega⟩
theorem bNl (bw bd ba bs:Nat) (W:Wk) (cd ca cs:aAc) (h:Wc bd ba bs W cd ca cs) (bx first nb k bound:Nat) (g:Gr) (ps:List T5) (cx cb:aAc) (hw:aIa bw bx W first nb k bound g ps cx cb) (Gs:List Gr) (hg:W.α.gs.Perm (g::Gs))
  (Lv:List Ext) (hl:aDm first nb Lv W.live) (hlt:ps.length<bound) (t:T5) (ht:okT k t) (hac:W.δ.acts≤1000000000000) (hh:1≤aAf W.δ.size k):
  Ct AC 74 [pv bx,tv t] [aAh bw bd ba bs,cd,ca,cs,cx,cb] fun v H'=>
   ∃cd' ca' cs' W' cx' cb' e,v= .int .i64 e∧H'=[aAh bw bd ba bs,cd',ca',cs',cx',cb']∧Wc bd ba bs W' cd' ca' cs'∧Ev W W' 1 0∧aBr Lv W W'∧
    ((e=0∧W'.α.gs.Perm (g::Gs)∧aDm first nb Lv W'.live∧aIa bw bx W' first nb k bound g (ps++[t]) cx' cb')∨(e=6∧W.δ.fault≠-1∧WSt bw bx first nb k bound g Gs Lv W' cx' cb')):=by
 refine(bId bw bd ba bs W cd ca cs h bx first nb k bound g ps cx cb hw Gs hg Lv hl hlt t ht hac).mono ?_
 rintro v H' ⟨cd',ca',cs',W',cx',cb',rfl,hW',hE',hK',hc⟩
 have hE1:Ev W W' 1 0:=hE'.weak (by
  have h2:(ps.length+1)/aAf W.δ.size k≤ps.length/aAf W.δ.size k+1:=by
   calc (ps.length+1)/aAf W.δ.size k≤(ps.length+aAf W.δ.size k)/aAf W.δ.size k:=BY (by omega)
    _=ps.length/aAf W.δ.size k+1:=Nat.add_div_right _ (by omega)
  omega) (AG _)
 rcases hc with⟨rfl,e1,e2,e3,e4⟩|⟨rfl,e1,e2,e3,e4,e5⟩
 ·exact⟨cd',ca',cs',W',cx',cb',0,rfl,rfl,hW',hE1,hK',.inl ⟨rfl,by rw[e1];exact hg,by rw[e3];exact hl,e4⟩⟩
 ·exact⟨cd',ca',cs',W',cx',cb',6,rfl,rfl,hW',hE1,hK',.inr ⟨rfl,by omega,.inr ⟨e3,e4,e5⟩⟩⟩
theorem aXm (bw bd ba bs:Nat) (W:Wk) (cd ca cs:aAc) (h:Wc bd ba bs W cd ca cs) (bx first nb k bound:Nat) (g:Gr) (ps:List T5) (cx cb:aAc) (hw:aIa bw bx W first nb k bound g ps cx cb) (Gs:List Gr) (hg:W.α.gs.Perm (g::Gs))
  (Lv:List Ext) (hl:aDm first nb Lv W.live) (hac:W.δ.acts≤1000000000000) (hh:1≤aAf W.δ.size k):
  Ct AC 76 [pv bx] [aAh bw bd ba bs,cd,ca,cs,cx,cb] fun v H'=>
   ∃cd' ca' cs' W' cx' cb' f e,v= .tuple #[flv f,.int .i64 e]∧H'=[aAh bw bd ba bs,cd',ca',cs',cx',cb']∧Wc bd ba bs W' cd' ca' cs'∧Ev W W' 1 0∧aBr Lv W W'∧W'.α.gs.Perm Gs∧aDy bx cx'∧
    ((e=0∧W'.live.Perm (aCh f Lv)∧f.width=k∧f.count=ps.length∧aAq W'.δ.disk W.δ.size [f.ext] f ps)∨(e=6∧f=⟨0,0,0,0⟩∧W.δ.fault≠-1∧W'.live.Perm Lv)):=by
 refine(aOd bw bd ba bs W cd ca cs h bx first nb k bound g ps cx cb hw Gs hg Lv hl hac).mono ?_
 rintro v H' ⟨cd',ca',cs',W',cx',cb',rfl,hW',hE',hK',hg',hx',hc⟩
 have hE1:Ev W W' 1 0:=hE'.weak (by
  unfold aAb
  have h1:(ps.length+aAf W.δ.size k-1)/aAf W.δ.size k≤(ps.length+aAf W.δ.size k)/aAf W.δ.size k:=BY (by omega)
  rw[Nat.add_div_right _ (by omega)] at h1
  omega) (AG _)
 rcases hc with⟨f,rfl,e1,e2,e3,e4⟩|⟨rfl,e1,e2,e3⟩
 ·exact⟨cd',ca',cs',W',cx',cb',f,0,rfl,rfl,hW',hE1,hK',hg',hx',.inl ⟨rfl,by rw[e1];exact .refl _,e2,e3,e4⟩⟩
 ·exact⟨cd',ca',cs',W',cx',cb',⟨0,0,0,0⟩,6,rfl,rfl,hW',hE1,hK',hg',hx',.inr ⟨rfl,rfl,by omega,e3⟩⟩
def RSt (bw bx:Nat) (f:Fl) (ts:List T5) (g:Gr) (base:List Gr) (W:Wk) (cx cb:aAc):Prop:=
 (W.α.gs.Perm (g::base)∧∃pos,aGo bw bx W f ts g pos cx cb)∨(W.α.gs.Perm base∧aDf bx cx)
theorem aBh (bw bd ba bs:Nat) (W:Wk) (cd ca cs:aAc) (h:Wc bd ba bs W cd ca cs) (bx:Nat) (f:Fl) (ts:List T5) (g:Gr) (base:List Gr) (cx cb:aAc) (hr:RSt bw bx f ts g base W cx cb):
  Cd AC 54 [pv bx] [aAh bw bd ba bs,ca,cx] fun v H'=>
   ∃ca' α' cx',H'=[aAh bw bd ba bs,ca',cx']∧Wc bd ba bs {W with α:=α'} cd ca' cs∧Ev W {W with α:=α'} 0 0∧α'.gs.Perm base:=by
 rcases hr with⟨h1,pos,h2⟩|⟨h1,h2⟩
 ·refine Cd.conv (aDi bw bd ba bs W cd ca cs h bx f ts g base h1 pos cx cb h2).2 (.refl _) ?_
  rintro v H' ⟨ca',α',cx',_,rfl,a1,a2,a3,_⟩
  exact⟨_,⟨ca',α',cx',rfl,a1,a2,a3⟩,.refl _⟩
 ·refine Cd.conv (Cd.wide (aJd bx cx h2).2 [aAh bw bd ba bs,ca]) (aEk fun z=>by simp only[AW,A8,AQ,A3,BI];omega) ?_
  rintro v H' ⟨H1,⟨_,rfl⟩,rfl⟩
  exact⟨_,⟨ca,W.α,cx,rfl,h,Ev.refl W,h1⟩,aEk fun z=>by simp only[AW,A8,AQ,A3,BI];omega⟩
structure Mkr (K:Type) where
 own:K→List Gr
 C:K→aAc
 J:Wk→K→Nat→Prop
 E:Wk→K→Prop
 pot:K→Nat
structure Mkr.Ok {K:Type} (Z:Mkr K) (Lv:List Ext):Prop where
 stay:∀W W' r i,Z.J W r i→W'.δ.size=W.δ.size→aBr Lv W W'→(∀e∈Lv,e∈W'.live)→(W.δ.fault= -1→W'.δ.fault= -1)→Z.J W' r i
 fin:∀W r i,Z.J W r i→Z.E W r
 stayE:∀W W' r,Z.E W r→W'.δ.size=W.δ.size→Z.E W' r
def MkrCt (bw bd ba bs:Nat) {K:Type} (Z:Mkr K) (size room:Nat) (ts:List T5) (out:Nat→T5) (fid:Nat) (fs us:List Value):Prop:=
 ∀(base:List Gr) (W:Wk) (cd ca cs:aAc) (r:K) (i:Nat) (t:T5),Wc bd ba bs W cd ca cs→W.α.gs.Perm (Z.own r++base)→W.α.room=room→W.δ.size=size→Z.J W r i→ts[i]? =some t→W.δ.acts≤100000000000→
  Ct AC fid (fs++[tv t]++us) [aAh bw bd ba bs,cd,ca,cs,Z.C r] fun v H'=>
   ∃cd' ca' W' r' u k e,v= .tuple #[tv u,.bool k,.int .i64 e]∧H'=[aAh bw bd ba bs,cd',ca',cs,Z.C r']∧Wc bd ba bs W' cd' ca' cs∧Ev W W' (Z.pot r'-Z.pot r) 0∧W'.δ.disk=W.δ.disk∧W'.σ=W.σ∧W'.live=W.live∧Z.pot r≤Z.pot r'∧W'.α.gs.Perm (Z.own r'++base)∧
    ((e=0∧k=true∧u=out i∧Z.J W' r' (i+1))∨(e=6∧W.δ.fault≠-1∧Z.E W' r'))
def aCz (out:Nat→T5) (i:Nat):List T5:=(List.range i).map out
theorem aGx (out:Nat→T5) (i:Nat):(aCz out i).length=i:=by simp[aCz]
theorem aOo (out:Nat→T5) (i:Nat):aCz out (i+1)=aCz out i++[out i]:=by simp[aCz,List.range_succ]
structure EachJX (K:Type) where
 i:Nat
 cd:aAc
 ca:aAc
 cs:aAc
 cx:aAc
 cb:aAc
 cy:aAc
 cc:aAc
 W:Wk
 r:K
theorem aOp {x y:Gr} {a b:List Gr}:(a++(x::y::b)).Perm (x::y::(a++b)):=B0.trans (List.perm_middle.cons _)
theorem bNm (bw bd ba bs:Nat) {K:Type} (Z:Mkr K) (W:Wk) (cd ca cs:aAc) (h:Wc bd ba bs W cd ca cs) (hZ:Z.Ok W.live) (f:Fl) (ts:List T5) (LvF:List Ext) (hfo:aAq W.δ.disk W.δ.size LvF f ts) (hsub:∀e∈LvF,e∈W.live)
  (width:Nat) (hw1:1≤width) (hw5:width≤5) (out:Nat→T5) (hout:∀i,i<f.count→okT width (out i)) (fid:Nat) (hcal:Callable AC fid) (fs us:List Value) (hmk:MkrCt bw bd ba bs Z W.δ.size W.α.room ts out fid fs us)
  (r:K) (base:List Gr) (hg:W.α.gs.Perm (Z.own r++base)) (hJ:Z.J W r 0) (P:Nat) (hP:∀W r,Z.E W r→Z.pot r≤P) (hPb:P≤1000000)
  (hr:2*W.δ.size≤W.α.room-W.α.used) (hfit:aAb W.δ.size width f.count≤big W.σ.free) (hac:W.δ.acts≤1000000000) (hcn:f.count≤1000000):
  Ct AC 86 [pv bw,flv f,.int .i64 (width:Int),.func (.func fid) fs.toArray us.toArray] [aAh bw bd ba bs,cd,ca,cs,Z.C r] fun v H'=>
   ∃cd' ca' cs' W' r' f' e,v= .tuple #[flv f',.int .i64 e]∧H'=[aAh bw bd ba bs,cd',ca',cs',Z.C r']∧Wc bd ba bs W' cd' ca' cs'∧Ev W W' (f.blocks+f.count+1+P) (aAb W.δ.size width f.count)∧aBr W.live W W'∧W'.α.gs.Perm (Z.own r'++base)∧Z.E W' r'∧
    ((e=0∧W'.live.Perm (aCh f' W.live)∧f'.width=width∧f'.count=f.count∧aAq W'.δ.disk W.δ.size [f'.ext] f' (aCz out f.count))∨(e=6∧f'=⟨0,0,0,0⟩∧W.δ.fault≠-1∧W'.live.Perm W.live)):=by
 obtain⟨⟨hs1,hs2⟩,_⟩:=h.dev.num
 have htl:=hfo.len
 have hk1:=hfo.w1
 have hk5:=hfo.w2
 have hfb:=hfo.blk
 have hp:=aAj hs1 hk1 hk5
 have hRd:=aIk bw bd ba bs W cd ca cs h f ts LvF hfo (by omega)
 have hflv:flv f= .agg #[.int .i64 (f.first:Int),.int .i64 (f.blocks:Int),.int .i64 (f.width:Int),.int .i64 (f.count:Int)]:=rfl
 have hz0:flv ⟨0,0,0,0⟩= .agg #[.int .i64 0,.int .i64 0,.int .i64 0,.int .i64 0]:=rfl
 have hz:tv T5.zero= .agg #[.int .i64 T5.zero.c0,.int .i64 T5.zero.c1,.int .i64 T5.zero.c2,.int .i64 T5.zero.c3,.int .i64 T5.zero.c4]:=rfl
 have hbad:∀(W':Wk) (cd' ca' cs':aAc) (r':K) (kk:Nat),Wc bd ba bs W' cd' ca' cs'→Ev W W' kk (aAb W.δ.size width f.count)→kk≤f.blocks+f.count+1+P→aBr W.live W W'→W'.α.gs.Perm (Z.own r'++base)→Z.E W' r'→W.δ.fault≠-1→W'.live.Perm W.live→
   ∃cd'' ca'' cs'' W'' r'' f' e,Value.tuple #[.agg #[.int .i64 0,.int .i64 0,.int .i64 0,.int .i64 0],.int .i64 6]= .tuple #[flv f',.int .i64 e]∧[aAh bw bd ba bs,cd',ca',cs',Z.C r']=[aAh bw bd ba bs,cd'',ca'',cs'',Z.C r'']∧Wc bd ba bs W'' cd'' ca'' cs''∧Ev W W'' (f.blocks+f.count+1+P) (aAb W.δ.size width f.count)∧aBr W.live W W''∧W''.α.gs.Perm (Z.own r''++base)∧Z.E W'' r''∧
    ((e=0∧W''.live.Perm (aCh f' W.live)∧f'.width=width∧f'.count=f.count∧aAq W''.δ.disk W.δ.size [f'.ext] f' (aCz out f.count))∨(e=6∧f'=⟨0,0,0,0⟩∧W.δ.fault≠-1∧W''.live.Perm W.live)):=
  fun W' cd' ca' cs' r' kk a1 a2 a3 a4 a5 a6 a7 a8=>⟨cd',ca',cs',W',r',⟨0,0,0,0⟩,6,rfl,rfl,a1,a2.weak a3 (AG _),a4,a5,a6,.inr ⟨rfl,rfl,a7,a8⟩⟩
 rw[hflv] at hRd⊢
 refine Ct.introD Tryz.func86 rfl Tryz.ntmps86 (nle rfl) fun w0=> ?_;dsimp only[aAa,AD]
 repeat(refine st ?_;intros)
 rename_i b5 b8
 refine R.call (hct:=hRd) (h:= ?_)
 rintro _ _ ⟨bx,g,ca1,α1,cx,cb,rfl,rfl,hW1,hE1,hg1,hgn,hr1⟩
 try dsimp only[AA,AB]
 have hu1:α1.used=W.α.used+W.δ.size:=by
  have:=hW1.ar.num.2.2.2
  dsimp only at this
  rw[this,(hg1.map (·.n)).sum_nat,h.ar.num.2.2.2];simp[hgn];omega
 have hrm1:α1.room=W.α.room:=hE1.room
 have hWr:=aJy bw bd ba bs {W with α:=α1} cd ca1 cs hW1 width f.count hw1 hw5 (by omega) (by dsimp only;omega)
 dsimp only at hWr
 repeat(refine st ?_;intros)
 refine R.call (hct:=hWr) (h:= ?_)
 rintro _ _ (⟨_,bx2,first,g2,cd2,ca2,cs2,W2,cy,cc,rfl,rfl,hW2,hE2,e1,e2,e3,e4,e5⟩|⟨hfull,_⟩)
 rotate_left
 ·exact absurd hfit (by omega)
 dsimp only[AA,AB]
 have hE12:=hE1.trans hE2
 have hK2:aBr W.live W W2:=fun x _=>by rw[e1]
 have hs2z:W2.δ.size=W.δ.size:=hE12.size
 have hJ2:Z.J W2 r 0:=hZ.stay _ _ _ _ hJ hs2z hK2 (fun e he=>e4.mem he) hE12.fault
 have hg2':W2.α.gs.Perm (g2::g::(Z.own r++base)):=e2.trans ((hg1.trans (hg.cons _)).cons _)
 repeat(refine st ?_;intros)
 refine G.loop (X:=EachJX K) (fun x=>x.i≤f.count∧Wc bd ba bs x.W x.cd x.ca x.cs∧Ev W x.W (aAb W.δ.size f.width x.i+x.i+(Z.pot x.r-Z.pot r)) (aAb W.δ.size width f.count)∧Z.pot r≤Z.pot x.r∧x.W.α.gs.Perm (g2::g::(Z.own x.r++base))∧Z.J x.W x.r x.i∧
   aGo bw bx x.W f ts g x.i x.cx x.cb∧aIa bw bx2 x.W first (aAb W.δ.size width f.count) width f.count g2 (aCz out x.i) x.cy x.cc∧aDm first (aAb W.δ.size width f.count) W.live x.W.live∧aBr W.live W x.W)
  (fun _=>[(12,pv bx2),(13,.func (.func 55) #[pv bx] #[]),(3,.func (.func fid) fs.toArray us.toArray),(8,pv b8)])
  (fun x=>[[(b8,row [.int .i64 0,.int .i64 0,.int .i64 0,.int .i64 0] 27)],aAh bw bd ba bs,x.cd,x.ca,x.cs,Z.C x.r,x.cx,x.cb,x.cy,x.cc]) (fun x=>f.count-x.i) ⟨0,cd2,ca2,cs2,cx,cb,cy,cc,W2,r⟩
  ⟨AS _,hW2,hE12.weak (AS _) (by omega),AG _,hg2',hJ2,hr1.move hE2.size,by rw[←hs2z] at e5⊢;exact e5,e4,hK2⟩ (body:= ?_)
 rintro⟨i,cd3,ca3,cs3,cx3,cb3,cy3,cc3,W3,r3⟩ ⟨hi,hW3,hE3,hpo3,hg3,hJ3,hrd3,hwr3,hl3,hK3⟩
 dsimp only at hi hW3 hE3 hpo3 hg3 hJ3 hrd3 hwr3 hl3 hK3⊢
 have hsz3:W3.δ.size=W.δ.size:=hE3.size
 have hac3:=hE3.acts.2
 have hmi:aAb W.δ.size f.width i≤f.blocks:=by rw[hfb];exact aAk hi
 have hbn:=aAv (n:=f.count) hp
 have hpr3:=hP W3 r3 (hZ.fin _ _ _ hJ3)
 have hfo3:aAq W3.δ.disk W3.δ.size LvF f ts:=by rw[hsz3];exact hfo.keep fun x ⟨e,he,h2⟩=>hK3 x ⟨e,hsub e he,h2⟩
 have hsub3:∀e∈LvF,e∈W3.live:=fun e he=>hl3.mem (hsub e he)
 by_cases hlt:i<f.count
 ·have htg:ts[i]? =some ts[i]:=AE (by omega)
  have hgn3:W3.α.gs.Perm (g::(g2::(Z.own r3++base))):=hg3.trans (.swap _ _ _)
  have hNx:=aJp bw bd ba bs W3 cd3 ca3 cs3 hW3 bx f ts LvF hfo3 hsub3 g _ hgn3 i cx3 cb3 hrd3 _ htg (by omega)
  have htv:tv ts[i]= .agg #[.int .i64 (ts[i]).c0,.int .i64 (ts[i]).c1,.int .i64 (ts[i]).c2,.int .i64 (ts[i]).c3,.int .i64 (ts[i]).c4]:=rfl
  rw[htv,hz,hsz3] at hNx
  have hS0:=fun W cd ca cs=>hmk (g2::g::base) W cd ca cs r3 i ts[i]
  generalize ht:ts[i]=t at*
  have htv2:tv t= .agg #[.int .i64 t.c0,.int .i64 t.c1,.int .i64 t.c2,.int .i64 t.c3,.int .i64 t.c4]:=rfl
  have hm1:aAb W.δ.size f.width (i+1)≤f.blocks:=by rw[hfb];exact aAk hlt
  have hm2:aAb W.δ.size f.width i≤aAb W.δ.size f.width (i+1):=aAk (by omega)
  repeat(refine st ?_;intros)
  refine R.callV (fs:=[pv bx]) (vs:=[]) (hf:=inferInstance) (hct:=hNx) (h:= ?_)
  rintro _ _ ⟨cd4,ca4,W4,cx4,cb4,rfl,hW4,hE4,hd4,hσ4,hl4,⟨rfl,hα4,hr4⟩|⟨rfl,hf4,hδ4,hg4,hx4⟩⟩<;>dsimp only[AA,AB]
  ·have hE34:=hE3.trans hE4
   have hK4:aBr W.live W3 W4:=fun x _=>by rw[hd4]
   have hJ4:Z.J W4 r3 i:=hZ.stay _ _ _ _ hJ3 hE4.size hK4 (fun e he=>by rw[hl4];exact hl3.mem he) hE4.fault
   have hac4:=hE34.acts.2
   have hgp:W4.α.gs.Perm (Z.own r3++(g2::g::base)):=by rw[hα4];exact hg3.trans aOp.symm
   have hS:=hS0 W4 cd4 ca4 cs3 hW4 hgp hE34.room hE34.size hJ4 htg (by omega)
   rw[htv2] at hS
   repeat(refine st ?_;intros)
   apply R.callV
   ·exact rfl
   ·exact hcal
   ·exact rfl
   ·exact hS
   ·exact(by repeat(first|exact aAo.nil|(apply aAo.cons;·(repeat(first|exact aAn.here|apply aAn.there|exact aAn.nil)))))
   ·exact rfl
   ·exact nle rfl
   rintro _ _ ⟨cd5,ca5,W5,r5,u,k,e,rfl,rfl,hW5,hE5,hd5,hσ5,hl5,hpo5,hg5,hc⟩
   dsimp only[AA,AB]
   have hE35:=hE34.trans hE5
   have hs5:W5.δ.size=W.δ.size:=hE35.size
   have hrd5:aGo bw bx W5 f ts g (i+1) cx4 cb4:=hr4.move hE5.size
   have hwr5:aIa bw bx2 W5 first (aAb W.δ.size width f.count) width f.count g2 (aCz out i) cy3 cc3:=hwr3.move (hE4.trans hE5).size (fun x _ _=>by rw[hd5,hd4])
   have hl5':aDm first (aAb W.δ.size width f.count) W.live W5.live:=by rw[hl5,hl4];exact hl3
   have hK5:aBr W.live W W5:=fun x hx=>by rw[hd5,hd4];exact hK3 x hx
   have hg5':W5.α.gs.Perm (g2::g::(Z.own r5++base)):=hg5.trans aOp
   have htu:tv u= .agg #[.int .i64 u.c0,.int .i64 u.c1,.int .i64 u.c2,.int .i64 u.c3,.int .i64 u.c4]:=rfl
   have hac5:=hE35.acts.2
   rw[htu]
   rcases hc with⟨rfl,rfl,hu,hJ5⟩|⟨rfl,hf5,hE5'⟩
   ·have hpr5:=hP W5 r5 (hZ.fin _ _ _ hJ5)
    have hPt:=bNl bw bd ba bs W5 cd5 ca5 cs3 hW5 bx2 first (aAb W.δ.size width f.count) width f.count g2 (aCz out i) cy3 cc3 hwr5 (g::(Z.own r5++base)) hg5' W.live hl5' (by rw[aGx];exact hlt) u (by rw[hu];exact hout i hlt) (by omega) (by rw[hs5];exact aAj hs1 hw1 hw5)
    rw[htu] at hPt
    repeat(refine st ?_;intros)
    refine R.call (hct:=hPt) (h:= ?_)
    rintro _ _ ⟨cd6,ca6,cs6,W6,cy6,cc6,e,rfl,rfl,hW6,hE6,hK6,hc6⟩
    try dsimp only[AA,AB]
    have hE36:=hE35.trans hE6
    rcases hc6 with⟨rfl,hg6,hl6,hw6⟩|⟨rfl,hf6,hS6⟩
    ·repeat(refine st ?_;intros)
     refine Dn.round ⟨i+1,cd6,ca6,cs6,cx4,cb4,cy6,cc6,W6,r5⟩ ⟨hlt,hW6,hE36.weak (by dsimp only;omega) (by omega),BA hpo3 hpo5,hg6,hZ.stay _ _ _ _ hJ5 hE6.size hK6 (fun e he=>hl6.mem he) hE6.fault,hrd5.move hE6.size,by rw[aOo,←hu];exact hw6,hl6,hK5.trans hK6⟩ (by dsimp only;omega)
    ·have hD:=aDz bw bd ba bs W6 cd6 ca6 cs6 hW6 bx2 first (aAb W.δ.size width f.count) width f.count g2 (g::(Z.own r5++base)) W.live cy6 cc6 hS6
     repeat(refine st ?_;intros)
     refine Go.SL.Lv.call (hc:=hD) (h:= ?_)
     rintro _ _ ⟨cd7,ca7,cs7,W7,cy7,cc7,rfl,hW7,hE7,hd7,hg7,hl7⟩
     try dsimp only[AA,AB]
     have hRc:=aBh bw bd ba bs W7 cd7 ca7 cs7 hW7 bx f ts g (Z.own r5++base) cx4 cb4 (.inl ⟨hg7,i+1,hrd5.move (hE6.trans hE7).size⟩)
     refine Go.SL.Lv.call (hc:=hRc) (h:= ?_)
     rintro _ _ ⟨ca8,α8,cx8,rfl,hW8,hE8,hg8⟩
     try dsimp only[AA,AB]
     (refine Go.SL.Lv.nil (Hr:=[aAh bw bd ba bs,cd7,ca8,cs7,Z.C r5]) Tryz.results86 (hR:= ?_);exact hbad {W7 with α:=α8} cd7 ca8 cs7 r5 _ hW8 ((hE36.trans (hE7.trans hE8)).weak (k':=f.blocks+f.count+1+P) (by omega) (by omega)) (AG _) (fun x hx=>by show W7.δ.disk x=_;rw[hd7];exact(hK5.trans hK6) x hx) hg8 (hZ.stayE _ _ _ (hZ.fin _ _ _ hJ5) ((hE6.trans hE7).trans hE8).size) (aBd hE35 hf6) hl7)
   ·have hpr5:=hP W5 r5 hE5'
    have hD:=aDz bw bd ba bs W5 cd5 ca5 cs3 hW5 bx2 first (aAb W.δ.size width f.count) width f.count g2 (g::(Z.own r5++base)) W.live cy3 cc3 (.inl ⟨hg5',hl5',_,hwr5⟩)
    repeat(refine st ?_;intros)
    refine Go.SL.Lv.call (hc:=hD) (h:= ?_)
    rintro _ _ ⟨cd7,ca7,cs7,W7,cy7,cc7,rfl,hW7,hE7,hd7,hg7,hl7⟩
    try dsimp only[AA,AB]
    have hRc:=aBh bw bd ba bs W7 cd7 ca7 cs7 hW7 bx f ts g (Z.own r5++base) cx4 cb4 (.inl ⟨hg7,i+1,hrd5.move hE7.size⟩)
    refine Go.SL.Lv.call (hc:=hRc) (h:= ?_)
    rintro _ _ ⟨ca8,α8,cx8,rfl,hW8,hE8,hg8⟩
    try dsimp only[AA,AB]
    (refine Go.SL.Lv.nil (Hr:=[aAh bw bd ba bs,cd7,ca8,cs7,Z.C r5]) Tryz.results86 (hR:= ?_);exact hbad {W7 with α:=α8} cd7 ca8 cs7 r5 _ hW8 ((hE35.trans (hE7.trans hE8)).weak (k':=f.blocks+f.count+1+P) (by omega) (by omega)) (AG _) (fun x hx=>by show W7.δ.disk x=_;rw[hd7];exact hK5 x hx) hg8 (hZ.stayE _ _ _ hE5' (hE7.trans hE8).size) (aBd hE34 hf5) hl7)
  ·have hE34:=hE3.trans hE4
   have hf3:W3.δ.fault≠-1:=by omega
   have hD:=aDz bw bd ba bs W4 cd4 ca4 cs3 hW4 bx2 first (aAb W.δ.size width f.count) width f.count g2 (Z.own r3++base) W.live cy3 cc3 (.inl ⟨hg4,by rw[hl4];exact hl3,_,hwr3.move hE4.size (fun x _ _=>by rw[hd4])⟩)
   repeat(refine st ?_;intros)
   refine Go.SL.Lv.call (hc:=hD) (h:= ?_)
   rintro _ _ ⟨cd7,ca7,cs7,W7,cy7,cc7,rfl,hW7,hE7,hd7,hg7,hl7⟩
   try dsimp only[AA,AB]
   have hRc:=aBh bw bd ba bs W7 cd7 ca7 cs7 hW7 bx f ts g (Z.own r3++base) cx4 cb4 (.inr ⟨hg7,hx4⟩)
   refine Go.SL.Lv.call (hc:=hRc) (h:= ?_)
   rintro _ _ ⟨ca8,α8,cx8,rfl,hW8,hE8,hg8⟩
   try dsimp only[AA,AB]
   (refine Go.SL.Lv.nil (Hr:=[aAh bw bd ba bs,cd7,ca8,cs7,Z.C r3]) Tryz.results86 (hR:= ?_);exact hbad {W7 with α:=α8} cd7 ca8 cs7 r3 _ hW8 ((hE34.trans (hE7.trans hE8)).weak (k':=f.blocks+f.count+1+P) (by omega) (by omega)) (AG _) (fun x hx=>by show W7.δ.disk x=_;rw[hd7,hd4];exact hK3 x hx) hg8 (hZ.stayE _ _ _ (hZ.fin _ _ _ hJ3) ((hE4.trans hE7).trans hE8).size) (aBd hE3 hf3) hl7)
 ·obtain rfl:i=f.count:=by omega
  have hNe:=aFw bw bx W3 f ts g cx3 cb3 hrd3
  rw[hz] at hNe
  have hCl:=aXm bw bd ba bs W3 cd3 ca3 cs3 hW3 bx2 first (aAb W.δ.size width f.count) width f.count g2 _ cy3 cc3 hwr3 (g::(Z.own r3++base)) hg3 W.live hl3 (by omega) (by rw[hsz3];exact aAj hs1 hw1 hw5)
  repeat(refine st ?_;intros)
  refine R.callVP (fs:=[pv bx]) (vs:=[]) (hf:=inferInstance) (hct:=hNe) (h:= ?_)
  repeat(refine st ?_;intros)
  refine R.call (hct:=hCl) (h:= ?_)
  rintro _ _ ⟨cd4,ca4,cs4,W4,cy4,cc4,f',e,rfl,rfl,hW4,hE4,hK4,hg4,hx4,hc4⟩
  try dsimp only[AA,AB]
  have hfv:flv f'= .agg #[.int .i64 (f'.first:Int),.int .i64 (f'.blocks:Int),.int .i64 (f'.width:Int),.int .i64 (f'.count:Int)]:=rfl
  rw[hfv]
  have hD:=aDz bw bd ba bs W4 cd4 ca4 cs4 hW4 bx2 first (aAb W.δ.size width f.count) width f.count g2 (g::(Z.own r3++base)) W4.live cy4 cc4 (.inr ⟨hg4,.refl _,hx4⟩)
  repeat(refine st ?_;intros)
  refine Go.SL.Lv.call (hc:=hD) (h:= ?_)
  rintro _ _ ⟨cd7,ca7,cs7,W7,cy7,cc7,rfl,hW7,hE7,hd7,hg7,hl7⟩
  try dsimp only[AA,AB]
  have hRc:=aBh bw bd ba bs W7 cd7 ca7 cs7 hW7 bx f ts g (Z.own r3++base) cx3 cb3 (.inl ⟨hg7,f.count,hrd3.move (hE4.trans hE7).size⟩)
  refine Go.SL.Lv.call (hc:=hRc) (h:= ?_)
  rintro _ _ ⟨ca8,α8,cx8,rfl,hW8,hE8,hg8⟩
  try dsimp only[AA,AB]
  (refine Go.SL.Lv.nil (Hr:=[aAh bw bd ba bs,cd7,ca8,cs7,Z.C r3]) Tryz.results86 (hR:= ?_);refine⟨cd7,ca8,cs7,{W7 with α:=α8},r3,f',e,rfl,rfl,hW8,((hE3.trans hE4).trans (hE7.trans hE8)).weak (by omega) (by omega),fun x hx=>by show W7.δ.disk x=_;rw[hd7];exact(hK3.trans hK4) x hx,hg8,hZ.stayE _ _ _ (hZ.fin _ _ _ hJ3) ((hE4.trans hE7).trans hE8).size,?_⟩)
  rcases hc4 with⟨rfl,hl4,hfw,hfc,hfo4⟩|⟨rfl,rfl,hf4,hl4⟩
  ·rw[aGx] at hfc
   exact .inl ⟨rfl,hl7.trans hl4,hfw,hfc,by show aAq W7.δ.disk _ _ _ _;rw[hd7,←hsz3];exact hfo4⟩
  ·exact .inr ⟨rfl,rfl,aBd hE3 hf4,hl7.trans hl4⟩
def aXn (t:T5) (j:Nat) (x:Int):T5:=
 match j with
 |0=>{t with c0:=x}
 |1=>{t with c1:=x}
 |2=>{t with c2:=x}
 |3=>{t with c3:=x}
 |_=>{t with c4:=x}
theorem bBn (t:T5) {j:Nat} (hj:j<5) (x:Int):(aAl t).set j (.int .i64 x)=aAl (aXn t j x):=by
 match j,hj with
 |0,_=>rfl
 |1,_=>rfl
 |2,_=>rfl
 |3,_=>rfl
 |4,_=>rfl
theorem bFf (t:T5) {i:Nat} (h:i<5):(aAl t)[i]? =some (.int .i64 (t.col i)):=by
 match i,h with
 |0,_=>rfl
 |1,_=>rfl
 |2,_=>rfl
 |3,_=>rfl
 |4,_=>rfl
def lkV (bs:List T5) (k:Int) (v:Nat):Int:=
 match bs.find? fun t=>decide (t.c0=k) with
 |some t=>t.col v
 |none=> -1
def aEv (bs:List T5) (key value to:Nat) (t:T5):T5:=aXn t to (lkV bs (t.col key) value)
theorem aSe {bs:List T5} {k:Int} {v:Nat} (h:∀u∈bs,u.c0≠k):lkV bs k v= -1:=by
 unfold lkV
 rw[D6.2 fun u hu=>by simp[h u hu]]
theorem aNg {bs:List T5} (hr:bs.Pairwise fun a c=>a.c0<c.c0) {k:Int} {v:Nat} {t:T5} (ht:t∈bs) (hk:t.c0=k):lkV bs k v=t.col v:=by
 unfold lkV
 cases hf:bs.find? fun t=>decide (t.c0=k) with
 |none=>
  rw[D6] at hf
  exact(hf t ht (by simp[hk])).elim
 |some u=>
  have h1:u.c0=k:=by simpa using List.find?_some hf
  have h2:=List.mem_of_find?_eq_some hf
  obtain⟨i,hi,rfl⟩:=CC.1 ht
  obtain⟨j,hj,rfl⟩:=CC.1 h2
  rcases CV i j with h3|h3|h3
  ·have:=BQ.1 hr i j hi hj h3;omega
  ·subst h3;rfl
  ·have:=BQ.1 hr j i hj hi h3;omega
structure LkS where
 pos:Nat
 ok:Bool
 begun:Bool
 t:T5
 last:Int
 any:Bool
 cx:aAc
 cb:aAc
 op:Bool
structure aQs (bs:List T5) (s:LkS) (k:Int):Prop where
 nb:s.begun=false→s.pos=0
 yes:s.begun=true→s.ok=true→∃p,s.pos=p+1∧bs[p]? =some s.t∧∀j u,j<p→bs[j]? =some u→u.c0<k
 no:s.begun=true→s.ok=false→s.pos=bs.length∧∀u∈bs,u.c0<k
theorem aQs.up {bs:List T5} {s:LkS} {k k':Int} (h:aQs bs s k) (hk:k≤k'):aQs bs s k' where
 nb:=h.nb
 yes a b:=by
  obtain⟨p,h1,h2,h3⟩:=h.yes a b
  exact⟨p,h1,h2,fun j u hj hu=>by have:=h3 j u hj hu;omega⟩
 no a b:=⟨(h.no a b).1,fun u hu=>by have:=(h.no a b).2 u hu;omega⟩
theorem aQs.all {bs:List T5} {s:LkS} {k:Int} (h:aQs bs s k) (hc:s.begun=true→s.ok=true∧s.t.c0<k):∀j u,j<s.pos→bs[j]? =some u→u.c0<k:=by
 intro j u hj hu
 cases hb:s.begun with
 |false=>have:=h.nb hb;omega
 |true=>
  obtain⟨h1,h2⟩:=hc hb
  obtain⟨p,h3,h4,h5⟩:=h.yes hb h1
  rcases Nat.lt_or_ge j p with h6|h6
  ·exact h5 j u h6 hu
  ·obtain rfl:j=p:=by omega
   rw[h4] at hu
   rw[←BG hu];exact h2
def aKc (bl bx key value to:Nat) (s:LkS):aAc:=[(bl,row [.func (.func 55) #[pv bx] #[],.int .i64 s.t.c0,.int .i64 s.t.c1,.int .i64 s.t.c2,.int .i64 s.t.c3,.int .i64 s.t.c4,.bool s.ok,.bool s.begun,.int .i64 (key:Int),.int .i64 (value:Int),.int .i64 (to:Int),.int .i64 s.last,.bool s.any] 138)]
theorem bNn (bw bd ba bs bl bx key value to:Nat) (W:Wk) (cd ca cs:aAc) (h:Wc bd ba bs W cd ca cs) (fb:Fl) (bts:List T5) (LvB:List Ext) (hfo:aAq W.δ.disk W.δ.size LvB fb bts) (hsub:∀e∈LvB,e∈W.live) (hrise:bts.Pairwise fun a c=>a.c0<c.c0)
  (g:Gr) (Gs:List Gr) (hg:W.α.gs.Perm (g::Gs)) (s:LkS) (hrd:aGo bw bx W fb bts g s.pos s.cx s.cb) (hpos:s.pos≤fb.count) (hs:s.begun=true→s.ok=true∧∃p,s.pos=p+1∧bts[p]? =some s.t) (hac:W.δ.acts≤1000000000000):
  Ct AC 130 [pv bl] [aKc bl bx key value to s,aAh bw bd ba bs,cd,ca,cs,s.cx,s.cb] fun v H'=>
   ∃cd' ca' W' s' e,v= .int .i64 e∧H'=[aKc bl bx key value to s',aAh bw bd ba bs,cd',ca',cs,s'.cx,s'.cb]∧Wc bd ba bs W' cd' ca' cs∧Ev W W' (aAb W.δ.size fb.width s'.pos-aAb W.δ.size fb.width s.pos) 0∧W'.δ.disk=W.δ.disk∧W'.σ=W.σ∧W'.live=W.live∧
    s'.last=s.last∧s'.any=s.any∧s'.begun=true∧
    ((e=0∧W'.α.gs.Perm (g::Gs)∧aGo bw bx W' fb bts g s'.pos s'.cx s'.cb∧((s.pos<fb.count∧s'.pos=s.pos+1∧s'.ok=true∧bts[s.pos]? =some s'.t)∨(s.pos=fb.count∧s'.pos=s.pos∧s'.ok=false)))∨
     (e=6∧W.δ.fault≠-1∧W'.α.gs.Perm Gs∧aDf bx s'.cx∧s'.pos≤fb.count∧s.pos≤s'.pos)):=by
 have hz:tv T5.zero= .agg #[.int .i64 T5.zero.c0,.int .i64 T5.zero.c1,.int .i64 T5.zero.c2,.int .i64 T5.zero.c3,.int .i64 T5.zero.c4]:=rfl
 have hlen:=hfo.len
 obtain⟨pos,ok,begun,t,last,any,cx,cb,op⟩:=s
 unfold aKc
 dsimp only at hrd hpos hs⊢
 by_cases hlt:pos<fb.count
 ·have htg:bts[pos]? =some bts[pos]:=AE (by omega)
  have hNx:=aJp bw bd ba bs W cd ca cs h bx fb bts LvB hfo hsub g Gs hg pos cx cb hrd _ htg hac
  have htv:tv bts[pos]= .agg #[.int .i64 (bts[pos]).c0,.int .i64 (bts[pos]).c1,.int .i64 (bts[pos]).c2,.int .i64 (bts[pos]).c3,.int .i64 (bts[pos]).c4]:=rfl
  rw[htv,hz] at hNx
  have hup:begun=true→¬(bts[pos]).c0≤t.c0:=fun hb=>by
   obtain⟨_,p,h1,h2⟩:=hs hb
   obtain⟨hp,h3⟩:=AK.1 h2
   have:=BQ.1 hrise p pos hp (by omega) (by omega)
   rw[h3] at this;omega
  generalize hu:bts[pos]=u at*
  cases begun with
  |false=>
   refine Ct.intro Tryz.func130 rfl Tryz.ntmps130 (nle rfl) fun w0=> ?_;dsimp only[aAa,AD]
   repeat(first|(refine st ?_;intros)|refine G.draw [] (h:= ?_))
   refine R.callV (fs:=[pv bx]) (vs:=[]) (hf:=inferInstance) (hct:=hNx) (h:= ?_)
   rintro _ _ ⟨cd4,ca4,W4,cx4,cb4,rfl,hW4,hE4,hd4,hσ4,hl4,⟨rfl,hα4,hr4⟩|⟨rfl,hf4,hδ4,hg4,hx4⟩⟩<;>dsimp only[AA,AB]
   ·repeat(first|(refine st ?_;intros)|refine G.draw [] (h:= ?_))
    (refine Dn.post (Hr:=[[(bl,row [.func (.func 55) #[pv bx] #[],.int .i64 u.c0,.int .i64 u.c1,.int .i64 u.c2,.int .i64 u.c3,.int .i64 u.c4,.bool true,.bool true,.int .i64 (key:Int),.int .i64 (value:Int),.int .i64 (to:Int),.int .i64 last,.bool any] 138)],aAh bw bd ba bs,cd4,ca4,cs,cx4,cb4]) Tryz.results130 (hR:= ?_);exact⟨cd4,ca4,W4,⟨pos+1,true,true,u,last,any,cx4,cb4,op⟩,0,rfl,rfl,hW4,hE4,hd4,hσ4,hl4,rfl,rfl,rfl,.inl ⟨rfl,by rw[hα4];exact hg,hr4,.inl ⟨hlt,rfl,rfl,htg⟩⟩⟩)
   ·repeat(first|(refine st ?_;intros)|refine G.draw [] (h:= ?_))
    (refine Dn.post (Hr:=[[(bl,row [.func (.func 55) #[pv bx] #[],.int .i64 T5.zero.c0,.int .i64 T5.zero.c1,.int .i64 T5.zero.c2,.int .i64 T5.zero.c3,.int .i64 T5.zero.c4,.bool false,.bool true,.int .i64 (key:Int),.int .i64 (value:Int),.int .i64 (to:Int),.int .i64 last,.bool any] 138)],aAh bw bd ba bs,cd4,ca4,cs,cx4,cb4]) Tryz.results130 (hR:= ?_);exact⟨cd4,ca4,W4,⟨pos+1,false,true,T5.zero,last,any,cx4,cb4,op⟩,6,rfl,rfl,hW4,hE4,hd4,hσ4,hl4,rfl,rfl,rfl,.inr ⟨rfl,by omega,hg4,hx4,hlt,Nat.le_succ _⟩⟩)
  |true=>
   obtain⟨rfl,_⟩:=hs rfl
   have hup1:=hup rfl
   refine Ct.intro Tryz.func130 rfl Tryz.ntmps130 (nle rfl) fun w0=> ?_;dsimp only[aAa,AD]
   repeat(first|(refine st ?_;intros)|refine G.draw [] (h:= ?_))
   refine R.callV (fs:=[pv bx]) (vs:=[]) (hf:=inferInstance) (hct:=hNx) (h:= ?_)
   rintro _ _ ⟨cd4,ca4,W4,cx4,cb4,rfl,hW4,hE4,hd4,hσ4,hl4,⟨rfl,hα4,hr4⟩|⟨rfl,hf4,hδ4,hg4,hx4⟩⟩<;>dsimp only[AA,AB]
   ·repeat(first|(refine st ?_;intros)|refine G.draw [] (h:= ?_))
    (refine Dn.post (Hr:=[[(bl,row [.func (.func 55) #[pv bx] #[],.int .i64 u.c0,.int .i64 u.c1,.int .i64 u.c2,.int .i64 u.c3,.int .i64 u.c4,.bool true,.bool true,.int .i64 (key:Int),.int .i64 (value:Int),.int .i64 (to:Int),.int .i64 last,.bool any] 138)],aAh bw bd ba bs,cd4,ca4,cs,cx4,cb4]) Tryz.results130 (hR:= ?_);exact⟨cd4,ca4,W4,⟨pos+1,true,true,u,last,any,cx4,cb4,op⟩,0,rfl,rfl,hW4,hE4,hd4,hσ4,hl4,rfl,rfl,rfl,.inl ⟨rfl,by rw[hα4];exact hg,hr4,.inl ⟨hlt,rfl,rfl,htg⟩⟩⟩)
   ·repeat(first|(refine st ?_;intros)|refine G.draw [] (h:= ?_))
    (refine Dn.post (Hr:=[[(bl,row [.func (.func 55) #[pv bx] #[],.int .i64 T5.zero.c0,.int .i64 T5.zero.c1,.int .i64 T5.zero.c2,.int .i64 T5.zero.c3,.int .i64 T5.zero.c4,.bool false,.bool true,.int .i64 (key:Int),.int .i64 (value:Int),.int .i64 (to:Int),.int .i64 last,.bool any] 138)],aAh bw bd ba bs,cd4,ca4,cs,cx4,cb4]) Tryz.results130 (hR:= ?_);exact⟨cd4,ca4,W4,⟨pos+1,false,true,T5.zero,last,any,cx4,cb4,op⟩,6,rfl,rfl,hW4,hE4,hd4,hσ4,hl4,rfl,rfl,rfl,.inr ⟨rfl,by omega,hg4,hx4,hlt,Nat.le_succ _⟩⟩)
 ·obtain rfl:pos=fb.count:=by omega
  have hNe:=aFw bw bx W fb bts g cx cb hrd
  rw[hz] at hNe
  cases begun with
  |false=>
   refine Ct.intro Tryz.func130 rfl Tryz.ntmps130 (nle rfl) fun w0=> ?_;dsimp only[aAa,AD]
   repeat(first|(refine st ?_;intros)|refine G.draw [] (h:= ?_))
   refine R.callVP (fs:=[pv bx]) (vs:=[]) (hf:=inferInstance) (hct:=hNe) (h:= ?_)
   repeat(first|(refine st ?_;intros)|refine G.draw [] (h:= ?_))
   (refine Dn.post (Hr:=[[(bl,row [.func (.func 55) #[pv bx] #[],.int .i64 T5.zero.c0,.int .i64 T5.zero.c1,.int .i64 T5.zero.c2,.int .i64 T5.zero.c3,.int .i64 T5.zero.c4,.bool false,.bool true,.int .i64 (key:Int),.int .i64 (value:Int),.int .i64 (to:Int),.int .i64 last,.bool any] 138)],aAh bw bd ba bs,cd,ca,cs,cx,cb]) Tryz.results130 (hR:= ?_);exact⟨cd,ca,W,⟨fb.count,false,true,T5.zero,last,any,cx,cb,op⟩,0,rfl,rfl,h,(Ev.refl W).weak (AS _) (AG _),rfl,rfl,rfl,rfl,rfl,rfl,.inl ⟨rfl,hg,hrd,.inr ⟨rfl,rfl,rfl⟩⟩⟩)
  |true=>
   obtain⟨rfl,_⟩:=hs rfl
   refine Ct.intro Tryz.func130 rfl Tryz.ntmps130 (nle rfl) fun w0=> ?_;dsimp only[aAa,AD]
   repeat(first|(refine st ?_;intros)|refine G.draw [] (h:= ?_))
   refine R.callVP (fs:=[pv bx]) (vs:=[]) (hf:=inferInstance) (hct:=hNe) (h:= ?_)
   repeat(first|(refine st ?_;intros)|refine G.draw [] (h:= ?_))
   (refine Dn.post (Hr:=[[(bl,row [.func (.func 55) #[pv bx] #[],.int .i64 T5.zero.c0,.int .i64 T5.zero.c1,.int .i64 T5.zero.c2,.int .i64 T5.zero.c3,.int .i64 T5.zero.c4,.bool false,.bool true,.int .i64 (key:Int),.int .i64 (value:Int),.int .i64 (to:Int),.int .i64 last,.bool any] 138)],aAh bw bd ba bs,cd,ca,cs,cx,cb]) Tryz.results130 (hR:= ?_);exact⟨cd,ca,W,⟨fb.count,false,true,T5.zero,last,any,cx,cb,op⟩,0,rfl,rfl,h,(Ev.refl W).weak (AS _) (AG _),rfl,rfl,rfl,rfl,rfl,rfl,.inl ⟨rfl,hg,hrd,.inr ⟨rfl,rfl,rfl⟩⟩⟩)
theorem bJa {c:List Value} (h:c.length=5):aFi [.int .i64 0,.int .i64 0,.int .i64 0,.int .i64 0,.int .i64 0] 0 c=c:=by
 rw[aFs _ _ _ (by simp[h]),h];simp
structure LkLX where
 cd:aAc
 ca:aAc
 W:Wk
 s:LkS
theorem aQs.more {bs:List T5} {s s':LkS} {k:Int} (h:aQs bs s k) (hc:s.begun=true→s.ok=true∧s.t.c0<k) (hb:s'.begun=true)
  (hm:(s'.pos=s.pos+1∧s'.ok=true∧bs[s.pos]? =some s'.t)∨(s.pos=bs.length∧s'.pos=s.pos∧s'.ok=false)):aQs bs s' k:=by
 have ha:=h.all hc
 refine⟨fun h1=>(by rw[hb] at h1;cases h1),fun _ ho=> ?_,fun _ ho=> ?_⟩
 ·rcases hm with⟨h1,_,h3⟩|⟨_,_,h3⟩
  ·exact⟨s.pos,h1,h3,ha⟩
  ·rw[h3] at ho;cases ho
 ·rcases hm with⟨_,h2,_⟩|⟨h1,h2,_⟩
  ·rw[h2] at ho;cases ho
  ·refine⟨h2.trans h1,fun u hu=> ?_⟩
   obtain⟨j,hj,rfl⟩:=CC.1 hu
   exact ha j _ (by omega) (AE hj)
theorem aQs.hit {bs:List T5} {s:LkS} {k:Int} (h:aQs bs s k) (hr:bs.Pairwise fun a c=>a.c0<c.c0) (hb:s.begun=true) (ho:s.ok=true) (hk:s.t.c0=k) (v:Nat):lkV bs k v=s.t.col v:=by
 obtain⟨p,_,h2,_⟩:=h.yes hb ho
 exact aNg hr (List.mem_of_getElem? h2) hk
theorem aQs.over {bs:List T5} {s:LkS} {k:Int} (h:aQs bs s k) (hr:bs.Pairwise fun a c=>a.c0<c.c0) (hb:s.begun=true) (ho:s.ok=true) (hk:k<s.t.c0) (v:Nat):lkV bs k v= -1:=by
 obtain⟨p,_,h2,h3⟩:=h.yes hb ho
 obtain⟨hp,h4⟩:=AK.1 h2
 refine aSe fun u hu=> ?_
 obtain⟨j,hj,rfl⟩:=CC.1 hu
 rcases CV j p with h5|h5|h5
 ·have:=h3 j _ h5 (AE hj);omega
 ·subst h5;rw[h4];omega
 ·have:=BQ.1 hr p j hp hj h5
  rw[h4] at this;omega
theorem aQs.out {bs:List T5} {s:LkS} {k:Int} (h:aQs bs s k) (hb:s.begun=true) (ho:s.ok=false) (v:Nat):lkV bs k v= -1:=
 aSe fun u hu=>by have:=(h.no hb ho).2 u hu;omega
theorem bNo (bw bd ba bs bl bx key value to:Nat) (hkey:key<5) (hval:value<5) (hto:to<5) (W:Wk) (cd ca cs:aAc) (h:Wc bd ba bs W cd ca cs) (fb:Fl) (bts:List T5) (LvB:List Ext) (hfo:aAq W.δ.disk W.δ.size LvB fb bts) (hsub:∀e∈LvB,e∈W.live) (hrise:bts.Pairwise fun a c=>a.c0<c.c0)
  (g:Gr) (Gs:List Gr) (hg:W.α.gs.Perm (g::Gs)) (s:LkS) (hrd:aGo bw bx W fb bts g s.pos s.cx s.cb) (hpos:s.pos≤fb.count) (t:T5) (hs:aQs bts s (t.col key)) (hany:s.any=true→s.last≤t.col key) (hac:W.δ.acts≤100000000000) (hcn:fb.count≤1000000):
  Ct AC 87 [pv bl,tv t] [aKc bl bx key value to s,aAh bw bd ba bs,cd,ca,cs,s.cx,s.cb] fun v H'=>
   ∃cd' ca' W' s' u k e,v= .tuple #[tv u,.bool k,.int .i64 e]∧H'=[aKc bl bx key value to s',aAh bw bd ba bs,cd',ca',cs,s'.cx,s'.cb]∧Wc bd ba bs W' cd' ca' cs∧Ev W W' (aAb W.δ.size fb.width s'.pos-aAb W.δ.size fb.width s.pos) 0∧W'.δ.disk=W.δ.disk∧W'.σ=W.σ∧W'.live=W.live∧
    s.pos≤s'.pos∧s'.pos≤fb.count∧
    ((e=0∧k=true∧u=aEv bts key value to t∧W'.α.gs.Perm (g::Gs)∧aGo bw bx W' fb bts g s'.pos s'.cx s'.cb∧aQs bts s' (t.col key)∧s'.any=true∧s'.last=t.col key)∨
     (e=6∧W.δ.fault≠-1∧W'.α.gs.Perm Gs∧aDf bx s'.cx)):=by
 have hlen:=hfo.len
 have hnb:=aAv (n:=fb.count) (aAj h.dev.num.1.1 hfo.w1 hfo.w2)
 have htv:tv t= .agg #[.int .i64 t.c0,.int .i64 t.c1,.int .i64 t.c2,.int .i64 t.c3,.int .i64 t.c4]:=rfl
 have htc:aAl t=[.int .i64 t.c0,.int .i64 t.c1,.int .i64 t.c2,.int .i64 t.c3,.int .i64 t.c4]:=rfl
 have hq:=bFf t hkey
 have hset:∀x,(aAl t).set to (.int .i64 x)=aAl (aXn t to x):=fun x=>bBn t hto x
 have hlF:∀u:T5,u=aXn t to (lkV bts (t.col key) value)→.agg (aAl (aXn t to (lkV bts (t.col key) value))).toArray=tv (aEv bts key value to t):=fun _ _=>rfl
 have hlF:=hlF _ rfl
 have hbk: .agg (aAl t).toArray=tv t:=rfl
 generalize hk:t.col key=k at*
 rw[htv]
 rw[htc] at hq hset hbk
 generalize hcc:([.int .i64 t.c0,.int .i64 t.c1,.int .i64 t.c2,.int .i64 t.c3,.int .i64 t.c4]:List Value)=cc at*
 have hcl:cc.length=5:=by rw[←hcc];rfl
 have hbox:(Value.agg cc.toArray).cells=cc.toArray:=rfl
 have hld:(cc.drop 0).take 5=cc:=by rw[C9,A4 (by omega)]
 have hca:cc.all Value.oneCell'=true:=by rw[←hcc];rfl
 have hs5:=bJa hcl
 obtain⟨pos,ok,begun,tb,last,any,cx,cb,op⟩:=s
 unfold aKc
 dsimp only at hrd hpos hs hany⊢
 have hnl:any=true→¬k<last:=fun h=>by have:=hany h;omega
 have hs1:aQs bts ⟨pos,ok,begun,tb,k,true,cx,cb,op⟩ k:=⟨hs.nb,hs.yes,hs.no⟩
 cases any
 case' true=>have hnl1:=hnl rfl
 all_goals
  refine Ct.intro Tryz.func87 rfl Tryz.ntmps87 (nle rfl) fun w0=> ?_;dsimp only[aAa,AD]
  repeat(first|(refine st ?_;intros)|refine G.draw [] (h:= ?_))
  rename_i b3 b4
  refine G.loop (X:=LkLX) (fun x=>Wc bd ba bs x.W x.cd x.ca cs∧Ev W x.W (aAb W.δ.size fb.width x.s.pos-aAb W.δ.size fb.width pos) 0∧x.W.δ.disk=W.δ.disk∧x.W.σ=W.σ∧x.W.live=W.live∧pos≤x.s.pos∧x.s.pos≤fb.count∧x.W.α.gs.Perm (g::Gs)∧aGo bw bx x.W fb bts g x.s.pos x.s.cx x.s.cb∧aQs bts x.s k∧x.s.any=true∧x.s.last=k)
   (fun _=>[(7,.int .i64 k),(4,pv b4),(3,pv b3),(0,pv bl)])
   (fun x=>[[(b4,row [.int .i64 0,.int .i64 0,.int .i64 0,.int .i64 0,.int .i64 0] 49)],[(b3,row cc 49)],[(bl,row [.func (.func 55) #[pv bx] #[],.int .i64 x.s.t.c0,.int .i64 x.s.t.c1,.int .i64 x.s.t.c2,.int .i64 x.s.t.c3,.int .i64 x.s.t.c4,.bool x.s.ok,.bool x.s.begun,.int .i64 (key:Int),.int .i64 (value:Int),.int .i64 (to:Int),.int .i64 x.s.last,.bool x.s.any] 138)],aAh bw bd ba bs,x.cd,x.ca,cs,x.s.cx,x.s.cb])
   (fun x=>(fb.count-x.s.pos)+(if x.s.begun=true∧x.s.ok=false then 0 else 1)) ⟨cd,ca,W,⟨pos,ok,begun,tb,k,true,cx,cb,op⟩⟩
   ⟨h,(Ev.refl W).weak (AS _) (AG _),rfl,rfl,rfl,AG _,hpos,hg,hrd,hs1,rfl,rfl⟩ (body:= ?_)
  rintro⟨cd2,ca2,W2,⟨pos2,ok2,begun2,tb2,last2,any2,cx2,cb2,op2⟩⟩ ⟨hW2,hE2,hd2,hσ2,hl2,hpp2,hpos2,hg2,hrd2,hk2,ha2,hla2⟩
  dsimp only at hW2 hE2 hd2 hσ2 hl2 hpp2 hpos2 hg2 hrd2 hk2 ha2 hla2⊢
  subst ha2 hla2
  have hac2:=hE2.acts.2
  have hm2:aAb W.δ.size fb.width pos≤aAb W.δ.size fb.width pos2:=aAk hpp2
  have hm3:aAb W.δ.size fb.width pos2≤aAb W.δ.size fb.width fb.count:=aAk hpos2
  have hgo:(begun2=true→ok2=true∧tb2.c0<last2)→Ct AC 130 [pv bl] [[(bl,row [.func (.func 55) #[pv bx] #[],.int .i64 tb2.c0,.int .i64 tb2.c1,.int .i64 tb2.c2,.int .i64 tb2.c3,.int .i64 tb2.c4,.bool ok2,.bool begun2,.int .i64 (key:Int),.int .i64 (value:Int),.int .i64 (to:Int),.int .i64 last2,.bool true] 138)],aAh bw bd ba bs,cd2,ca2,cs,cx2,cb2] fun v H'=>
    ∃cd' ca' W' s' e,v= .int .i64 e∧H'=[[(bl,row [.func (.func 55) #[pv bx] #[],.int .i64 s'.t.c0,.int .i64 s'.t.c1,.int .i64 s'.t.c2,.int .i64 s'.t.c3,.int .i64 s'.t.c4,.bool s'.ok,.bool s'.begun,.int .i64 (key:Int),.int .i64 (value:Int),.int .i64 (to:Int),.int .i64 s'.last,.bool s'.any] 138)],aAh bw bd ba bs,cd',ca',cs,s'.cx,s'.cb]∧Wc bd ba bs W' cd' ca' cs∧Ev W W' (aAb W.δ.size fb.width s'.pos-aAb W.δ.size fb.width pos) 0∧W'.δ.disk=W.δ.disk∧W'.σ=W.σ∧W'.live=W.live∧
     s'.last=last2∧s'.any=true∧s'.begun=true∧pos≤s'.pos∧s'.pos≤fb.count∧
     ((e=0∧W'.α.gs.Perm (g::Gs)∧aGo bw bx W' fb bts g s'.pos s'.cx s'.cb∧aQs bts s' last2∧(fb.count-s'.pos)+(if s'.begun=true∧s'.ok=false then 0 else 1)<(fb.count-pos2)+1)∨
      (e=6∧W.δ.fault≠-1∧W'.α.gs.Perm Gs∧aDf bx s'.cx)):=by
   intro hc
   have hM:=bNn bw bd ba bs bl bx key value to W2 cd2 ca2 cs hW2 fb bts LvB (by rw[hd2,hE2.size];exact hfo) (fun e he=>by rw[hl2];exact hsub e he) hrise g Gs hg2 ⟨pos2,ok2,begun2,tb2,last2,true,cx2,cb2,op2⟩ hrd2 hpos2 (fun hb=>by
    obtain⟨h1,_⟩:=hc hb
    obtain⟨p,h2,h3,_⟩:=hk2.yes hb h1
    exact⟨h1,p,h2,h3⟩) (by omega)
   refine hM.mono ?_
   rintro v H' ⟨cd',ca',W',s',e,rfl,rfl,hW',hE',hd',hσ',hl',e1,e2,e3,hc'⟩
   rw[hE2.size] at hE'
   dsimp only at hE' e1 e2 hc'
   have hpp:pos2≤s'.pos∧s'.pos≤fb.count:=by
    rcases hc' with⟨_,_,_,⟨h1,h2,_⟩|⟨h1,h2,_⟩⟩|⟨_,_,_,_,h5,h6⟩
    ·omega
    ·omega
    ·exact⟨h6,h5⟩
   have hm4:aAb W.δ.size fb.width pos2≤aAb W.δ.size fb.width s'.pos:=aAk hpp.1
   refine⟨cd',ca',W',s',e,rfl,rfl,hW',(hE2.trans hE').weak (by omega) (AG _),hd'.trans hd2,hσ'.trans hσ2,hl'.trans hl2,e1,e2,e3,by omega,hpp.2,?_⟩
   rcases hc' with⟨rfl,g1,g2,g3⟩|⟨rfl,f1,f2,f3,_⟩
   ·refine .inl ⟨rfl,g1,g2,hk2.more hc e3 (by
     rcases g3 with⟨_,q1,q2,q3⟩|⟨q0,q1,q2⟩
     ·exact .inl ⟨q1,q2,q3⟩
     ·exact .inr ⟨by dsimp only;omega,q1,q2⟩),?_⟩
    rcases g3 with⟨q0,q1,q2,q3⟩|⟨q0,q1,q2⟩
    ·split<;>omega
    ·rw[if_pos ⟨e3,q2⟩];omega
   ·exact .inr ⟨rfl,aBd hE2 f1,f2,f3⟩
  have hout:∀x:Int,lkV bts last2 value=x→cc.set to (.int .i64 x)=aAl (aXn t to (lkV bts last2 value)):=fun x hx=>by rw[hset,hx]
  cases begun2 with
  |false=>
   have hM:=hgo (fun h=>by cases h)
   have hms:(if(false:Bool)=true∧ok2=false then 0 else 1)=1:=if_neg (by simp)
   repeat(first|(refine st ?_;intros)|refine G.draw [] (h:= ?_))
   refine R.call (hct:=hM) (h:= ?_)
   rintro _ _ ⟨cd3,ca3,W3,⟨pos3,ok3,begun3,tb3,last3,any3,cx3,cb3,op3⟩,e,rfl,rfl,hW3,hE3,hd3,hσ3,hl3,hla3,han3,hbg3,hpp3,hpos3,hc3⟩
   try dsimp only[AA,AB]
   dsimp only at hW3 hE3 hd3 hσ3 hl3 hla3 han3 hbg3 hpp3 hpos3 hc3⊢
   rcases hc3 with⟨rfl,g1,g2,g3,g4⟩|⟨rfl,f1,f2,f3⟩
   ·repeat(first|(refine st ?_;intros)|refine G.draw [] (h:= ?_))
    refine Dn.round ⟨cd3,ca3,W3,⟨pos3,ok3,begun3,tb3,last3,any3,cx3,cb3,op3⟩⟩ ⟨hW3,hE3,hd3,hσ3,hl3,hpp3,hpos3,g1,g2,g3,han3,hla3⟩ (by dsimp only;rw[hms];exact g4)
   ·repeat(first|(refine st ?_;intros)|refine G.draw [] (h:= ?_))
    (refine Dn.post (Hr:=[[(bl,row [.func (.func 55) #[pv bx] #[],.int .i64 tb3.c0,.int .i64 tb3.c1,.int .i64 tb3.c2,.int .i64 tb3.c3,.int .i64 tb3.c4,.bool ok3,.bool begun3,.int .i64 (key:Int),.int .i64 (value:Int),.int .i64 (to:Int),.int .i64 last3,.bool any3] 138)],aAh bw bd ba bs,cd3,ca3,cs,cx3,cb3]) Tryz.results87 (hR:= ?_);exact⟨cd3,ca3,W3,⟨pos3,ok3,begun3,tb3,last3,any3,cx3,cb3,op3⟩,t,false,6,by rw[←hbk];rfl,rfl,hW3,hE3,hd3,hσ3,hl3,hpp3,hpos3,.inr ⟨rfl,f1,f2,f3⟩⟩)
  |true=>
   cases ok2 with
   |false=>
    have hv:=hk2.out rfl rfl value
    have hset1:=hout _ hv
    have hfin:=hlF
    have h2l:(aAl (aXn t to (lkV bts last2 value))).length=5:=rfl
    have h2a:(aAl (aXn t to (lkV bts last2 value))).all Value.oneCell'=true:=rfl
    generalize aAl (aXn t to (lkV bts last2 value))=c2 at*
    have hld2:(c2.drop 0).take 5=c2:=by rw[C9,A4 (by omega)]
    have hs52:=bJa h2l
    repeat(first|(refine st ?_;intros)|refine G.draw [] (h:= ?_))
    (refine Dn.post (Hr:=[[(bl,row [.func (.func 55) #[pv bx] #[],.int .i64 tb2.c0,.int .i64 tb2.c1,.int .i64 tb2.c2,.int .i64 tb2.c3,.int .i64 tb2.c4,.bool false,.bool true,.int .i64 (key:Int),.int .i64 (value:Int),.int .i64 (to:Int),.int .i64 last2,.bool true] 138)],aAh bw bd ba bs,cd2,ca2,cs,cx2,cb2]) Tryz.results87 (hR:= ?_);exact⟨cd2,ca2,W2,⟨pos2,false,true,tb2,last2,true,cx2,cb2,op2⟩,aEv bts key value to t,true,0,by rw[←hfin];rfl,rfl,hW2,hE2,hd2,hσ2,hl2,hpp2,hpos2,.inl ⟨rfl,rfl,rfl,hg2,hrd2,hk2,rfl,rfl⟩⟩)
   |true=>
    by_cases hlt:tb2.c0<last2
    ·have hM:=hgo (fun _=>⟨rfl,hlt⟩)
     have hms:(if(true:Bool)=true∧(true:Bool)=false then 0 else 1)=1:=if_neg (by simp)
     repeat(first|(refine st ?_;intros)|refine G.draw [] (h:= ?_))
     refine R.call (hct:=hM) (h:= ?_)
     rintro _ _ ⟨cd3,ca3,W3,⟨pos3,ok3,begun3,tb3,last3,any3,cx3,cb3,op3⟩,e,rfl,rfl,hW3,hE3,hd3,hσ3,hl3,hla3,han3,hbg3,hpp3,hpos3,hc3⟩
     try dsimp only[AA,AB]
     dsimp only at hW3 hE3 hd3 hσ3 hl3 hla3 han3 hbg3 hpp3 hpos3 hc3⊢
     rcases hc3 with⟨rfl,g1,g2,g3,g4⟩|⟨rfl,f1,f2,f3⟩
     ·repeat(first|(refine st ?_;intros)|refine G.draw [] (h:= ?_))
      refine Dn.round ⟨cd3,ca3,W3,⟨pos3,ok3,begun3,tb3,last3,any3,cx3,cb3,op3⟩⟩ ⟨hW3,hE3,hd3,hσ3,hl3,hpp3,hpos3,g1,g2,g3,han3,hla3⟩ (by dsimp only;rw[hms];exact g4)
     ·repeat(first|(refine st ?_;intros)|refine G.draw [] (h:= ?_))
      (refine Dn.post (Hr:=[[(bl,row [.func (.func 55) #[pv bx] #[],.int .i64 tb3.c0,.int .i64 tb3.c1,.int .i64 tb3.c2,.int .i64 tb3.c3,.int .i64 tb3.c4,.bool ok3,.bool begun3,.int .i64 (key:Int),.int .i64 (value:Int),.int .i64 (to:Int),.int .i64 last3,.bool any3] 138)],aAh bw bd ba bs,cd3,ca3,cs,cx3,cb3]) Tryz.results87 (hR:= ?_);exact⟨cd3,ca3,W3,⟨pos3,ok3,begun3,tb3,last3,any3,cx3,cb3,op3⟩,t,false,6,by rw[←hbk];rfl,rfl,hW3,hE3,hd3,hσ3,hl3,hpp3,hpos3,.inr ⟨rfl,f1,f2,f3⟩⟩)
    ·by_cases heq:tb2.c0=last2
     ·have hv:=hk2.hit hrise rfl rfl heq value
      dsimp only at hv
      have hset1:=hout _ hv
      have hfin:=hlF
      have hrow:([.func (.func 55) #[pv bx] #[],.int .i64 tb2.c0,.int .i64 tb2.c1,.int .i64 tb2.c2,.int .i64 tb2.c3,.int .i64 tb2.c4,.bool true,.bool true,.int .i64 (key:Int),.int .i64 (value:Int),.int .i64 (to:Int),.int .i64 last2,.bool true]:List Value)[1+value]? =some (.int .i64 (tb2.col value)):=by
       match value,hval with
       |0,_=>rfl
       |1,_=>rfl
       |2,_=>rfl
       |3,_=>rfl
       |4,_=>rfl
      have h2l:(aAl (aXn t to (lkV bts last2 value))).length=5:=rfl
      have h2a:(aAl (aXn t to (lkV bts last2 value))).all Value.oneCell'=true:=rfl
      generalize aAl (aXn t to (lkV bts last2 value))=c2 at*
      have hld2:(c2.drop 0).take 5=c2:=by rw[C9,A4 (by omega)]
      have hs52:=bJa h2l
      generalize tb2.col value=y at*
      repeat(first|(refine st ?_;intros)|refine G.draw [] (h:= ?_))
      (refine Dn.post (Hr:=[[(bl,row [.func (.func 55) #[pv bx] #[],.int .i64 tb2.c0,.int .i64 tb2.c1,.int .i64 tb2.c2,.int .i64 tb2.c3,.int .i64 tb2.c4,.bool true,.bool true,.int .i64 (key:Int),.int .i64 (value:Int),.int .i64 (to:Int),.int .i64 last2,.bool true] 138)],aAh bw bd ba bs,cd2,ca2,cs,cx2,cb2]) Tryz.results87 (hR:= ?_);exact⟨cd2,ca2,W2,⟨pos2,true,true,tb2,last2,true,cx2,cb2,op2⟩,aEv bts key value to t,true,0,by rw[←hfin];rfl,rfl,hW2,hE2,hd2,hσ2,hl2,hpp2,hpos2,.inl ⟨rfl,rfl,rfl,hg2,hrd2,hk2,rfl,rfl⟩⟩)
     ·have hv:=hk2.over hrise rfl rfl (by dsimp only;omega) value
      have hset1:=hout _ hv
      have hfin:=hlF
      have h2l:(aAl (aXn t to (lkV bts last2 value))).length=5:=rfl
      have h2a:(aAl (aXn t to (lkV bts last2 value))).all Value.oneCell'=true:=rfl
      generalize aAl (aXn t to (lkV bts last2 value))=c2 at*
      have hld2:(c2.drop 0).take 5=c2:=by rw[C9,A4 (by omega)]
      have hs52:=bJa h2l
      repeat(first|(refine st ?_;intros)|refine G.draw [] (h:= ?_))
      (refine Dn.post (Hr:=[[(bl,row [.func (.func 55) #[pv bx] #[],.int .i64 tb2.c0,.int .i64 tb2.c1,.int .i64 tb2.c2,.int .i64 tb2.c3,.int .i64 tb2.c4,.bool true,.bool true,.int .i64 (key:Int),.int .i64 (value:Int),.int .i64 (to:Int),.int .i64 last2,.bool true] 138)],aAh bw bd ba bs,cd2,ca2,cs,cx2,cb2]) Tryz.results87 (hR:= ?_);exact⟨cd2,ca2,W2,⟨pos2,true,true,tb2,last2,true,cx2,cb2,op2⟩,aEv bts key value to t,true,0,by rw[←hfin];rfl,rfl,hW2,hE2,hd2,hσ2,hl2,hpp2,hpos2,.inl ⟨rfl,rfl,rfl,hg2,hrd2,hk2,rfl,rfl⟩⟩)
end Go.Proofs.YtammjnjpheobaaaGreat
