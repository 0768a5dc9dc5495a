/-
  Parts of the proof, put together: JobF, JobR, SortErr, JobB, JobM, JobL, NewWork, LayK, Rws. No condition.
-/
import Derived.Test.YtammjnjpheobaaaGreatK19
set_option linter.unusedVariables false
set_option linter.unusedSimpArgs false
set_option linter.unnecessarySimpa false
set_option maxHeartbeats 4000000
namespace Go.Proofs.YtammjnjpheobaaaGreat
open Go.SL Go.Spc Go.Tup Go.Srt
theorem JobW.take1 {p:Jp} {J:Jb} {held:List (Fl×List T5)} {W W':Wk} {cd ca cs:Chunk} (h:JobW p J held W) (hW:Wc p.bd p.ba p.bs W cd ca cs) {f:Fl} {us:List T5} {l1 l2:List (Fl×List T5)} (he:held=l1++(f,us)::l2)
  (hδ:W'.δ=W.δ) (hα:W'.α=W.α) (hn:W'.σ.n=W.σ.n) (hb:Go.Spc.big W.σ.free≤Go.Spc.big W'.σ.free) (hl:W'.live.Perm (addFs ((l1++l2).map (·.1)) p.L0)) {G':List (Fl×List T5)} (hG:J.e=0→∃ts,J.G.Perm ((f,ts)::G')):JobW p ⟨J.e,J.er,G',J.acts,J.took⟩ (l1++l2) W':=by
 refine⟨by rw[hα];exact h.gs,by rw[hα];exact h.room,by rw[hδ];exact h.size,hn.trans h.n,hl,?_,?_,by rw[hδ];exact h.keep,by rw[hδ];exact h.flt,by rw[hδ];exact h.acts,Nat.le_trans h.tk (Nat.add_le_add_right hb _),fun e0=> ?_,h.why⟩
 ·intro x hx
  rw[hδ]
  refine h.files x ?_
  rw[he]
  simp only[List.mem_append,List.mem_cons] at hx⊢
  rcases hx with h|h
  ·exact .inl h
  ·exact .inr (.inr h)
 ·have:=h.len;rw[he] at this;simp at this⊢;omega
 ·obtain⟨h1,h2⟩:=h.ok e0
  obtain⟨ts,h3⟩:=hG e0
  have h4:(f,ts)∈held:=h1.mem_iff.2 (h3.mem_iff.2 List.mem_cons_self)
  obtain rfl:=h.uniq hW he h4
  have h5:=h1.trans h3
  rw[he] at h5
  exact⟨(List.perm_middle.symm.trans h5).cons_inv,h2⟩
structure JFreeX where
 k:Nat
 held:List (Fl×List T5)
 ph:Option Addr
 cap:Nat
 ch:Chunk
 cs:Chunk
 W:Wk
theorem split_get {α:Type} {l:List α} {i:Nat} {x:α} (h:l[i]? =some x):∃l1 l2,l=l1++x::l2∧l1.length=i:=by
 obtain⟨hi,rfl⟩:=List.getElem?_eq_some_iff.1 h
 exact⟨l.take i,l.drop (i+1),by rw[←List.drop_eq_getElem_cons hi,List.take_append_drop],by simp;omega⟩
theorem fcells_split (l1 l2:List Fl) (f:Fl) (rest:List Value):((fcells (l1++f::l2)++rest).drop ((l1.length+1)*4)).take (l2.length*4)=fcells l2:=by
 rw[fcells_app,fcells_cons,←List.append_assoc,List.append_assoc (fcells l1++fl4 f)]
 have h1:(fcells l1++fl4 f).length=(l1.length+1)*4:=by rw[List.length_append,fcells_length];simp[fl4];omega
 rw[←h1,List.drop_left]
 rw[←fcells_length,List.take_left]
theorem fcells_front (l1 l2:List Fl) (rest:List Value):fcells (l1++l2)++rest=fcells l1++(fcells l2++rest):=by rw[fcells_app,List.append_assoc]
theorem fcells_one (l:List Fl):(fcells l).all Value.oneCell'=true:=by
 induction l with
 |nil=>rfl
 |cons f l ih=>rw[fcells_cons,List.all_append,ih];rfl
theorem JFree_mem (p:Jp) (hp:p.Ok) (J:Jb) (held0:List (Fl×List T5)) (W0:Wk) (cd ca cs0:Chunk) (hW0:Wc p.bd p.ba p.bs W0 cd ca cs0) (hJ0:JobW p J held0 W0) (ph0:Option Addr) (cap0:Nat) (ch0:Chunk) (hV0:Vec 27 4 ph0 held0.length cap0 (fcells (held0.map (·.1))) ch0)
  (fs:List Fl) (fts G':List (Fl×List T5)) (hG:J.e=0→J.G.Perm (fts++G')∧fs=fts.map (·.1)) (hfl:fs.length≤1000) (pa:Option Addr) (cap:Nat) (cf:Chunk) (hVf:Vec 27 4 pa fs.length cap (fcells fs) cf):
  Ct Tryz.prog 110 [pv p.bj,.slice pa fs.length cap] [jrow p.bj p.bw J.e ph0 held0.length cap0,ch0,wrow p.bw p.bd p.ba p.bs,cs0,cf] fun v H'=>
   ∃held ph cap' ch cs W,v= .tuple #[]∧H'=[jrow p.bj p.bw J.e ph held.length cap',ch,wrow p.bw p.bd p.ba p.bs,cs,cf]∧Wc p.bd p.ba p.bs W cd ca cs∧Vec 27 4 ph held.length cap' (fcells (held.map (·.1))) ch∧JobW p ⟨J.e,J.er,G',J.acts,J.took⟩ held W:=by
 unfold jrow
 refine Ct.intro Tryz.func110 rfl Tryz.ntmps110 (nle rfl) fun w0=> ?_;dsimp only[argSlots,Nat.reduceAdd]
 repeat(first|(refine st ?_;intros)|refine G.draw [] (h:= ?_))
 refine G.loop (X:=JFreeX) (fun x=>x.k≤fs.length∧Wc p.bd p.ba p.bs x.W cd ca x.cs∧Vec 27 4 x.ph x.held.length x.cap (fcells (x.held.map (·.1))) x.ch∧JobW p ⟨J.e,J.er,fts.drop x.k++G',J.acts,J.took⟩ x.held x.W)
  (fun x=>[(10,.int .i64 (x.k:Int)),(9,.int .i64 (fs.length:Int)),(8,.slice pa fs.length cap),(0,pv p.bj)])
  (fun x=>[[(p.bj,row [pv p.bw,.int .i64 J.e,.slice x.ph x.held.length x.cap] 95)],x.ch,wrow p.bw p.bd p.ba p.bs,x.cs,cf]) (fun x=>fs.length-x.k) ⟨0,held0,ph0,cap0,ch0,cs0,W0⟩
  ⟨Nat.zero_le _,hW0,hV0,{hJ0 with ok:=fun e0=>⟨(hJ0.ok e0).1.trans (by simpa using(hG e0).1),(hJ0.ok e0).2⟩}⟩ (body:= ?_)
 rintro⟨k,held,ph,hcap,ch,cs,W⟩ ⟨hk,hW,hV,hJ⟩
 dsimp only at hk hW hV hJ⊢
 have hlen:=hJ.len
 by_cases hlt:k<fs.length
 ·obtain⟨fb,frest,rfl,rfl,hfr,hfc,hfm⟩:∃b rest,pa=some ⟨b,0,none⟩∧cf=[(b,row (fcells fs++rest) 27)]∧cap*4≤(fcells fs).length+rest.length∧fs.length≤cap∧cap≤maxLen:=by
   rcases hVf.2 with⟨_,e,_⟩|hh
   ·omega
   ·exact hh
  have hfk:fs[k]? =some fs[k]:=List.getElem?_eq_getElem hlt
  have hgf:=fc_get (rs:=fs.map fun f=>(f,[])) (rest:=frest) (j:=k) (r:=(fs[k],[])) (by simp[hfk])
  rw[List.map_map] at hgf
  have hid:(fs.map ((fun x:Fl×List T5=>x.1)∘fun f=>(f,[])))=fs:=by simp[Function.comp_def]
  rw[hid] at hgf
  have hG2:J.e=0→∃ts,(fts.drop k++G').Perm ((fs[k],ts)::(fts.drop (k+1)++G')):=by
   intro e0
   obtain⟨_,h2⟩:=hG e0
   have h3:k<fts.length:=by have:=congrArg List.length h2;rw[List.length_map] at this;omega
   refine⟨fts[k].2,?_⟩
   rw[List.drop_eq_getElem_cons h3]
   have h4:fs[k]=fts[k].1:=by simp[h2]
   rw[h4];exact .refl _
  generalize hf:fs[k]=f at*
  generalize hfcells:fcells fs++frest=fcs at*
  obtain⟨f1,f2,f3,f4⟩:=f
  dsimp only at hgf
  have hmaxl:held.length≤maxLen:=by simp only[maxLen];omega
  repeat(first|(refine st ?_;intros)|refine G.draw [] (h:= ?_))
  rename_i b5
  refine G.loop (X:=Nat) (fun i=>i≤held.length∧∀j x,j<i→held[j]? =some x→x.1≠⟨f1,f2,f3,f4⟩)
   (fun i=>[(19,.int .i64 (i:Int)),(18,.int .i64 (held.length:Int)),(17,.slice ph held.length hcap),(5,pv b5),(10,.int .i64 (k:Int)),(9,.int .i64 (fs.length:Int)),(8,.slice (some ⟨fb,0,none⟩) fs.length cap),(0,pv p.bj)])
   (fun _=>[[(b5,row [.int .i64 (f1:Int),.int .i64 (f2:Int),.int .i64 (f3:Int),.int .i64 (f4:Int)] 27)],[(p.bj,row [pv p.bw,.int .i64 J.e,.slice ph held.length hcap] 95)],ch,wrow p.bw p.bd p.ba p.bs,cs,[(fb,row fcs 27)]]) (fun i=>held.length-i) 0 ⟨Nat.zero_le _,fun j x h=>by omega⟩ (body:= ?_)
  rintro i ⟨hi,hno⟩
  by_cases hlt2:i<held.length
  ·obtain⟨vb,rest,rfl,rfl,hvl,hmc,hcm⟩:∃b rest,ph=some ⟨b,0,none⟩∧ch=[(b,row (fcells (held.map (·.1))++rest) 27)]∧hcap*4≤(fcells (held.map (·.1))).length+rest.length∧held.length≤hcap∧hcap≤maxLen:=by
    rcases hV.2 with⟨_,e,_⟩|hh
    ·omega
    ·exact hh
   have hli:held[i]? =some held[i]:=List.getElem?_eq_getElem hlt2
   have hget:=fc_get (rest:=rest) hli
   generalize hx:held[i]=x at*
   obtain⟨⟨x1,x2,x3,x4⟩,us⟩:=x
   dsimp only at hget
   by_cases hxf:x1=f1∧x2=f2∧x3=f3∧x4=f4
   ·obtain⟨rfl,rfl,rfl,rfl⟩:=hxf
    obtain⟨l1,l2,e1,hl1⟩:=split_get hli
    have hlv:W.live.Perm (addF ⟨x1,x2,x3,x4⟩ (addFs ((l1++l2).map (·.1)) p.L0)):=by
     refine hJ.live.trans ((addFs_perm (b:=⟨x1,x2,x3,x4⟩::(l1++l2).map (·.1)) ?_ _).trans (addFs_cons _ _ _))
     rw[e1];simp
    have hF:=Free_u p.bw p.bd p.ba p.bs W cd ca cs hW ⟨x1,x2,x3,x4⟩ _ (LvOf.add hlv)
    have hflv:flv ⟨x1,x2,x3,x4⟩= .agg #[.int .i64 (x1:Int),.int .i64 (x2:Int),.int .i64 (x3:Int),.int .i64 (x4:Int)]:=rfl
    rw[hflv] at hF
    have hhl:held.length=i+1+l2.length:=by rw[e1];simp;omega
    have hl12:(l1++l2).length=i+(held.length-(i+1)):=by rw[List.length_append];omega
    have hmap:held.map (·.1)=l1.map (·.1)++⟨x1,x2,x3,x4⟩::l2.map (·.1):=by rw[e1];simp
    have hl1m:(l1.map (·.1)).length=i:=by rw[List.length_map];exact hl1
    have hnews:=fcells_split (l1.map (·.1)) (l2.map (·.1)) ⟨x1,x2,x3,x4⟩ rest
    have hfront:=fcells_front (l1.map (·.1)) (⟨x1,x2,x3,x4⟩::l2.map (·.1)) rest
    rw[←hmap] at hnews hfront
    have hnl:held.length-(i+1)=(l2.map (·.1)).length:=by rw[List.length_map];omega
    rw[hl1m,←hnl] at hnews
    have hnll:(fcells (l2.map (·.1))).length=(held.length-(i+1))*4:=by rw[fcells_length,hnl]
    have hone:=fcells_one (l2.map (·.1))
    generalize hc2:fcells (held.map (·.1))++rest=cells at*
    have hcl:hcap*4≤cells.length:=by rw[←hc2,List.length_append];exact hvl
    have hVi:Vec 27 4 (some ⟨vb,0,none⟩) i i (fcells (l1.map (·.1))) [(vb,row cells 27)]:=by
     refine Vec.mk' hfront (by rw[fcells_length,hl1m]) (by omega) (Nat.le_refl _) (by omega)
    have ei:((i:Int)+1).toNat=i+1:=by omega
    have hJ':∀W',W'.δ=W.δ→W'.α=W.α→W'.σ.n=W.σ.n→big W.σ.free≤big W'.σ.free→W'.live=addFs ((l1++l2).map (·.1)) p.L0→JobW p ⟨J.e,J.er,fts.drop (k+1)++G',J.acts,J.took⟩ (l1++l2) W':=by
     intro W' a1 a2 a3 a4 a5
     exact hJ.take1 hW e1 a1 a2 a3 a4 (by rw[a5]) (fun e0=>hG2 e0)
    by_cases hend:i+1<held.length
    ·repeat(first|(refine st ?_;intros)|refine G.draw [] (h:= ?_))
     rename_i p' cap' ch' hV'
     refine R.call (hct:=hF) (h:= ?_)
     rintro _ _ ⟨cs',W',rfl,rfl,hW',hE',hδ',hα',hl'⟩
     try dsimp only[List.cons_append,List.nil_append]
     repeat(first|(refine st ?_;intros)|refine G.draw [] (h:= ?_))
     have hV2:Vec 27 4 p' (l1++l2).length cap' (fcells ((l1++l2).map (·.1))) ch':=by rw[hl12,List.map_append,fcells_app];exact hV'
     rw[←hl12]
     refine Dn.round ⟨k+1,l1++l2,p',cap',ch',cs',W'⟩ ⟨hlt,hW',hV2,hJ' W' hδ' hα' hE'.n hE'.big hl'⟩ (by dsimp only;omega)
    ·have hz0:held.length-(i+1)=0:=by omega
     obtain rfl:l2=[]:=List.length_eq_zero_iff.1 (by omega)
     have hV2:Vec 27 4 (some ⟨vb,0,none⟩) (l1++[]).length i (fcells ((l1++([]:List (Fl×List T5))).map (·.1))) [(vb,row cells 27)]:=by rw[List.append_nil,hl1];exact hVi
     have hj:Value.slice (some ⟨vb,0,none⟩) i i= .slice (some ⟨vb,0,none⟩) (l1++([]:List (Fl×List T5))).length i:=by rw[List.append_nil,hl1]
     by_cases hcp:i+1<hcap
     ·repeat(first|rw[hz0]|(apply R.append0;exact rfl;exact rfl;exact Nat.le_refl _;exact rfl;exact nle rfl)|(refine st ?_;intros)|refine G.draw [] (h:= ?_))
      refine R.call (hct:=hF) (h:= ?_)
      rintro _ _ ⟨cs',W',rfl,rfl,hW',hE',hδ',hα',hl'⟩
      try dsimp only[List.cons_append,List.nil_append]
      repeat(first|(refine st ?_;intros)|refine G.draw [] (h:= ?_))
      rw[hj]
      refine Dn.round ⟨k+1,l1++[],some ⟨vb,0,none⟩,i,[(vb,row cells 27)],cs',W'⟩ ⟨hlt,hW',hV2,hJ' W' hδ' hα' hE'.n hE'.big hl'⟩ (by dsimp only;omega)
     ·repeat(first|rw[hz0]|(apply R.append0;exact rfl;exact rfl;exact Nat.le_refl _;exact rfl;exact nle rfl)|(refine st ?_;intros)|refine G.draw [] (h:= ?_))
      refine R.call (hct:=hF) (h:= ?_)
      rintro _ _ ⟨cs',W',rfl,rfl,hW',hE',hδ',hα',hl'⟩
      try dsimp only[List.cons_append,List.nil_append]
      repeat(first|(refine st ?_;intros)|refine G.draw [] (h:= ?_))
      rw[hj]
      refine Dn.round ⟨k+1,l1++[],some ⟨vb,0,none⟩,i,[(vb,row cells 27)],cs',W'⟩ ⟨hlt,hW',hV2,hJ' W' hδ' hα' hE'.n hE'.big hl'⟩ (by dsimp only;omega)
   ·generalize hc2:fcells (held.map (·.1))++rest=cells at*
    repeat(first|(refine st ?_;intros)|refine G.draw [] (h:= ?_))
    refine Dn.round (i+1) ⟨by omega,fun j y hj hy=> ?_⟩ (by omega)
    by_cases hji:j=i
    ·subst hji
     rw[hli] at hy
     simp only[Option.some.injEq] at hy
     subst hy
     intro h0
     simp only[Fl.mk.injEq] at h0
     exact hxf h0
    ·exact hno j y (by omega) hy
  ·have hne:J.e≠0:=by
    intro e0
    obtain⟨ts,h1⟩:=hG2 e0
    have h2:((⟨f1,f2,f3,f4⟩,ts):Fl×List T5)∈held:=(hJ.ok e0).1.mem_iff.2 (h1.mem_iff.2 List.mem_cons_self)
    obtain⟨j,hj,he⟩:=List.getElem_of_mem h2
    exact hno j _ (by omega) (List.getElem?_eq_getElem hj) (by rw[he])
   repeat(first|(refine st ?_;intros)|refine G.draw [] (h:= ?_))
   refine Dn.round ⟨k+1,held,ph,hcap,ch,cs,W⟩ ⟨hlt,hW,hV,{hJ with ok:=fun e0=>absurd e0 hne}⟩ (by dsimp only;omega)
 ·obtain rfl:k=fs.length:=by omega
  repeat(first|(refine st ?_;intros)|refine G.draw [] (h:= ?_))
  (refine Dn.postEnd (Hr:=[[(p.bj,row [pv p.bw,.int .i64 J.e,.slice ph held.length hcap] 95)],ch,wrow p.bw p.bd p.ba p.bs,cs,cf]) Tryz.results110 (hR:= ?_);refine⟨held,ph,hcap,ch,cs,W,rfl,rfl,hW,hV,{hJ with ok:=fun e0=> ?_}⟩)
  have h2:=congrArg List.length (hG e0).2
  rw[List.length_map] at h2
  have h3:=hJ.ok e0
  dsimp only at h3
  rw[h2,List.drop_length,List.nil_append] at h3
  exact h3
theorem JFree (p:Jp) (hp:p.Ok) (J:Jb) (C:Chunk) (hJ:JobC p J C) (fs:List Fl) (fts G':List (Fl×List T5)) (hG:J.e=0→J.G.Perm (fts++G')∧fs=fts.map (·.1)) (hfl:fs.length≤1000) (pa:Option Addr) (cap:Nat) (cf:Chunk) (hVf:Vec 27 4 pa fs.length cap (fcells fs) cf):
  Ct Tryz.prog 110 [pv p.bj,.slice pa fs.length cap] [C,cf] fun v H'=>∃C',v= .tuple #[]∧H'=[C',cf]∧JobC p ⟨J.e,J.er,G',J.acts,J.took⟩ C':=by
 obtain⟨W,cd,ca,cs,held,ph,capj,ch,rfl,hW,hV,hJW⟩:=hJ
 refine Ct.convP (Ct.wide (JFree_mem p hp J held W cd ca cs hW hJW ph capj ch hV fs fts G' hG hfl pa cap cf hVf) [cd,ca]) (by unfold jobC;refine permC fun z=> ?_;simp only[List.flatten_cons,List.flatten_nil,List.append_nil,List.flatten_append,List.count_append];omega) ?_
 rintro v H' ⟨H1,⟨held',ph',cap',ch',cs',W',rfl,rfl,hW',hV',hJ'⟩,rfl⟩
 refine⟨[jobC p J.e cd ca cs' ph' held'.length cap' ch',cf],⟨_,rfl,rfl,W',cd,ca,cs',held',ph',cap',ch',rfl,hW',hV',hJ'⟩,?_⟩
 unfold jobC;refine permC fun z=> ?_;simp only[List.flatten_cons,List.flatten_nil,List.append_nil,List.flatten_append,List.count_append];omega
def StepPost (p:Jp) (W:Wk) (A T:Nat) (er:Option Nat) (ts:List T5) (R:Fl→Int→Hp→Prop) (jr:Chunk) (v:Value) (H':Hp):Prop:=∃f e cd' ca' cs' W' Hx',v= .tuple #[flv f,.int .i64 e]∧
 H'=jr::wrow p.bw p.bd p.ba p.bs::cd'::ca'::cs'::Hx'∧Wc p.bd p.ba p.bs W' cd' ca' cs'∧Stepped p W W' A T er ts f e∧R f e Hx'
def StepCt (p:Jp) (J:Jb) (mk:Nat) (us:List Value) (Hx:Hp) (A T:Nat) (er:Option Nat) (ts:List T5) (R:Fl→Int→Hp→Prop):Prop:=
 ∀W cd ca cs held ph cap,Wc p.bd p.ba p.bs W cd ca cs→JobW p J held W→
  Ct Tryz.prog mk us (jrow p.bj p.bw 0 ph held.length cap::wrow p.bw p.bd p.ba p.bs::cd::ca::cs::Hx) (StepPost p W A T er ts R (jrow p.bj p.bw 0 ph held.length cap))
theorem JRun (p:Jp) (hp:p.Ok) (J:Jb) (C:Chunk) (hJ:JobC p J C) (mk:Nat) (hcal:Callable Tryz.prog mk) (us:List Value) (Hx:Hp) (A T:Nat) (er:Option Nat) (ts:List T5) (R:Fl→Int→Hp→Prop) (hst:J.e=0→StepCt p J mk us Hx A T er ts R) (hGl:J.G.length≤1000):
  Ct Tryz.prog 45 [pv p.bj,.func (.func mk) #[] us.toArray] (C::Hx) fun v H'=>∃f C' e' Hx',v=flv f∧H'=C'::Hx'∧JobC p ⟨e',J.er.or er,(f,ts)::J.G,J.acts+A,J.took+T⟩ C'∧
   ((J.e=0∧R f e' Hx')∨(J.e≠0∧e'=J.e∧f=⟨0,0,0,0⟩∧Hx'=Hx)):=by
 obtain⟨W,cd,ca,cs,held,ph,capj,ch,rfl,hW,hVj,hJW⟩:=hJ
 by_cases he:J.e=0
 ·have hG:=hJW.ok he
  have hS:=hst he W cd ca cs held ph capj hW hJW
  have hS2:Ct Tryz.prog mk us [jrow p.bj p.bw 0 ph held.length capj,([wrow p.bw p.bd p.ba p.bs,cd,ca,cs]++Hx).flatten] (StepR (jrow p.bj p.bw 0 ph held.length capj) fun f e Hc'=>∃cd' ca' cs' W' Hx',Hc'=([wrow p.bw p.bd p.ba p.bs,cd',ca',cs']++Hx').flatten∧
    Wc p.bd p.ba p.bs W' cd' ca' cs'∧Stepped p W W' A T er ts f e∧R f e Hx'):=by
   refine Ct.convP hS (by simp) ?_
   rintro v H' ⟨f,e,cd',ca',cs',W',Hx',rfl,rfl,hW',hSt,hR⟩
   exact⟨[jrow p.bj p.bw 0 ph held.length capj,([wrow p.bw p.bd p.ba p.bs,cd',ca',cs']++Hx').flatten],⟨f,e,_,rfl,rfl,cd',ca',cs',W',Hx',rfl,hW',hSt,hR⟩,by simp⟩
  have hM2:=Run_yes p.bj p.bw ph held.length capj _ ch hVj (by have:=hJW.len;omega) mk hcal us _ _ hS2
  refine Ct.convP hM2 (by rw[he];unfold jobC;refine permC fun z=> ?_;simp only[List.flatten_cons,List.flatten_nil,List.append_nil,List.flatten_append,List.count_append];omega) ?_
  rintro v H' ⟨f,e,Hc',rfl,⟨cd',ca',cs',W',Hx',rfl,hW',hSt,hR⟩,hc⟩
  have hlh:held.length<100000:=by have h2:=hG.1.length_eq;omega
  have hJ':=hJW.step he hSt hlh
  rcases hc with⟨rfl,p',cap',ch',rfl,hV'⟩|⟨hne,rfl⟩
  ·refine⟨jobC p 0 cd' ca' cs' p' (held.length+1) cap' ch'::Hx',⟨f,_,0,Hx',rfl,rfl,⟨W',cd',ca',cs',held++[(f,ts)],p',cap',ch',by simp,hW',?_,by simpa using hJ'⟩,.inl ⟨he,hR⟩⟩,?_⟩
   ·simpa using hV'
   ·unfold jobC;refine permC fun z=> ?_;simp only[List.flatten_cons,List.flatten_nil,List.append_nil,List.flatten_append,List.count_append];omega
  ·refine⟨jobC p e cd' ca' cs' ph held.length capj ch::Hx',⟨f,_,e,Hx',rfl,rfl,⟨W',cd',ca',cs',held,ph,capj,ch,rfl,hW',hVj,by simpa[hne] using hJ'⟩,.inl ⟨he,hR⟩⟩,?_⟩
   unfold jobC;refine permC fun z=> ?_;simp only[List.flatten_cons,List.flatten_nil,List.append_nil,List.flatten_append,List.count_append];omega
 ·have hM2:=Ct.wide (Run_no p.bj p.bw J.e he ph held.length capj (.func (.func mk) #[] us.toArray)) ([wrow p.bw p.bd p.ba p.bs,cd,ca,cs,ch]++Hx)
  refine Ct.convP hM2 (by unfold jobC;refine permC fun z=> ?_;simp only[List.flatten_cons,List.flatten_nil,List.append_nil,List.flatten_append,List.count_append];omega) ?_
  rintro v H' ⟨H1,⟨rfl,rfl⟩,rfl⟩
  refine⟨jobC p J.e cd ca cs ph held.length capj ch::Hx,⟨⟨0,0,0,0⟩,_,J.e,Hx,rfl,rfl,⟨W,cd,ca,cs,held,ph,capj,ch,rfl,hW,hVj,hJW.idle he _ _ _ _⟩,.inr ⟨he,rfl,rfl,rfl⟩⟩,?_⟩
  unfold jobC;refine permC fun z=> ?_;simp only[List.flatten_cons,List.flatten_nil,List.append_nil,List.flatten_append,List.count_append];omega
structure DoneW (p:Jp) (J:Jb) (rs:List Fl) (W:Wk):Prop where
 gs:W.α.gs.Perm p.gs
 room:W.α.room=p.room
 size:W.δ.size=p.size
 n:W.σ.n=p.n
 keep:∀x,inF p.L0 x→W.δ.disk x=p.D0 x
 flt:¬p.fl→W.δ.fault= -1
 acts:W.δ.acts≤J.acts
 tk:p.b0≤big W.σ.free+J.took
 good:J.e=0→∀G1 G2,J.G.Perm (G1++G2)→rs=G1.map (·.1)→W.live.Perm (addFs rs p.L0)∧(∀x∈G1,FileOk W.δ.disk p.size [x.1.ext] x.1 x.2)∧J.er=none
 bad:J.e≠0→W.live.Perm p.L0∧((J.e=6∧p.fl)∨∃m:Nat,J.er=some m∧J.e=(m:Int))
structure ResX where
 k:Nat
 cs:Chunk
 W:Wk
def staysB (e:Int) (rs:List Fl) (x:Fl×List T5):Bool:=decide (e=0)&&rs.contains x.1
theorem addFs_zero:∀(fs:List Fl) (L:List Ext),(∀f∈fs,f.blocks=0)→addFs fs L=L
 |[],_,_=>rfl
 |f::fs,L,h=>by
  have h1:addFs (f::fs) L=addFs fs (addF f L):=rfl
  rw[h1]
  have h2:addF f L=L:=by unfold addF;rw[if_pos (h f List.mem_cons_self)]
  rw[h2]
  exact addFs_zero fs L fun g hg=>h g (List.mem_cons_of_mem _ hg)
theorem addFs_two (a b:List Fl) (L:List Ext):addFs (a++b) L=addFs b (addFs a L):=by simp[addFs]
theorem take_filter {α:Type} {q:α→Bool} {l:List α} {k:Nat} {x:α} (h:l[k]? =some x):(l.take (k+1)).filter q=(l.take k).filter q++(if q x then[x] else[]):=by
 rw[List.take_add_one,h,List.filter_append]
 simp only[Option.toList_some,List.filter_cons,List.filter_nil]
theorem JResult_mem (p:Jp) (hp:p.Ok) (J:Jb) (held:List (Fl×List T5)) (W0:Wk) (cd ca cs0:Chunk) (hW0:Wc p.bd p.ba p.bs W0 cd ca cs0) (hJ0:JobW p J held W0) (ph:Option Addr) (hcap:Nat) (ch:Chunk) (hV:Vec 27 4 ph held.length hcap (fcells (held.map (·.1))) ch)
  (rs:List Fl) (hfl:rs.length≤1000) (pa:Option Addr) (cap:Nat) (cf:Chunk) (hVf:Vec 27 4 pa rs.length cap (fcells rs) cf):
  Ct Tryz.prog 52 [pv p.bj,.slice pa rs.length cap] [jrow p.bj p.bw J.e ph held.length hcap,ch,wrow p.bw p.bd p.ba p.bs,cs0,cf] fun v H'=>
   ∃cs W,v= .int .i64 J.e∧H'=[wrow p.bw p.bd p.ba p.bs,cs,cf]∧Wc p.bd p.ba p.bs W cd ca cs∧DoneW p J rs W:=by
 unfold jrow
 have hlen:=hJ0.len
 refine Ct.intro Tryz.func52 rfl Tryz.ntmps52 (nle rfl) fun w0=> ?_;dsimp only[argSlots,Nat.reduceAdd]
 repeat(first|(refine st ?_;intros)|refine G.draw [] (h:= ?_))
 refine G.loop (X:=ResX) (fun x=>x.k≤held.length∧Wc p.bd p.ba p.bs x.W cd ca x.cs∧x.W.δ=W0.δ∧x.W.α=W0.α∧x.W.σ.n=W0.σ.n∧big W0.σ.free≤big x.W.σ.free∧x.W.live.Perm (addFs (((held.take x.k).filter (staysB J.e rs)++held.drop x.k).map (·.1)) p.L0))
  (fun x=>[(15,.int .i64 (x.k:Int)),(14,.int .i64 (held.length:Int)),(13,.slice ph held.length hcap),(1,.slice pa rs.length cap),(0,pv p.bj)])
  (fun x=>[[(p.bj,row [pv p.bw,.int .i64 J.e,.slice ph held.length hcap] 95)],ch,wrow p.bw p.bd p.ba p.bs,x.cs,cf]) (fun x=>held.length-x.k) ⟨0,cs0,W0⟩
  ⟨Nat.zero_le _,hW0,rfl,rfl,rfl,Nat.le_refl _,by simpa using hJ0.live⟩ (body:= ?_)
 rintro⟨k,cs,W⟩ ⟨hk,hW,hδ,hα,hσ,hbg,hl⟩
 dsimp only at hk hW hδ hα hσ hbg hl⊢
 by_cases hlt:k<held.length
 ·obtain⟨vb,rest,rfl,rfl,hvl,hmc,hcm⟩:∃b rest,ph=some ⟨b,0,none⟩∧ch=[(b,row (fcells (held.map (·.1))++rest) 27)]∧hcap*4≤(fcells (held.map (·.1))).length+rest.length∧held.length≤hcap∧hcap≤maxLen:=by
   rcases hV.2 with⟨_,e,_⟩|hh
   ·omega
   ·exact hh
  have hlk:held[k]? =some held[k]:=List.getElem?_eq_getElem hlt
  have hget:=fc_get (rest:=rest) hlk
  have htf:=take_filter (q:=staysB J.e rs) hlk
  have hdr:=List.drop_eq_getElem_cons hlt
  generalize hc2:fcells (held.map (·.1))++rest=cells at*
  generalize hx:held[k]=x at*
  obtain⟨⟨x1,x2,x3,x4⟩,us⟩:=x
  dsimp only at hget
  have hfree:staysB J.e rs (⟨x1,x2,x3,x4⟩,us)=false→W.live.Perm (addF ⟨x1,x2,x3,x4⟩ (addFs (((held.take (k+1)).filter (staysB J.e rs)++held.drop (k+1)).map (·.1)) p.L0)):=by
   intro hs
   rw[hs] at htf
   simp only[Bool.false_eq_true,if_false,List.append_nil] at htf
   rw[hdr] at hl
   refine hl.trans ((addFs_perm (b:=⟨x1,x2,x3,x4⟩::(((held.take (k+1)).filter (staysB J.e rs)++held.drop (k+1)).map (·.1))) ?_ _).trans (addFs_cons _ _ _))
   rw[htf]
   simp only[List.map_append,List.map_cons]
   exact List.perm_middle
  have hstay:staysB J.e rs (⟨x1,x2,x3,x4⟩,us)=true→W.live.Perm (addFs (((held.take (k+1)).filter (staysB J.e rs)++held.drop (k+1)).map (·.1)) p.L0):=by
   intro hs
   rw[hs] at htf
   simp only[if_true] at htf
   rw[hdr] at hl
   rw[htf,List.append_assoc,List.singleton_append]
   exact hl
  have hF:=fun Lv hl=>Free_u p.bw p.bd p.ba p.bs W cd ca cs hW ⟨x1,x2,x3,x4⟩ Lv hl
  have hflv:flv ⟨x1,x2,x3,x4⟩= .agg #[.int .i64 (x1:Int),.int .i64 (x2:Int),.int .i64 (x3:Int),.int .i64 (x4:Int)]:=rfl
  rw[hflv] at hF
  repeat(first|(refine st ?_;intros)|refine G.draw [] (h:= ?_))
  rename_i b6
  refine G.loop (X:=Nat×Bool) (fun y=>y.1≤rs.length∧y.2=dec ((⟨x1,x2,x3,x4⟩:Fl)∈rs.take y.1))
   (fun y=>[(21,.int .i64 (y.1:Int)),(20,.int .i64 (rs.length:Int)),(19,.slice pa rs.length cap),(7,.bool y.2),(6,pv b6),(15,.int .i64 (k:Int)),(14,.int .i64 (held.length:Int)),(13,.slice (some ⟨vb,0,none⟩) held.length hcap),(1,.slice pa rs.length cap),(0,pv p.bj)])
   (fun _=>[[(b6,row [.int .i64 (x1:Int),.int .i64 (x2:Int),.int .i64 (x3:Int),.int .i64 (x4:Int)] 27)],[(p.bj,row [pv p.bw,.int .i64 J.e,.slice (some ⟨vb,0,none⟩) held.length hcap] 95)],[(vb,row cells 27)],wrow p.bw p.bd p.ba p.bs,cs,cf]) (fun y=>rs.length-y.1) (0,false) ⟨Nat.zero_le _,(dec_false (by simp)).symm⟩ (body:= ?_)
  rintro⟨m,b⟩ ⟨hm,hb⟩
  dsimp only at hm hb⊢
  by_cases hlt2:m<rs.length
  ·obtain⟨fb,frest,rfl,rfl,hfr,hfc,hfm⟩:∃b rest,pa=some ⟨b,0,none⟩∧cf=[(b,row (fcells rs++rest) 27)]∧cap*4≤(fcells rs).length+rest.length∧rs.length≤cap∧cap≤maxLen:=by
    rcases hVf.2 with⟨_,e,_⟩|hh
    ·omega
    ·exact hh
   have hfk:rs[m]? =some rs[m]:=List.getElem?_eq_getElem hlt2
   have hgf:=fc_get (rs:=rs.map fun f=>(f,[])) (rest:=frest) (j:=m) (r:=(rs[m],[])) (by simp[hfk])
   rw[List.map_map] at hgf
   have hid:(rs.map ((fun x:Fl×List T5=>x.1)∘fun f=>(f,[])))=rs:=by simp[Function.comp_def]
   rw[hid] at hgf
   have hb1:(⟨x1,x2,x3,x4⟩:Fl)∈rs.take (m+1)↔(⟨x1,x2,x3,x4⟩:Fl)∈rs.take m∨(⟨x1,x2,x3,x4⟩:Fl)=rs[m]:=by
    rw[List.take_add_one,hfk,List.mem_append];simp
   generalize hf:rs[m]=f at*
   generalize hfcells:fcells rs++frest=fcs at*
   obtain⟨f1,f2,f3,f4⟩:=f
   dsimp only at hgf
   cases b with
   |true=>
    repeat(first|(refine st ?_;intros)|refine G.draw [] (h:= ?_))
    refine Dn.round (m+1,true) ⟨hlt2,(dec_true (hb1.2 (.inl (dec_iff.1 hb.symm)))).symm⟩ (by dsimp only;omega)
   |false=>
    have hnm:¬(⟨x1,x2,x3,x4⟩:Fl)∈rs.take m:=fun h=>by rw[dec_true h] at hb;cases hb
    repeat(first|(refine st ?_;intros)|refine G.draw [] (h:= ?_))
    refine Dn.round (m+1,dec ((f1:Int)=(x1:Int)∧(f2:Int)=(x2:Int)∧(f3:Int)=(x3:Int)∧(f4:Int)=(x4:Int))) ⟨hlt2,dec_congr ?_⟩ (by dsimp only;omega)
    rw[hb1,Fl.mk.injEq]
    constructor
    ·intro h;exact .inr (by omega)
    ·rintro(h|h)
     ·exact absurd h hnm
     ·omega
  ·obtain rfl:m=rs.length:=by omega
   rw[List.take_length] at hb
   have hsb:staysB J.e rs (⟨x1,x2,x3,x4⟩,us)=(decide (J.e=0)&&b):=by
    unfold staysB
    rw[hb,dec_eq]
    congr 1
    rw[Bool.eq_iff_iff];simp
   cases b with
   |true=>
    by_cases he:J.e=0
    ·have hs:=hstay (by rw[hsb,decide_eq_true he];rfl)
     repeat(first|(refine st ?_;intros)|refine G.draw [] (h:= ?_))
     refine Dn.round ⟨k+1,cs,W⟩ ⟨hlt,hW,hδ,hα,hσ,hbg,hs⟩ (by dsimp only;omega)
    ·have hs:=hF _ (LvOf.add (hfree (by rw[hsb,decide_eq_false he];rfl)))
     repeat(first|(refine st ?_;intros)|refine G.draw [] (h:= ?_))
     refine R.call (hct:=hs) (h:= ?_)
     rintro _ _ ⟨cs',W',rfl,rfl,hW',hE',hδ',hα',hl'⟩
     try dsimp only[List.cons_append,List.nil_append]
     repeat(first|(refine st ?_;intros)|refine G.draw [] (h:= ?_))
     refine Dn.round ⟨k+1,cs',W'⟩ ⟨hlt,hW',hδ'.trans hδ,hα'.trans hα,hE'.n.trans hσ,Nat.le_trans hbg hE'.big,by rw[hl']⟩ (by dsimp only;omega)
   |false=>
    have hs:=hF _ (LvOf.add (hfree (by rw[hsb,Bool.and_false])))
    repeat(first|(refine st ?_;intros)|refine G.draw [] (h:= ?_))
    refine R.call (hct:=hs) (h:= ?_)
    rintro _ _ ⟨cs',W',rfl,rfl,hW',hE',hδ',hα',hl'⟩
    try dsimp only[List.cons_append,List.nil_append]
    repeat(first|(refine st ?_;intros)|refine G.draw [] (h:= ?_))
    refine Dn.round ⟨k+1,cs',W'⟩ ⟨hlt,hW',hδ'.trans hδ,hα'.trans hα,hE'.n.trans hσ,Nat.le_trans hbg hE'.big,by rw[hl']⟩ (by dsimp only;omega)
 ·obtain rfl:k=held.length:=by omega
  rw[List.take_length,List.drop_length,List.append_nil] at hl
  repeat(first|(refine st ?_;intros)|refine G.draw [] (h:= ?_))
  (refine Dn.post (Hr:=[wrow p.bw p.bd p.ba p.bs,cs,cf]) Tryz.results52 (hR:= ?_);refine⟨cs,W,rfl,rfl,hW,?_⟩)
  refine⟨by rw[hα];exact hJ0.gs,by rw[hα];exact hJ0.room,by rw[hδ];exact hJ0.size,hσ.trans hJ0.n,by rw[hδ];exact hJ0.keep,by rw[hδ];exact hJ0.flt,by rw[hδ];exact hJ0.acts,Nat.le_trans hJ0.tk (Nat.add_le_add_right hbg _),?_,?_⟩
  ·rintro e0 G1 G2 hG rfl
   obtain⟨g1,g2⟩:=hJ0.ok e0
   have hp2:=g1.trans hG
   refine⟨?_,fun x hx=>by rw[hδ];exact hJ0.files x (hp2.mem_iff.2 (List.mem_append_left _ hx)),g2⟩
   refine hl.trans ((addFs_perm ((hp2.filter _).map _) _).trans ?_)
   have h1:G1.filter (staysB J.e (G1.map (·.1)))=G1:=List.filter_eq_self.2 fun x hx=>by
    unfold staysB
    rw[decide_eq_true e0,Bool.true_and]
    simp only[List.contains_iff_mem]
    exact List.mem_map.2 ⟨x,hx,rfl⟩
   rw[List.filter_append,h1,List.map_append,addFs_two,addFs_zero]
   intro f hf
   obtain⟨y,hy,rfl⟩:=List.mem_map.1 hf
   obtain⟨hy1,hy2⟩:=List.mem_filter.1 hy
   unfold staysB at hy2
   rw[decide_eq_true e0,Bool.true_and,List.contains_iff_mem] at hy2
   obtain⟨x,hx1,hx2⟩:=List.mem_map.1 hy2
   by_cases hb:y.1.blocks=0
   ·exact hb
   ·exfalso
    obtain⟨a,b,rfl⟩:=List.append_of_mem hy1
    have h3:W0.live.Perm (y.1.ext::addFs ((G1++(a++b)).map (·.1)) p.L0):=by
     refine hJ0.live.trans ((addFs_perm (b:=y.1::(G1++(a++b)).map (·.1)) ?_ _).trans ((addFs_cons _ _ _).trans ?_))
     ·refine(hp2.map _).trans ?_
      rw[←List.append_assoc]
      refine(List.perm_middle.map _).trans ?_
      rw[List.append_assoc];exact .refl _
     ·unfold addF;rw[if_neg hb]
    have h5:=hW0.live.perm h3
    have h6:y.1.ext∈addFs ((G1++(a++b)).map (·.1)) p.L0:=addFs_ext (List.mem_map.2 ⟨x,List.mem_append_left _ hx1,hx2⟩) hb
    have h7:=List.rel_of_pairwise_cons h5.apart h6
    have h8:y.1.ext.2=y.1.blocks:=rfl
    omega
  ·intro e0
   refine⟨?_,hJ0.why e0⟩
   have h1:held.filter (staysB J.e rs)=[]:=List.filter_eq_nil_iff.2 fun x _=>by
    unfold staysB;rw[decide_eq_false e0];simp
   rw[h1] at hl
   exact hl
theorem JResult (p:Jp) (hp:p.Ok) (J:Jb) (C:Chunk) (hJ:JobC p J C) (rs:List Fl) (hfl:rs.length≤1000) (pa:Option Addr) (cap:Nat) (cf:Chunk) (hVf:Vec 27 4 pa rs.length cap (fcells rs) cf):
  Ct Tryz.prog 52 [pv p.bj,.slice pa rs.length cap] [C,cf] fun v H'=>∃cd ca cs W,v= .int .i64 J.e∧H'=[wrow p.bw p.bd p.ba p.bs,cd,ca,cs,cf]∧Wc p.bd p.ba p.bs W cd ca cs∧DoneW p J rs W:=by
 obtain⟨W,cd,ca,cs,held,ph,capj,ch,rfl,hW,hV,hJW⟩:=hJ
 refine Ct.convP (Ct.wide (JResult_mem p hp J held W cd ca cs hW hJW ph capj ch hV rs hfl pa cap cf hVf) [cd,ca]) (by unfold jobC;refine permC fun z=> ?_;simp only[List.flatten_cons,List.flatten_nil,List.append_nil,List.flatten_append,List.count_append];omega) ?_
 rintro v H' ⟨H1,⟨cs',W',rfl,rfl,hW',hD⟩,rfl⟩
 refine⟨[wrow p.bw p.bd p.ba p.bs,cd,ca,cs',cf],⟨cd,ca,cs',W',rfl,rfl,hW',hD⟩,?_⟩
 refine permC fun z=> ?_;simp only[List.flatten_cons,List.flatten_nil,List.append_nil,List.flatten_append,List.count_append];omega
structure BegX where
 k:Nat
 ca:Chunk
 α:Ar
theorem fcells_get {fs:List Fl} {rest:List Value} {j:Nat} {f:Fl} (h:fs[j]? =some f):
  ((fcells fs++rest).drop (j*4)).take 4=[.int .i64 (f.first:Int),.int .i64 (f.blocks:Int),.int .i64 (f.width:Int),.int .i64 (f.count:Int)]:=by
 have hgf:=fc_get (rs:=fs.map fun f=>(f,[])) (rest:=rest) (j:=j) (r:=(f,[])) (by simp[h])
 rw[List.map_map] at hgf
 have hid:(fs.map ((fun x:Fl×List T5=>x.1)∘fun f=>(f,[])))=fs:=by simp[Function.comp_def]
 rw[hid] at hgf
 exact hgf
theorem vecpos {E sz:Nat} {p:Option Addr} {m cap:Nat} {xs:List Value} {c:Chunk} (h:Vec E sz p m cap xs c) (hm:0<m):∃b rest,p=some ⟨b,0,none⟩∧c=[(b,row (xs++rest) E)]∧cap*sz≤xs.length+rest.length∧m≤cap∧cap≤maxLen:=by
 rcases h.2 with⟨_,e,_⟩|hh
 ·omega
 ·exact hh
theorem Begin_ct (bw bd ba bs:Nat) (W:Wk) (cd ca cs:Chunk) (h:Wc bd ba bs W cd ca cs) (l:List (Fl×List T5)) (hl:∀x∈l,FileIn W x) (hll:l.length≤1000) (pa:Option Addr) (cap:Nat) (cf:Chunk) (hVf:Vec 27 4 pa l.length cap (fcells (l.map (·.1))) cf):
  Ct Tryz.prog 41 [pv bw,.slice pa l.length cap] [wrow bw bd ba bs,cd,ca,cs,cf] fun v H'=>∃ca' α',Wc bd ba bs {W with α:=α'} cd ca' cs∧α'.gs.Perm W.α.gs∧α'.room=W.α.room∧
   ((8*W.δ.size≤W.α.room-W.α.used∧∃bj,v= .tuple #[pv bj,.int .i64 0]∧H'=[jrow bj bw 0 none 0 0,wrow bw bd ba bs,cd,ca',cs,cf])∨
    (W.α.room-W.α.used<8*W.δ.size∧v= .tuple #[.pointer none,.int .i64 7]∧H'=[wrow bw bd ba bs,cd,ca',cs,cf])):=by
 have hWA:=WArena_ct bw bd ba bs
 have hWD:=WDevice_ct bw bd ba bs
 have hSz:=Size_ct bd W.δ cd h.dev
 obtain⟨⟨hs1,hs2⟩,_⟩:=h.dev.num
 have hmul:IntKind.wrap .i64 ((8:Int)*(W.δ.size:Int))=((8*W.δ.size:Nat):Int):=by rw[wrap_i64 (by omega)];omega
 unfold jrow
 refine Ct.intro Tryz.func41 rfl Tryz.ntmps41 (nle rfl) fun w0=> ?_;dsimp only[argSlots,Nat.reduceAdd]
 repeat(first|(refine st ?_;intros)|(refine cq hWA ?_)|(refine cq hWD ?_)|(refine cq hLf ?_)|(refine cq hSz ?_))
 refine G.loop (X:=BegX) (fun x=>x.k≤l.length∧Wc bd ba bs {W with α:=x.α} cd x.ca cs∧x.α.gs.Perm W.α.gs∧x.α.room=W.α.room)
  (fun x=>[(14,.int .i64 (x.k:Int)),(13,.int .i64 (l.length:Int)),(12,.slice pa l.length cap),(0,pv bw)])
  (fun x=>[wrow bw bd ba bs,cd,x.ca,cs,cf]) (fun x=>l.length-x.k) ⟨0,ca,W.α⟩ ⟨Nat.zero_le _,h,.refl _,rfl⟩ (body:= ?_)
 rintro⟨k,ca1,α1⟩ ⟨hk,hW,hg,hrm⟩
 dsimp only at hk hW hg hrm⊢
 have hus:α1.used=W.α.used:=used_eq h hW hg
 have hnum:=hW.ar.num
 dsimp only at hnum
 by_cases hlt:k<l.length
 ·obtain⟨fb,frest,rfl,rfl,hfr,hfc,hfm⟩:=vecpos hVf (by omega)
  have hfk:(l.map (·.1))[k]? =some (l[k]).1:=by simp[hlt]
  have hgf:=fcells_get (rest:=frest) hfk
  obtain⟨Lv,hfo,_⟩:=hl _ (List.getElem_mem hlt)
  have hRd:=Read_u bw bd ba bs {W with α:=α1} cd ca1 cs hW (l[k]).1 (l[k]).2 Lv hfo
  have hRm:=Read_room bw bd ba bs {W with α:=α1} cd ca1 cs hW (l[k]).1 hfo.w1 hfo.w2 hfo.cnt hfo.blk
  generalize (l[k]).2=ts at*
  generalize (l[k]).1=f at*
  generalize fcells (l.map (·.1))++frest=fcs at*
  obtain⟨f1,f2,f3,f4⟩:=f
  have hflv:flv ⟨f1,f2,f3,f4⟩= .agg #[.int .i64 (f1:Int),.int .i64 (f2:Int),.int .i64 (f3:Int),.int .i64 (f4:Int)]:=rfl
  rw[hflv] at hRd hRm
  dsimp only at hgf hRd hRm
  repeat(first|(refine st ?_;intros)|(refine cq hWA ?_)|(refine cq hWD ?_)|(refine cq hLf ?_)|(refine cq hSz ?_))
  by_cases hr:W.δ.size≤α1.room-α1.used
  ·have hRd2:=hRd hr
   refine R.call (hct:=hRd2) (h:= ?_)
   rintro _ _ ⟨bx,g,ca2,α2,cx,cb,rfl,rfl,hW2,hE2,hg2,hgn,hr2⟩
   try dsimp only[List.cons_append,List.nil_append]
   have hRc:=RClose_u bw bd ba bs {W with α:=α2} cd ca2 cs hW2 bx ⟨f1,f2,f3,f4⟩ ts g _ hg2 0 cx cb hr2
   repeat(first|(refine st ?_;intros)|(refine cq hWA ?_)|(refine cq hWD ?_)|(refine cq hLf ?_)|(refine cq hSz ?_))
   refine R.call (hct:=hRc) (h:= ?_)
   rintro _ _ ⟨ca5,α5,cx5,rfl,rfl,hW5,hE5,hg6,hx5⟩
   try dsimp only[List.cons_append,List.nil_append]
   repeat(first|(refine st ?_;intros)|(refine cq hWA ?_)|(refine cq hWD ?_)|(refine cq hLf ?_)|(refine cq hSz ?_))
   refine Dn.round ⟨k+1,ca5,α5⟩ ⟨hlt,hW5,hg6.trans hg,(hE5.room.trans hE2.room).trans hrm⟩ (by dsimp only;omega)
  ·have hR2:=hRm (by omega)
   refine R.call (hct:=hR2) (h:= ?_)
   rintro _ _ ⟨rfl,rfl⟩
   try dsimp only[List.cons_append,List.nil_append]
   repeat(first|(refine st ?_;intros)|(refine cq hWA ?_)|(refine cq hWD ?_)|(refine cq hLf ?_)|(refine cq hSz ?_))
   refine R.call (hct:=RClose_nil) (h:= ?_)
   rintro _ _ ⟨rfl,rfl⟩
   try dsimp only[List.cons_append,List.nil_append]
   repeat(first|(refine st ?_;intros)|(refine cq hWA ?_)|(refine cq hWD ?_)|(refine cq hLf ?_)|(refine cq hSz ?_))
   refine Dn.round ⟨k+1,ca1,α1⟩ ⟨hlt,hW,hg,hrm⟩ (by dsimp only;omega)
 ·obtain rfl:k=l.length:=by omega
  have hLf:=aLeft ba α1 ca1 hW.ar
  by_cases hr:8*W.δ.size≤W.α.room-W.α.used
  ·repeat(first|(refine st ?_;intros)|(refine cq hWA ?_)|(refine cq hWD ?_)|(refine cq hLf ?_)|(refine cq hSz ?_))
   rename_i bj
   (refine Dn.post (Hr:=[[(bj,row [pv bw,.int .i64 0,.slice none 0 0] 95)],wrow bw bd ba bs,cd,ca1,cs,cf]) Tryz.results41 (hR:= ?_);exact⟨ca1,α1,hW,hg,hrm,.inl ⟨hr,bj,rfl,rfl⟩⟩)
  ·repeat(first|(refine st ?_;intros)|(refine cq hWA ?_)|(refine cq hWD ?_)|(refine cq hLf ?_)|(refine cq hSz ?_))
   (refine Dn.post (Hr:=[wrow bw bd ba bs,cd,ca1,cs,cf]) Tryz.results41 (hR:= ?_);exact⟨ca1,α1,hW,hg,hrm,.inr ⟨by omega,rfl,rfl⟩⟩)
theorem Begin_nil (x:Value):CtQ Tryz.prog 41 [.pointer none,x] [] (.tuple #[.pointer none,.int .i64 1]):=by
 refine Ct.intro Tryz.func41 rfl Tryz.ntmps41 (nle rfl) fun w0=> ?_;dsimp only[argSlots,Nat.reduceAdd]
 repeat(refine st ?_;intros)
 (refine Dn.post (Hr:=[]) Tryz.results41 (hR:= ?_);exact⟨rfl,rfl⟩)
def begP (bw bd ba bs bj:Nat) (W:Wk):Jp:=⟨bw,bd,ba,bs,bj,W.δ.size,W.α.room,W.σ.n,W.α.gs,W.live,W.δ.disk,W.δ.fault≠-1,big W.σ.free⟩
theorem begun_job {bw bd ba bs bj:Nat} {W:Wk} {cd ca cs ca':Chunk} {α':Ar} (h:Wc bd ba bs W cd ca cs) (hW:Wc bd ba bs {W with α:=α'} cd ca' cs) (hg:α'.gs.Perm W.α.gs) (hr:α'.room=W.α.room) (hroom:8*W.δ.size≤W.α.room-W.α.used):
  (begP bw bd ba bs bj W).Ok∧JobC (begP bw bd ba bs bj W) ⟨0,none,[],W.δ.acts,0⟩ (jobC (begP bw bd ba bs bj W) 0 cd ca' cs none 0 0 []):=by
 obtain⟨⟨hs1,hs2⟩,_⟩:=h.dev.num
 have h1:=h.ar.num.2.2.2
 have h2:=h.ar.num.1
 refine⟨⟨⟨hs1,hs2⟩,by show(W.α.gs.map (·.n)).sum+8*W.δ.size≤W.α.room;omega⟩,{W with α:=α'},cd,ca',cs,[],none,0,[],rfl,hW,Vec.nil _ _,?_⟩
 exact⟨hg,hr,rfl,rfl,.refl _,by simp,Nat.zero_le _,fun _ _=>rfl,fun hf=>by simpa[begP] using hf,Nat.le_refl _,Nat.le_refl _,fun _=>⟨.refl _,rfl⟩,fun h0=>absurd rfl h0⟩
theorem begun_in0 {bw bd ba bs bj:Nat} {W:Wk} {x:Fl×List T5} (h:FileIn W x):In0 (begP bw bd ba bs bj W) x:=h
namespace Maker
variable {K:Type} {M:Maker K}
theorem bad_none (h:∀k t,M.err k t=none):∀(ts:List T5) (k:K),M.bad k ts=none
 |[],_=>rfl
 |t::ts,k=>by simp only[bad,h];exact bad_none h ts _
theorem oks_of {ok:K→T5→Prop} {I:K→Prop} {Q:T5→Prop} (h:∀k t,I k→Q t→ok k t∧I (M.next k t)):∀(ts:List T5) (k:K),I k→(∀t∈ts,Q t)→M.oks ok k ts
 |[],_,_,_=>trivial
 |t::ts,k,hI,hQ=>by
  obtain⟨h1,h2⟩:=h k t hI (hQ t List.mem_cons_self)
  exact⟨h1,fun _=>oks_of h ts _ h2 fun u hu=>hQ u (List.mem_cons_of_mem _ hu)⟩
end Maker
def mMap (g:T5→T5):Maker Unit:=⟨fun _=>[],fun _ t=>[g t],fun _ _=>(),fun _ _=>none⟩
theorem mMap_all (g:T5→T5):∀(ts:List T5) (k:Unit),(mMap g).all k ts=ts.map g
 |[],_=>rfl
 |t::ts,k=>by simp only[Maker.all,mMap_all g ts];rfl
def TailR (R:Value→Chunk→Prop) (v:Value) (H':Hp):Prop:=∃X',H'=[X']∧R v X'
def PutC (bx:Nat) (t:T5) (X:Chunk) (R:Value→Chunk→Prop):Prop:=Ct Tryz.prog 74 [pv bx,tv t] [X] (TailR R)
theorem MakeU.tail {g:T5→T5} {kk mk:Nat} {okt:T5→Prop} (hmk:∀bx t X R,PutC bx (g t) X R→Ct Tryz.prog mk [tv t,putV bx] [X] (TailR R)) (hok:∀t,okt t→okT kk (g t)):MakeU (mMap g) kk (fun _ t=>okt t) mk [] []:=by
 intro bx Pst Br bnd hP ps X k t hX hk hb
 refine(hmk bx t X _ (hP ps X (g t) hX (hok t hk) (by simp[mMap] at hb;omega))).mono ?_
 rintro v H' ⟨X',rfl,hR⟩
 rcases hR with⟨rfl,hX'⟩|⟨rfl,hB⟩
 ·exact⟨X',(),rfl,.inl ⟨rfl,rfl,rfl,hX'⟩⟩
 ·exact⟨X',(),rfl,.inr (.inl ⟨rfl,hB⟩)⟩
theorem in_m1:inI64 (-1):=⟨by decide,by decide⟩
theorem in_0:inI64 0:=⟨by decide,by decide⟩
theorem wrap_in (x:Int):inI64 (IntKind.wrap .i64 x):=by
 have h1:(9223372036854775808:Int)=2^(64-1):=by decide
 unfold inI64
 simp only[IntKind.wrap,IntKind.bits,IntKind.signed,Bool.true_and,decide_eq_true_eq,←h1]
 split<;>omega
theorem okT_cols {k:Nat} {t:T5} (h:okT k t):inI64 t.c0∧inI64 t.c1∧inI64 t.c2∧inI64 t.c3∧inI64 t.c4:=
 ⟨h.1 _ (by simp[T5.toList]),h.1 _ (by simp[T5.toList]),h.1 _ (by simp[T5.toList]),h.1 _ (by simp[T5.toList]),h.1 _ (by simp[T5.toList])⟩
theorem okTk {k:Nat} {a b c d e:Int} (ha:inI64 a) (hb:inI64 b) (hc:inI64 c) (hd:inI64 d) (he:inI64 e) (h0:k≤0→a=0) (h1:k≤1→b=0) (h2:k≤2→c=0) (h3:k≤3→d=0) (h4:k≤4→e=0):okT k ⟨a,b,c,d,e⟩:=by
 refine⟨fun x hx=> ?_,fun i hi=> ?_⟩
 ·simp only[T5.toList,List.mem_cons,List.not_mem_nil,or_false] at hx
  rcases hx with rfl|rfl|rfl|rfl|rfl<;>assumption
 ·match i with
  |0=>exact h0 hi
  |1=>exact h1 hi
  |2=>exact h2 hi
  |3=>exact h3 hi
  |4=>exact h4 hi
  |n+5=>rfl
theorem okT5 {a b c d e:Int} (ha:inI64 a) (hb:inI64 b) (hc:inI64 c) (hd:inI64 d) (he:inI64 e):okT 5 ⟨a,b,c,d,e⟩:=
 okTk ha hb hc hd he (by omega) (by omega) (by omega) (by omega) (by omega)
theorem okT1 {a:Int} (ha:inI64 a):okT 1 ⟨a,0,0,0,0⟩:=okTk ha in_0 in_0 in_0 in_0 (by omega) (by simp) (by simp) (by simp) (by simp)
theorem okT2 {a b:Int} (ha:inI64 a) (hb:inI64 b):okT 2 ⟨a,b,0,0,0⟩:=okTk ha hb in_0 in_0 in_0 (by omega) (by omega) (by simp) (by simp) (by simp)
theorem okT3 {a b c:Int} (ha:inI64 a) (hb:inI64 b) (hc:inI64 c):okT 3 ⟨a,b,c,0,0⟩:=okTk ha hb hc in_0 in_0 (by omega) (by omega) (by omega) (by simp) (by simp)
theorem cat_one (x:Fl×List T5):cat [x]=x.2:=by simp[cat]
theorem vec1 (b:Nat) (f:Fl):Vec 27 4 (some ⟨b,0,none⟩) [f].length 1 (fcells [f]) [(b,row (fl4 f) 27)]:=
 ⟨rfl,.inr ⟨b,[],rfl,by simp[fcells,fl4],by simp[fcells],by simp,by decide⟩⟩
theorem vec2 (b:Nat) (f g:Fl):Vec 27 4 (some ⟨b,0,none⟩) [f,g].length 2 (fcells [f,g]) [(b,row (fl4 f++fl4 g) 27)]:=
 ⟨rfl,.inr ⟨b,[],rfl,by simp[fcells,fl4],by simp[fcells],by simp,by decide⟩⟩
theorem or_none' (x:Option Nat):x.or none=x:=by cases x<;>rfl
theorem JRunK (p:Jp) (hp:p.Ok) (J:Jb) (C:Chunk) (hJ:JobC p J C) (mk:Nat) (hcal:Callable Tryz.prog mk) (us:List Value) (Hx:Hp) (A T:Nat) (er:Option Nat) (ts:List T5) (R:Fl→Int→Prop) (hst:J.e=0→StepCt p J mk us Hx A T er ts fun f e Hx'=>Hx'=Hx∧R f e) (hGl:J.G.length≤1000):
  Ct Tryz.prog 45 [pv p.bj,.func (.func mk) #[] us.toArray] (C::Hx) fun v H'=>∃f C' e',v=flv f∧H'=C'::Hx∧JobC p ⟨e',J.er.or er,(f,ts)::J.G,J.acts+A,J.took+T⟩ C'∧
   ((J.e=0∧R f e')∨(J.e≠0∧e'=J.e∧f=⟨0,0,0,0⟩)):=by
 refine(JRun p hp J C hJ mk hcal us Hx A T er ts _ hst hGl).mono ?_
 rintro v H' ⟨f,C',e',Hx',h1,rfl,h3,⟨h4,rfl,h5⟩|⟨h4,h5,h6,rfl⟩⟩
 ·exact⟨f,C',e',h1,rfl,h3,.inl ⟨h4,h5⟩⟩
 ·exact⟨f,C',e',h1,rfl,h3,.inr ⟨h4,h5,h6⟩⟩
def LayerR (bw bd ba bs:Nat) (W:Wk) (A T:Nat) (er:Option Nat) (ts:List T5) (wd:Nat) (v:Value) (H':Hp):Prop:=
 ∃f e cd' ca' cs' W',v= .tuple #[flv f,.int .i64 e]∧H'=[wrow bw bd ba bs,cd',ca',cs']∧Wc bd ba bs W' cd' ca' cs'∧Stepped (begP bw bd ba bs 0 W) W W' A T er ts f e∧(e=0→f.width=wd)
def LayerQ (bw bd ba bs:Nat) (W:Wk) (cd cs:Chunk) (A T:Nat) (er:Option Nat) (ts:List T5) (wd:Nat) (v:Value) (H':Hp):Prop:=
 (8*W.δ.size≤W.α.room-W.α.used∧LayerR bw bd ba bs W A T er ts wd v H')∨
 (W.α.room-W.α.used<8*W.δ.size∧v= .tuple #[flv ⟨0,0,0,0⟩,.int .i64 7]∧∃ca' α',H'=[wrow bw bd ba bs,cd,ca',cs]∧Wc bd ba bs {W with α:=α'} cd ca' cs∧α'.gs.Perm W.α.gs∧α'.room=W.α.room)
theorem done_stepped {bw bd ba bs bj:Nat} {W W':Wk} {J:Jb} {f:Fl} {ts:List T5} {G2:List (Fl×List T5)} {A T:Nat} (h:DoneW (begP bw bd ba bs bj W) J [f] W') (hG:J.G=(f,ts)::G2) (hA:J.acts≤W.δ.acts+A) (hT:J.took≤T):
  Stepped (begP bw bd ba bs 0 W) W W' A T J.er ts (if J.e=0 then f else⟨0,0,0,0⟩) J.e:=by
 refine⟨h.gs,h.room,h.size,h.n,Nat.le_trans h.acts hA,?_,?_,fun x hx=>h.keep x hx,?_⟩
 ·have:=h.tk
  have h2:(begP bw bd ba bs bj W).b0=big W.σ.free:=rfl
  omega
 ·intro hf
  exact h.flt (fun h2=>h2 hf)
 ·by_cases he:J.e=0
  ·obtain⟨h1,h2,h3⟩:=h.good he [(f,ts)] G2 (by rw[hG];exact .refl _) rfl
   rw[if_pos he]
   exact .inl ⟨he,h3,h1,h2 _ List.mem_cons_self⟩
  ·obtain⟨h1,h2⟩:=h.bad he
   rw[if_neg he]
   exact .inr ⟨he,rfl,h1,h2⟩
theorem JResult1 (p:Jp) (hp:p.Ok) (J:Jb) (C:Chunk) (hJ:JobC p J C) (f:Fl) (b:Nat):
  Ct Tryz.prog 52 [pv p.bj,.slice (some ⟨b,0,none⟩) 1 1] [C,[(b,row (fl4 f) 27)]] fun v H'=>∃cd ca cs W,v= .int .i64 J.e∧H'=[wrow p.bw p.bd p.ba p.bs,cd,ca,cs,[(b,row (fl4 f) 27)]]∧Wc p.bd p.ba p.bs W cd ca cs∧DoneW p J [f] W:=
 JResult p hp J C hJ [f] (by simp) _ 1 _ (vec1 b f)
theorem jobC_open {p:Jp} {e:Int} {cd ca cs:Chunk}:([jrow p.bj p.bw e none 0 0,wrow p.bw p.bd p.ba p.bs,cd,ca,cs]:Hp).flatten.Perm ([jobC p e cd ca cs none 0 0 []]:Hp).flatten:=by
 unfold jobC;refine permC fun z=> ?_;simp only[List.flatten_cons,List.flatten_nil,List.append_nil,List.count_append];omega
def dv0 (s n:Nat):Dv:=⟨s,n,fun _=>none,-1,0⟩
def wk0 (s n room:Nat):Wk:=⟨dv0 s n,⟨room,0,0,[]⟩,⟨n,[(0,n)]⟩,[]⟩
theorem DevNew_u (s n:Nat) (hs:8≤s∧s≤256) (hb:n≤1000000):Ct Tryz.prog 37 [.int .i64 (s:Int),.int .i64 (n:Int)] [] fun v H'=>
  ∃bd c,v= .tuple #[pv bd,.int .i64 0]∧H'=[c]∧IsDev bd (dv0 s n) c:=by
 refine Ct.convP (DeviceNew_ct s n hs hb) (.refl _) ?_
 rintro v H' ⟨bd,bl,bn,rfl,rfl⟩
 refine⟨_,⟨bd,_,rfl,rfl,bl,bn,none,0,0,[],[],[],0,[],rfl,Vec.nil _ _,by simp,fun _=>rfl,Nat.zero_le _,hs,hb,by simp[dv0]⟩,by simp[mrow,chs,dv0]⟩
theorem FileNew_ct (bd ba bs:Nat):Ct Tryz.prog 38 [pv bd,pv ba,pv bs] [] fun v H'=>∃bw,v=pv bw∧H'=[wrow bw bd ba bs]:=by
 refine Ct.intro Tryz.func38 rfl Tryz.ntmps38 (nle rfl) fun w0=> ?_;dsimp only[argSlots,Nat.reduceAdd]
 repeat(refine st ?_;intros)
 rename_i bw
 (refine Dn.post (Hr:=[[(bw,row [pv bd,pv ba,pv bs] 101)]]) Tryz.results38 (hR:= ?_);exact⟨bw,rfl,rfl⟩)
theorem live0 (n:Nat) (h:1≤n):Live ⟨n,[(0,n)]⟩ [] where
 fit:=by simp
 apart:=List.Pairwise.nil
 free:=fun x hx=>by simp[inF];exact hx
 sum:=by simp[total]
theorem wc0 {bd ba bs s n room:Nat} {cd ca cs:Chunk} (hn:1≤n) (h1:IsDev bd (dv0 s n) cd) (h2:IsArena ba ⟨room,0,0,[]⟩ ca) (h3:IsSpace bs ⟨n,[(0,n)]⟩ cs):Wc bd ba bs (wk0 s n room) cd ca cs:=
 ⟨h1,h2.ar,h3,rfl,live0 n hn⟩
theorem SetFault_ct (bd:Nat) (δ:Dv) (c:Chunk) (h:IsDev bd δ c) (n:Int) (hn: -1≤n∧n≤1000000000):Ct Tryz.prog 25 [pv bd,.int .i64 n] [c] fun v H'=>
  ∃c',v= .tuple #[]∧H'=[c']∧IsDev bd {δ with fault:=n} c':=by
 obtain⟨bl,bn,pp,np,cp,xs,pc,es,ck,junk,rfl,h1,h2,h3,h4,h5,h6,h7⟩:=h
 refine Ct.convP (H2:=[[(bd,row (dvCells δ.size δ.blocks bl bn pp np cp δ.fault δ.acts) 115)],(bn,mrow ikey (es.map (Db.ent δ.size)) ck)::(pc++(chs es++junk))])
  (R2:=fun v H'=>v= .tuple #[]∧H'=[[(bd,row (dvCells δ.size δ.blocks bl bn pp np cp n δ.acts) 115)],(bn,mrow ikey (es.map (Db.ent δ.size)) ck)::(pc++(chs es++junk))]) ?_ (by simp) ?_
 ·unfold dvCells
  have hmx:max n (-1)=n:=by omega
  refine Ct.intro Tryz.func25 rfl Tryz.ntmps25 (nle rfl) fun w0=> ?_;dsimp only[argSlots,Nat.reduceAdd]
  repeat(refine st ?_;intros)
  rw[hmx]
  (refine Dn.postEnd (Hr:=[[(bd,row [.int .i64 (δ.size:Int),.int .i64 (δ.blocks:Int),.map (some bl),.map (some bn),.slice pp np cp,.int .i64 (-1),.int .i64 n,.bool false,.int .i64 (δ.acts:Int)] 115)],(bn,mrow ikey (es.map (Db.ent δ.size)) ck)::(pc++(chs es++junk))]) Tryz.results25 (hR:= ?_);exact⟨rfl,rfl⟩)
 ·rintro v H' ⟨rfl,rfl⟩
  exact⟨_,⟨_,rfl,rfl,bl,bn,pp,np,cp,xs,pc,es,ck,junk,rfl,h1,h2,h3,h4,h5,h6,hn⟩,by simp⟩
theorem big0 (s n room:Nat):big (wk0 s n room).σ.free=n:=by simp[wk0,big]
theorem okT_mk {k:Nat} {t:T5} (h:∀c∈t.toList,inI64 c) (hz:fitsB k t=true):okT k t:=⟨h,fun i hi=>by
 by_cases h5:i<5
 ·exact fitsB_iff.1 hz i h5 hi
 ·obtain⟨j,rfl⟩:∃j,i=j+5:=⟨i-5,by omega⟩
  rfl⟩
theorem Lay_k (bw bd ba bs:Nat) (W:Wk) (cd ca cs:Chunk) (h:Wc bd ba bs W cd ca cs) (k:Nat) (h1:1≤k) (h2:k≤5) (p:Option Addr) (n cap:Nat) (ts:List T5) (c:Chunk) (hv:RV p n ts c) (hn:n≤100000000) (hok:∀t∈ts,okT k t)
  (hr:W.δ.size≤W.α.room-W.α.used) (hf:W.δ.fault= -1) (hac:W.δ.acts≤100000000000) (hb:nblocks W.δ.size k n≤big W.σ.free):
  Ct Tryz.prog 34 [pv bw,.int .i64 (k:Int),.slice p n cap] [wrow bw bd ba bs,cd,ca,cs,c] fun v H'=>
   ∃cd' ca' cs' W' f,v= .tuple #[flv f,.int .i64 0]∧H'=[wrow bw bd ba bs,cd',ca',cs',c]∧Wc bd ba bs W' cd' ca' cs'∧Ev W W' (nblocks W.δ.size k n) (nblocks W.δ.size k n)∧Keep W.live W W'∧W'.α.gs.Perm W.α.gs∧
    W'.live.Perm (addF f W.live)∧f.width=k∧f.count=n∧f.blocks=nblocks W.δ.size k n∧FileOk W'.δ.disk W.δ.size [f.ext] f ts:=by
 refine(Lay_ct bw bd ba bs W cd ca cs h k h1 h2 p n cap ts c hv hn hok hr hf hac).mono ?_
 rintro v H' ⟨cd',ca',cs',W',rfl,hW,hE,hK,hg,⟨_,f,rfl,hl,hw,hc,hfo⟩|⟨hx,_⟩⟩
 ·exact⟨cd',ca',cs',W',f,rfl,rfl,hW,hE,hK,hg,by rw[hl];exact .refl _,hw,hc,by rw[hfo.blk,hw,hc],hfo⟩
 ·omega
theorem FileIn.stay {W W':Wk} {x:Fl×List T5} (h:FileIn W x) (hs:W'.δ.size=W.δ.size) (hk:Keep W.live W W') (hl:∀e∈W.live,e∈W'.live):FileIn W' x:=by
 obtain⟨Lv,h1,h2⟩:=h
 refine⟨Lv,?_,fun e he=>hl e (h2 e he)⟩
 rw[hs]
 exact h1.keep fun y ⟨e,he,h3⟩=>hk y ⟨e,h2 e he,h3⟩
theorem FileIn.new {W':Wk} {s:Nat} {f:Fl} {ts:List T5} {l:List Ext} (h:FileOk W'.δ.disk s [f.ext] f ts) (hs:W'.δ.size=s) (hl:W'.live.Perm (addF f l)):FileIn W' (f,ts):=by
 subst hs
 exact fo_sub h hl
theorem mem_addF {f:Fl} {l l':List Ext} (h:l'.Perm (addF f l)):∀e∈l,e∈l':=fun _ he=>h.mem_iff.2 (addF_mem he)
theorem stepped_ok {p:Jp} {W W':Wk} {A T:Nat} {ts:List T5} {f:Fl} {e:Int} (h:Stepped p W W' A T none ts f e) (hf:W.δ.fault= -1):e=0∧W'.live.Perm (addF f W.live)∧FileOk W'.δ.disk W.δ.size [f.ext] f ts∧W'.δ.fault= -1:=by
 rcases h.res with⟨h1,_,h2,h3⟩|⟨_,_,_,⟨_,h1⟩|⟨m,h1,_⟩⟩
 ·exact⟨h1,h2,h3,h.fault hf⟩
 ·exact absurd hf h1
 ·cases h1
end Go.Proofs.YtammjnjpheobaaaGreat
namespace Go.Proofs.YtammjnjpheobaaaGreat
open Go.SL Go.Tup
section
variable {α:Type} {f:α→List Value} {k:Nat}
theorem fm_len (hf:∀a,(f a).length=k):∀l:List α,(l.flatMap f).length=l.length*k
 |[]=>by simp
 |a::l=>by rw[List.flatMap_cons,List.length_append,hf,fm_len hf l,List.length_cons,Nat.succ_mul];omega
theorem fm_drop (hf:∀a,(f a).length=k):∀(l:List α) (i:Nat),(l.flatMap f).drop (i*k)=(l.drop i).flatMap f
 |[],i=>by simp
 |a::l,0=>by simp
 |a::l,i+1=>by
  rw[List.flatMap_cons,List.drop_succ_cons,←fm_drop hf l i,show(i+1)*k=(f a).length+i*k by rw[hf,Nat.succ_mul];omega,List.drop_append]
  simp
theorem fm_cut (hf:∀a,(f a).length=k) {l:List α} {i:Nat} {a:α} (h:l[i]? =some a):((l.flatMap f).drop (i*k)).take k=f a:=by
 obtain⟨hi,rfl⟩:=List.getElem?_eq_some_iff.1 h
 rw[fm_drop hf,List.drop_eq_getElem_cons hi,List.flatMap_cons,List.take_left' (hf _)]
theorem fm_cutR (hf:∀a,(f a).length=k) {l:List α} {i:Nat} {a:α} (h:l[i]? =some a) (rest:List Value):((l.flatMap f++rest).drop (i*k)).take k=f a:=by
 obtain⟨hi,_⟩:=List.getElem?_eq_some_iff.1 h
 have hl:=fm_len hf l
 have h1:(i+1)*k≤l.length*k:=Nat.mul_le_mul_right _ hi
 rw[Nat.succ_mul] at h1
 rw[List.drop_append_of_le_length (by omega),List.take_append_of_le_length (by rw[List.length_drop];omega),fm_cut hf h]
theorem fm_get (hf:∀a,(f a).length=k) {l:List α} {i j:Nat} {a:α} {v:Value} (h:l[i]? =some a) (hj:(f a)[j]? =some v) (rest:List Value):(l.flatMap f++rest)[i*k+j]? =some v:=by
 have h1:=fm_cutR hf h rest
 have hjk:j<k:=by have:=(List.getElem?_eq_some_iff.1 hj).1;rw[hf] at this;exact this
 have h2:=congrArg (fun l=>l[j]?) h1
 simp only[List.getElem?_take,if_pos hjk,List.getElem?_drop] at h2
 rw[h2,hj]
theorem fm_set (hf:∀a,(f a).length=k) (l:List α) (i:Nat) (b:α) (rest:List Value) (h:i<l.length):setL (l.flatMap f++rest) (i*k) (f b)=(l.set i b).flatMap f++rest:=by
 obtain⟨l1,a,l2,rfl,hl1⟩:∃l1 a l2,l=l1++a::l2∧l1.length=i:=⟨l.take i,l[i],l.drop (i+1),by rw[←List.drop_eq_getElem_cons h,List.take_append_drop],by simp;omega⟩
 subst hl1
 have h1:=fm_len hf l1
 rw[setL_eq _ _ _ (by simp only[List.flatMap_append,List.flatMap_cons,List.length_append,fm_len hf,hf];omega)]
 rw[List.set_append_right _ _ (Nat.le_refl _),Nat.sub_self,List.set_cons_zero]
 simp only[List.flatMap_append,List.flatMap_cons,List.append_assoc]
 rw[←h1,List.take_left,hf]
 congr 2
 rw[←List.drop_drop,List.drop_left,←hf a,List.drop_left]
theorem view_get {cs xs:List Value} {off m i:Nat} {v:Value} (h:(cs.drop off).take m=xs) (hv:xs[i]? =some v):cs[off+i]? =some v:=by
 rw[←h,List.getElem?_take] at hv
 split at hv
 ·rwa[List.getElem?_drop] at hv
 ·cases hv
theorem view_cut {cs xs vs:List Value} {off m i q:Nat} (h:(cs.drop off).take m=xs) (hv:(xs.drop i).take q=vs) (hq:vs.length=q):(cs.drop (off+i)).take q=vs:=by
 rw[←h,List.drop_take,List.drop_drop,List.take_take] at hv
 have h1:(vs.length:Nat)≤m-i:=by
  rw[←hv,List.length_take];omega
 rw[show min q (m-i)=q by omega] at hv
 exact hv
def Rw (f:α→List Value) (k:Nat) (p:Option Addr) (m:Nat) (xs:List α) (c:Chunk):Prop:=
 xs.length=m∧((m=0∧c=[])∨∃b off cs T fz,p=some ⟨b,off,none⟩∧c=[(b,rowf cs T fz)]∧(cs.drop off).take (m*k)=xs.flatMap f)
theorem Rw.pos (hf:∀a,(f a).length=k) {p:Option Addr} {m:Nat} {xs:List α} {c:Chunk} (h:Rw f k p m xs c) (hm:0<m):∃b off cs T fz,p=some ⟨b,off,none⟩∧c=[(b,rowf cs T fz)]∧
  (∀i a,xs[i]? =some a→(cs.drop (off+i*k)).take k=f a)∧∀i j a v,xs[i]? =some a→(f a)[j]? =some v→cs[off+i*k+j]? =some v:=by
 obtain⟨hl,⟨h0,_⟩|⟨b,off,cs,T,fz,rfl,rfl,h⟩⟩:=h
 ·omega
 ·refine⟨b,off,cs,T,fz,rfl,rfl,fun i a hi=>view_cut h (fm_cut hf hi) (hf a),fun i j a v hi hj=> ?_⟩
  have:=fm_get hf hi hj []
  rw[List.append_nil] at this
  rw[Nat.add_assoc]
  exact view_get h this
theorem Rw.ofVec (hf:∀a,(f a).length=k) {E:Nat} {p:Option Addr} {m cap:Nat} {xs:List α} {c:Chunk} (h:Vec E k p m cap (xs.flatMap f) c) (hk:0<k):Rw f k p m xs c:=by
 have hl:xs.length=m:=by have:=h.1;rw[fm_len hf] at this;exact Nat.eq_of_mul_eq_mul_right hk this
 rcases h.2 with⟨_,h0,_,hc⟩|⟨b,rest,hp,hc,_,_,_⟩
 ·exact⟨hl,.inl ⟨h0,hc⟩⟩
 ·refine⟨hl,.inr ⟨b,0,xs.flatMap f++rest,E,(0,0),hp,hc,?_⟩⟩
  rw[List.drop_zero,←h.1,List.take_left]
end
abbrev IE:=Int×Int
def ecl (e:IE):List Value:=[.int .i64 e.1,.int .i64 e.2]
def bcl (x:Bool):List Value:=[.bool x]
theorem ecl_len (e:IE):(ecl e).length=2:=rfl
theorem bcl_len (e:Bool):(bcl e).length=1:=rfl
theorem flat_fm:∀ts:List T5,flat ts=ts.flatMap tcells
 |[]=>rfl
 |t::ts=>by rw[List.flatMap_cons,←flat_fm ts];rfl
theorem tcells_len (t:T5):(tcells t).length=5:=rfl
theorem RV.rw {p:Option Addr} {n:Nat} {ts:List T5} {c:Chunk} (h:RV p n ts c):Rw tcells 5 p n ts c:=by
 obtain⟨h1,h2⟩:=h
 rw[flat_fm] at h2
 exact⟨h1,h2⟩
end Go.Proofs.YtammjnjpheobaaaGreat
