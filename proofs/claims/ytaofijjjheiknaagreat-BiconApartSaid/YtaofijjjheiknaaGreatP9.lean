/-
  Parts of the proof, put together (9). No condition.
-/
import Derived.Test.YtaofijjjheiknaaGreatP8
set_option linter.unusedVariables false
set_option linter.unusedSimpArgs false
set_option linter.unnecessarySimpa false
set_option maxHeartbeats 4000000
open Bool renaming false_eq_true→CI,true_and→EM
open Go.IntKind renaming wrap→AL
open Go.Proofs.Tryz renaming prog→AC
open List renaming cons_append→AA,nil_append→AB,mem_cons_self→AE,mem_cons_of_mem→AF,getElem?_eq_getElem→AG,length_append→AH,length_cons→AJ,getElem?_eq_some_iff→AK,getD_eq_getElem?_getD→AM,mem_cons→AN,mem_map→AO,append_nil→AP,length_map→AQ,mem_append→AR,append_assoc→AV,flatten_cons→AW,map_append→AY,flatten_append→A3,flatten_nil→A4,take_of_length_le→A5,count_append→A8,pairwise_iff_getElem→BB,flatMap_cons→BC,getElem?_map→BH,drop_eq_getElem_cons→BM,mem_append_left→BO,take_add_one→BP,mem_filter→BV,getElem?_eq_none→BW,mem_iff_getElem→B0,perm_middle→B3,getElem_mem→B7,filter_append→CA,map_map→CH,mem_of_find?_eq_some→DD,drop_zero→DL,find?_eq_none→D2,take_length→EJ
open Nat renaming reduceAdd→AD,le_refl→AI,zero_le→AT,le_trans→A7,mul_le_mul_right→BD,lt_trichotomy→B5,div_le_div_right→B8,mul_le_mul_left→CJ,mul_le_mul→DO,add_le_add_right→DQ,add_mul→DW
open Option.some renaming inj→BF,injEq→BG
open Go.Proofs.Tryz
open Go.Value renaming int→Z9
open Go.IntKind renaming i64→Z8
namespace Go.Proofs.YtaofijjjheiknaaGreat
open Go.SL Go.Spc Go.Tup Go.Srt
theorem Ec.take1 {p:Jp} {J:Jb} {held:List (Fl×List T5)} {W W':Wk} {cd ca cs:Aa} (h:Ec p J held W) (hW:Wc p.bd p.ba p.bs W cd ca cs) {f:Fl} {us:List T5} {l1 l2:List (Fl×List T5)} (he:held=l1++(f,us)::l2) (hδ:W'.δ=W.δ) (hα:W'.α=W.α) (hn:W'.σ.n=W.σ.n) (hb:Go.Spc.big W.σ.free≤Go.Spc.big W'.σ.free) (hl:W'.live.Perm (Aw ((l1++l2).map (·.1)) p.L0)) {G':List (Fl×List T5)} (hG:J.e=0→∃ts,J.G.Perm ((f,ts)::G')):Ec p ⟨J.e,J.er,G',J.acts,J.took⟩ (l1++l2) W':=by
 refine⟨by rw[hα];exact h.gs,by rw[hα];exact h.room,by rw[hδ];exact h.size,hn.trans h.n,hl,?_,?_,by rw[hδ];exact h.keep,by rw[hδ];exact h.flt,by rw[hδ];exact h.acts,A7 h.tk (DQ hb _),fun e0=>?_,h.why⟩
 ·intro x hx;rw[hδ];refine h.files x ?_;rw[he];simp only[AR,AN] at hx⊢;rcases hx with h|h
  ·exact .inl h
  ·exact .inr (.inr h)
 ·have:=h.len;rw[he] at this;simp at this⊢;omega
 ·obtain⟨h1,h2⟩:=h.ok e0;obtain⟨ts,h3⟩:=hG e0;have h4:(f,ts)∈held:=h1.mem_iff.2 (h3.mem_iff.2 AE);obtain rfl:=h.uniq hW he h4;have h5:=h1.trans h3;rw[he] at h5;exact⟨(B3.symm.trans h5).cons_inv,h2⟩
structure JFreeX where
 k:Nat
 held:List (Fl×List T5)
 ph:Option Addr
 cap:Nat
 ch:Aa
 cs:Aa
 W:Wk
theorem uP {α:Type} {l:List α} {i:Nat} {x:α} (h:l[i]? =some x):∃l1 l2,l=l1++x::l2∧l1.length=i:=by obtain⟨hi,rfl⟩:=AK.1 h;exact⟨l.take i,l.drop (i+1),by rw[←BM hi,List.take_append_drop],by simp;omega⟩
theorem uQ (l1 l2:List Fl) (f:Fl) (rest:List Value):((Aj (l1++f::l2)++rest).drop ((l1.length+1)*4)).take (l2.length*4)=Aj l2:=by
 rw[Mf,Wu,←AV,AV (Aj l1++fl4 f)];have h1:(Aj l1++fl4 f).length=(l1.length+1)*4:=by rw[AH,Mi];simp[fl4];omega
 rw[←h1,List.drop_left];rw[←Mi,List.take_left]
theorem uR (l1 l2:List Fl) (rest:List Value):Aj (l1++l2)++rest=Aj l1++(Aj l2++rest):=by rw[Mf,AV]
theorem uS (l:List Fl):(Aj l).all Value.oneCell'=true:=by
 induction l with
 |nil=>rfl
 |cons f l ih=>rw[Wu,List.all_append,ih];rfl
theorem uT (p:Jp) (hp:p.Ok) (J:Jb) (ab:List (Fl×List T5)) (W0:Wk) (cd ca av:Aa) (b2:Wc p.bd p.ba p.bs W0 cd ca av) (ax:Ec p J ab W0) (ay:Option Addr) (ae:Nat) (aw:Aa) (bz:Vec 42 4 ay ab.length ae (Aj (ab.map (·.1))) aw) (fs:List Fl) (fts G':List (Fl×List T5)) (hG:J.e=0→J.G.Perm (fts++G')∧fs=fts.map (·.1)) (c6:fs.length≤1000) (pa:Option Addr) (cap:Nat) (cf:Aa) (bv:Vec 42 4 pa fs.length cap (Aj fs) cf):Ct AC 114 [pv p.bj,.slice pa fs.length cap] [Bq p.bj p.bw J.e ay ab.length ae,aw,Ab p.bw p.bd p.ba p.bs,av,cf] fun v H'=> ∃held ph cap' ch cs W,v= .tuple #[]∧H'=[Bq p.bj p.bw J.e ph held.length cap',ch,Ab p.bw p.bd p.ba p.bs,cs,cf]∧Wc p.bd p.ba p.bs W cd ca cs∧Vec 42 4 ph held.length cap' (Aj (held.map (·.1))) ch∧Ec p ⟨J.e,J.er,G',J.acts,J.took⟩ held W:=by
 unfold Bq;refine cG func114 fun _=>?_;repeat(refine sv ?_;intros)
 refine G.loop (X:=JFreeX) (fun x=>x.k≤fs.length∧Wc p.bd p.ba p.bs x.W cd ca x.cs∧Vec 42 4 x.ph x.held.length x.cap (Aj (x.held.map (·.1))) x.ch∧Ec p ⟨J.e,J.er,fts.drop x.k++G',J.acts,J.took⟩ x.held x.W)
  (fun x=>[(10,Z9 Z8 x.k),(9,Z9 Z8 fs.length),(8,.slice pa fs.length cap),(0,pv p.bj)])
  (fun x=>[[(p.bj,row [pv p.bw,Z9 Z8 J.e,.slice x.ph x.held.length x.cap] 98)],x.ch,Ab p.bw p.bd p.ba p.bs,x.cs,cf]) (fun x=>fs.length-x.k) ⟨0,ab,ay,ae,aw,av,W0⟩
  ⟨AT _,b2,bz,{ax with ok:=fun e0=>⟨(ax.ok e0).1.trans (by simpa using(hG e0).1),(ax.ok e0).2⟩}⟩ (body:=?_)
 rintro⟨k,held,ph,aa,ch,cs,W⟩ ⟨hk,hW,hV,hJ⟩;dsimp only at hk hW hV hJ⊢;have cu:=hJ.len;by_cases ag:k<fs.length
 ·obtain⟨fb,ah,rfl,rfl,c7,c8,hfm⟩:∃b rest,pa=some ⟨b,0,none⟩∧cf=[(b,row (Aj fs++rest) 42)]∧cap*4≤(Aj fs).length+rest.length∧fs.length≤cap∧cap≤maxLen:=by
   rcases bv.2 with⟨_,e,_⟩|hh
   ·omega
   ·exact hh
  have b3:fs[k]? =some fs[k]:=AG ag;have az:=Nb (rs:=fs.map fun f=>(f,[])) (rest:=ah) (j:=k) (r:=(fs[k],[])) (by simp[b3]);rw[CH] at az;have b4:(fs.map ((fun x:Fl×List T5=>x.1)∘fun f=>(f,[])))=fs:=by simp[Function.comp_def]
  rw[b4] at az;have a8:J.e=0→∃ts,(fts.drop k++G').Perm ((fs[k],ts)::(fts.drop (k+1)++G')):=by
   intro e0;obtain⟨_,h2⟩:=hG e0;have h3:k<fts.length:=by have:=congrArg List.length h2;rw[AQ] at this;omega
   refine⟨fts[k].2,?_⟩;rw[BM h3];have h4:fs[k]=fts[k].1:=by simp[h2]
   rw[h4];exact .refl _
  generalize hf:fs[k]=f at*;generalize a9:Aj fs++ah=b6 at*;obtain⟨f1,f2,f3,f4⟩:=f;dsimp only at az;have b7:held.length≤maxLen:=by simp only[maxLen];omega
  repeat(refine sv ?_;intros)
  rename_i b5;refine G.loop (X:=Nat) (fun i=>i≤held.length∧∀j x,j<i→held[j]? =some x→x.1≠⟨f1,f2,f3,f4⟩)
   (fun i=>[(19,Z9 Z8 i),(18,Z9 Z8 held.length),(17,.slice ph held.length aa),(5,pv b5),(10,Z9 Z8 k),(9,Z9 Z8 fs.length),(8,.slice (some ⟨fb,0,none⟩) fs.length cap),(0,pv p.bj)])
   (fun _=>[[(b5,row [Z9 Z8 f1,Z9 Z8 f2,Z9 Z8 f3,Z9 Z8 f4] 42)],[(p.bj,row [pv p.bw,Z9 Z8 J.e,.slice ph held.length aa] 98)],ch,Ab p.bw p.bd p.ba p.bs,cs,[(fb,row b6 42)]]) (fun i=>held.length-i) 0 ⟨AT _,fun j x h=>by omega⟩ (body:=?_)
  rintro i ⟨hi,bc⟩;by_cases be:i<held.length
  ·obtain⟨vb,rest,rfl,rfl,b8,c9,da⟩:∃b rest,ph=some ⟨b,0,none⟩∧ch=[(b,row (Aj (held.map (·.1))++rest) 42)]∧aa*4≤(Aj (held.map (·.1))).length+rest.length∧held.length≤aa∧aa≤maxLen:=by
    rcases hV.2 with⟨_,e,_⟩|hh
    ·omega
    ·exact hh
   have a0:held[i]? =some held[i]:=AG be;have bf:=Nb (rest:=rest) a0;generalize hx:held[i]=x at*;obtain⟨⟨x1,x2,x3,x4⟩,us⟩:=x;dsimp only at bf;by_cases bg:x1=f1∧x2=f2∧x3=f3∧x4=f4
   ·obtain⟨rfl,rfl,rfl,rfl⟩:=bg;obtain⟨l1,l2,e1,a6⟩:=uP a0;have b9:W.live.Perm (Bc ⟨x1,x2,x3,x4⟩ (Aw ((l1++l2).map (·.1)) p.L0)):=by refine hJ.live.trans ((Pa (b:=⟨x1,x2,x3,x4⟩::(l1++l2).map (·.1)) ?_ _).trans (Nt _ _ _));rw[e1];simp
    have hF:=Se p.bw p.bd p.ba p.bs W cd ca cs hW ⟨x1,x2,x3,x4⟩ _ (Bn.add b9);have bh:flv ⟨x1,x2,x3,x4⟩= .agg #[Z9 Z8 x1,Z9 Z8 x2,Z9 Z8 x3,Z9 Z8 x4]:=rfl;rw[bh] at hF;have db:held.length=i+1+l2.length:=by rw[e1];simp;omega
    have aq:(l1++l2).length=i+(held.length-(i+1)):=by rw[AH];omega
    have bi:held.map (·.1)=l1.map (·.1)++⟨x1,x2,x3,x4⟩::l2.map (·.1):=by rw[e1];simp
    have au:(l1.map (·.1)).length=i:=by rw[AQ];exact a6
    have ai:=uQ (l1.map (·.1)) (l2.map (·.1)) ⟨x1,x2,x3,x4⟩ rest;have ad:=uR (l1.map (·.1)) (⟨x1,x2,x3,x4⟩::l2.map (·.1)) rest;rw[←bi] at ai ad;have bk:held.length-(i+1)=(l2.map (·.1)).length:=by rw[AQ];omega
    rw[au,←bk] at ai;have cw:(Aj (l2.map (·.1))).length=(held.length-(i+1))*4:=by rw[Mi,bk]
    have cz:=uS (l2.map (·.1));generalize bp:Aj (held.map (·.1))++rest=cells at*;have dc:aa*4≤cells.length:=by rw[←bp,AH];exact b8
    have cg:Vec 42 4 (some ⟨vb,0,none⟩) i i (Aj (l1.map (·.1))) [(vb,row cells 42)]:=by refine Vec.mk' ad (by rw[Mi,au]) oM (AI _) oM
    have ei:((i:Int)+1).toNat=i+1:=oM;have a7:∀W',W'.δ=W.δ→W'.α=W.α→W'.σ.n=W.σ.n→big W.σ.free≤big W'.σ.free→W'.live=Aw ((l1++l2).map (·.1)) p.L0→Ec p ⟨J.e,J.er,fts.drop (k+1)++G',J.acts,J.took⟩ (l1++l2) W':=by intro W' a1 a2 a3 a4 a5;exact hJ.take1 hW e1 a1 a2 a3 a4 (by rw[a5]) (fun e0=>a8 e0)
    by_cases c5:i+1<held.length
    ·repeat(refine sv ?_;intros)
     rename_i p' cap' bq ci;refine cL hF ?_;rintro _ _ ⟨aj,W',rfl,rfl,ak,ac,al,am,an⟩;try dsimp only[AA,AB]
     repeat(refine sv ?_;intros)
     have ao:Vec 42 4 p' (l1++l2).length cap' (Aj ((l1++l2).map (·.1))) bq:=by rw[aq,AY,Mf];exact ci
     rw[←aq];refine Dn.round ⟨k+1,l1++l2,p',cap',bq,aj,W'⟩ ⟨ag,ak,ao,a7 W' al am ac.n ac.big an⟩ oD
    ·have bu:held.length-(i+1)=0:=oM;obtain rfl:l2=[]:=List.length_eq_zero_iff.1 oM;have ao:Vec 42 4 (some ⟨vb,0,none⟩) (l1++[]).length i (Aj ((l1++([]:List (Fl×List T5))).map (·.1))) [(vb,row cells 42)]:=by rw[AP,a6];exact cg
     have hj:Value.slice (some ⟨vb,0,none⟩) i i= .slice (some ⟨vb,0,none⟩) (l1++([]:List (Fl×List T5))).length i:=by rw[AP,a6]
     by_cases dd:i+1<aa
     ·repeat(first|rw[bu]|(apply R.append0;exact rfl;exact rfl;exact AI _;exact rfl;exact nle rfl)|(refine st ?_;intros)|refine G.draw [] (h:=?_))
      refine cL hF ?_;rintro _ _ ⟨aj,W',rfl,rfl,ak,ac,al,am,an⟩;try dsimp only[AA,AB]
      repeat(refine sv ?_;intros)
      rw[hj];refine Dn.round ⟨k+1,l1++[],some ⟨vb,0,none⟩,i,[(vb,row cells 42)],aj,W'⟩ ⟨ag,ak,ao,a7 W' al am ac.n ac.big an⟩ oD
     ·repeat(first|rw[bu]|(apply R.append0;exact rfl;exact rfl;exact AI _;exact rfl;exact nle rfl)|(refine st ?_;intros)|refine G.draw [] (h:=?_))
      refine cL hF ?_;rintro _ _ ⟨aj,W',rfl,rfl,ak,ac,al,am,an⟩;try dsimp only[AA,AB]
      repeat(refine sv ?_;intros)
      rw[hj];refine Dn.round ⟨k+1,l1++[],some ⟨vb,0,none⟩,i,[(vb,row cells 42)],aj,W'⟩ ⟨ag,ak,ao,a7 W' al am ac.n ac.big an⟩ oD
   ·generalize bp:Aj (held.map (·.1))++rest=cells at*;repeat(refine sv ?_;intros)
    refine Dn.round (i+1) ⟨oM,fun j y hj hy=>?_⟩ oM;by_cases cj:j=i
    ·subst cj;rw[a0] at hy;simp only[BG] at hy;subst hy;intro h0;simp only[Fl.mk.injEq] at h0;exact bg h0
    ·exact bc j y oM hy
  ·have cm:J.e≠0:=by intro e0;obtain⟨ts,h1⟩:=a8 e0;have h2:((⟨f1,f2,f3,f4⟩,ts):Fl×List T5)∈held:=(hJ.ok e0).1.mem_iff.2 (h1.mem_iff.2 AE);obtain⟨j,hj,he⟩:=List.getElem_of_mem h2;exact bc j _ oM (AG hj) (by rw[he])
   repeat(refine sv ?_;intros)
   refine Dn.round ⟨k+1,held,ph,aa,ch,cs,W⟩ ⟨ag,hW,hV,{hJ with ok:=fun e0=>absurd e0 cm}⟩ oD
 ·obtain rfl:k=fs.length:=by omega
  repeat(refine sv ?_;intros)
  (refine dE [[(p.bj,row [pv p.bw,Z9 Z8 J.e,.slice ph held.length aa] 98)],ch,Ab p.bw p.bd p.ba p.bs,cs,cf] ?_;refine⟨held,ph,aa,ch,cs,W,rfl,rfl,hW,hV,{hJ with ok:=fun e0=>?_}⟩);have h2:=congrArg List.length (hG e0).2;rw[AQ] at h2;have h3:=hJ.ok e0;dsimp only at h3;rw[h2,List.drop_length,AB] at h3;exact h3
theorem JFree (p:Jp) (hp:p.Ok) (J:Jb) (C:Aa) (hJ:Fm p J C) (fs:List Fl) (fts G':List (Fl×List T5)) (hG:J.e=0→J.G.Perm (fts++G')∧fs=fts.map (·.1)) (ah:fs.length≤1000) (pa:Option Addr) (cap:Nat) (cf:Aa) (ai:Vec 42 4 pa fs.length cap (Aj fs) cf):Ct AC 114 [pv p.bj,.slice pa fs.length cap] [C,cf] fun v H'=>∃C',v= .tuple #[]∧H'=[C',cf]∧Fm p ⟨J.e,J.er,G',J.acts,J.took⟩ C':=by
 obtain⟨W,cd,ca,cs,held,ph,ac,ch,rfl,hW,hV,aj⟩:=hJ;refine Ct.convP (Ct.wide (uT p hp J held W cd ca cs hW aj ph ac ch hV fs fts G' hG ah pa cap cf ai) [cd,ca]) (by unfold Bv;refine Bz fun z=>?_;simp only[AW,A4,AP,A3,A8];omega) ?_;rintro v H' ⟨H1,⟨aa,ad,ab,ae,ag,W',rfl,rfl,ak,al,am⟩,rfl⟩;refine⟨[Bv p J.e cd ca ag ad aa.length ab ae,cf],⟨_,rfl,rfl,W',cd,ca,ag,aa,ad,ab,ae,rfl,ak,al,am⟩,?_⟩;unfold Bv;refine Bz fun z=>?_;simp only[AW,A4,AP,A3,A8];omega
def aO (p:Jp) (W:Wk) (A T:Nat) (er:Option Nat) (ts:List T5) (R:Fl→Int→Hp→Prop) (jr:Aa) (v:Value) (H':Hp):Prop:=∃f e aa ab ac W' ad,v= .tuple #[flv f,Z9 Z8 e]∧
 H'=jr::Ab p.bw p.bd p.ba p.bs::aa::ab::ac::ad∧Wc p.bd p.ba p.bs W' aa ab ac∧It p W W' A T er ts f e∧R f e ad
def Fg (p:Jp) (J:Jb) (mk:Nat) (us:List Value) (Hx:Hp) (A T:Nat) (er:Option Nat) (ts:List T5) (R:Fl→Int→Hp→Prop):Prop:=
 ∀W cd ca cs held ph cap,Wc p.bd p.ba p.bs W cd ca cs→Ec p J held W→
  Ct AC mk us (Bq p.bj p.bw 0 ph held.length cap::Ab p.bw p.bd p.ba p.bs::cd::ca::cs::Hx) (aO p W A T er ts R (Bq p.bj p.bw 0 ph held.length cap))
theorem JRun (p:Jp) (hp:p.Ok) (J:Jb) (C:Aa) (hJ:Fm p J C) (mk:Nat) (al:Callable AC mk) (us:List Value) (Hx:Hp) (A T:Nat) (er:Option Nat) (ts:List T5) (R:Fl→Int→Hp→Prop) (aq:J.e=0→Fg p J mk us Hx A T er ts R) (ay:J.G.length≤1000):Ct AC 60 [pv p.bj,.func (.func mk) #[] us.toArray] (C::Hx) fun v H'=>∃f C' e' Hx',v=flv f∧H'=C'::Hx'∧Fm p ⟨e',J.er.or er,(f,ts)::J.G,J.acts+A,J.took+T⟩ C'∧((J.e=0∧R f e' Hx')∨(J.e≠0∧e'=J.e∧f=⟨0,0,0,0⟩∧Hx'=Hx)):=by
 obtain⟨W,cd,ca,cs,held,ph,aa,ch,rfl,hW,ai,ae⟩:=hJ;by_cases he:J.e=0
 ·have hG:=ae.ok he;have hS:=aq he W cd ca cs held ph aa hW ae;have au:Ct AC mk us [Bq p.bj p.bw 0 ph held.length aa,([Ab p.bw p.bd p.ba p.bs,cd,ca,cs]++Hx).flatten] (StepR (Bq p.bj p.bw 0 ph held.length aa) fun f e am=>∃ab ac ad W' Hx',am=([Ab p.bw p.bd p.ba p.bs,ab,ac,ad]++Hx').flatten∧
    Wc p.bd p.ba p.bs W' ab ac ad∧It p W W' A T er ts f e∧R f e Hx'):=by
   refine Ct.convP hS oA19 ?_;rintro v H' ⟨f,e,ab,ac,ad,W',Hx',rfl,rfl,ag,aj,hR⟩;exact⟨[Bq p.bj p.bw 0 ph held.length aa,([Ab p.bw p.bd p.ba p.bs,ab,ac,ad]++Hx').flatten],⟨f,e,_,rfl,rfl,ab,ac,ad,W',Hx',rfl,ag,aj,hR⟩,by simp⟩
  have ak:=uL p.bj p.bw ph held.length aa _ ch ai (by have:=ae.len;omega) mk al us _ _ au;refine Ct.convP ak (by rw[he];unfold Bv;refine Bz fun z=>?_;simp only[AW,A4,AP,A3,A8];omega) ?_;rintro v H' ⟨f,e,am,rfl,⟨ab,ac,ad,W',Hx',rfl,ag,aj,hR⟩,hc⟩;have av:held.length<100000:=by have h2:=hG.1.length_eq;omega
  have an:=ae.step he aj av;rcases hc with⟨rfl,p',ah,ao,rfl,aw⟩|⟨ax,rfl⟩
  ·refine⟨Bv p 0 ab ac ad p' (held.length+1) ah ao::Hx',⟨f,_,0,Hx',rfl,rfl,⟨W',ab,ac,ad,held++[(f,ts)],p',ah,ao,by simp,ag,?_,by simpa using an⟩,.inl ⟨he,hR⟩⟩,?_⟩
   ·simpa using aw
   ·unfold Bv;refine Bz fun z=>?_;simp only[AW,A4,AP,A3,A8];omega
  ·refine⟨Bv p e ab ac ad ph held.length aa ch::Hx',⟨f,_,e,Hx',rfl,rfl,⟨W',ab,ac,ad,held,ph,aa,ch,rfl,ag,ai,by simpa[ax] using an⟩,.inl ⟨he,hR⟩⟩,?_⟩;unfold Bv;refine Bz fun z=>?_;simp only[AW,A4,AP,A3,A8];omega
 ·have ak:=Ct.wide (Run_no p.bj p.bw J.e he ph held.length aa (.func (.func mk) #[] us.toArray)) ([Ab p.bw p.bd p.ba p.bs,cd,ca,cs,ch]++Hx);refine Ct.convP ak (by unfold Bv;refine Bz fun z=>?_;simp only[AW,A4,AP,A3,A8];omega) ?_;rintro v H' ⟨H1,⟨rfl,rfl⟩,rfl⟩;refine⟨Bv p J.e cd ca cs ph held.length aa ch::Hx,⟨⟨0,0,0,0⟩,_,J.e,Hx,rfl,rfl,⟨W,cd,ca,cs,held,ph,aa,ch,rfl,hW,ai,ae.idle he _ _ _ _⟩,.inr ⟨he,rfl,rfl,rfl⟩⟩,?_⟩;unfold Bv;refine Bz fun z=>?_;simp only[AW,A4,AP,A3,A8];omega
structure Sm (p:Jp) (J:Jb) (rs:List Fl) (W:Wk):Prop where
 gs:W.α.gs.Perm p.gs
 room:W.α.room=p.room
 size:W.δ.size=p.size
 n:W.σ.n=p.n
 keep:∀x,inF p.L0 x→W.δ.disk x=p.D0 x
 flt:¬p.fl→W.δ.fault= -1
 acts:W.δ.acts≤J.acts
 tk:p.b0≤big W.σ.free+J.took
 good:J.e=0→∀G1 G2,J.G.Perm (G1++G2)→rs=G1.map (·.1)→W.live.Perm (Aw rs p.L0)∧(∀x∈G1,Bg W.δ.disk p.size [x.1.ext] x.1 x.2)∧J.er=none
 bad:J.e≠0→W.live.Perm p.L0∧((J.e=6∧p.fl)∨∃m:Nat,J.er=some m∧J.e=(m:Int))
structure ResX where
 k:Nat
 cs:Aa
 W:Wk
def Kc (e:Int) (rs:List Fl) (x:Fl×List T5):Bool:=decide (e=0)&&rs.contains x.1
theorem iU:∀(fs:List Fl) (L:List Ext),(∀f∈fs,f.blocks=0)→Aw fs L=L
 |[],_,_=>rfl
 |f::fs,L,h=>by
  have h1:Aw (f::fs) L=Aw fs (Bc f L):=rfl;rw[h1];have h2:Bc f L=L:=by unfold Bc;rw[if_pos (h f AE)]
  rw[h2];exact iU fs L fun g hg=>h g (AF _ hg)
theorem uU (a b:List Fl) (L:List Ext):Aw (a++b) L=Aw b (Aw a L):=by simp[Aw]
theorem uV {α:Type} {q:α→Bool} {l:List α} {k:Nat} {x:α} (h:l[k]? =some x):(l.take (k+1)).filter q=(l.take k).filter q++(if q x then[x] else[]):=by rw[BP,h,CA];simp only[Option.toList_some,List.filter_cons,List.filter_nil]
theorem uW (p:Jp) (hp:p.Ok) (J:Jb) (held:List (Fl×List T5)) (W0:Wk) (cd ca ak:Aa) (az:Wc p.bd p.ba p.bs W0 cd ca ak) (ab:Ec p J held W0) (ph:Option Addr) (aa:Nat) (ch:Aa) (hV:Vec 42 4 ph held.length aa (Aj (held.map (·.1))) ch) (rs:List Fl) (bh:rs.length≤1000) (pa:Option Addr) (cap:Nat) (cf:Aa) (a7:Vec 42 4 pa rs.length cap (Aj rs) cf):Ct AC 66 [pv p.bj,.slice pa rs.length cap] [Bq p.bj p.bw J.e ph held.length aa,ch,Ab p.bw p.bd p.ba p.bs,ak,cf] fun v H'=> ∃cs W,v=Z9 Z8 J.e∧H'=[Ab p.bw p.bd p.ba p.bs,cs,cf]∧Wc p.bd p.ba p.bs W cd ca cs∧Sm p J rs W:=by
 unfold Bq;have bg:=ab.len;refine cG func66 fun _=>?_;repeat(refine sA ?_;intros)
 refine G.loop (X:=ResX) (fun x=>x.k≤held.length∧Wc p.bd p.ba p.bs x.W cd ca x.cs∧x.W.δ=W0.δ∧x.W.α=W0.α∧x.W.σ.n=W0.σ.n∧big W0.σ.free≤big x.W.σ.free∧x.W.live.Perm (Aw (((held.take x.k).filter (Kc J.e rs)++held.drop x.k).map (·.1)) p.L0))
  (fun x=>[(15,Z9 Z8 x.k),(14,Z9 Z8 held.length),(13,.slice ph held.length aa),(1,.slice pa rs.length cap),(0,pv p.bj)])
  (fun x=>[[(p.bj,row [pv p.bw,Z9 Z8 J.e,.slice ph held.length aa] 98)],ch,Ab p.bw p.bd p.ba p.bs,x.cs,cf]) (fun x=>held.length-x.k) ⟨0,ak,W0⟩
  ⟨AT _,az,rfl,rfl,rfl,AI _,by simpa using ab.live⟩ (body:=?_)
 rintro⟨k,cs,W⟩ ⟨hk,hW,hδ,hα,hσ,ad,hl⟩;dsimp only at hk hW hδ hα hσ ad hl⊢;by_cases ae:k<held.length
 ·obtain⟨vb,rest,rfl,rfl,bi,bk,bp⟩:∃b rest,ph=some ⟨b,0,none⟩∧ch=[(b,row (Aj (held.map (·.1))++rest) 42)]∧aa*4≤(Aj (held.map (·.1))).length+rest.length∧held.length≤aa∧aa≤maxLen:=by
   rcases hV.2 with⟨_,e,_⟩|hh
   ·omega
   ·exact hh
  have a0:held[k]? =some held[k]:=AG ae;have a1:=Nb (rest:=rest) a0;have ac:=uV (q:=Kc J.e rs) a0;have a2:=BM ae;generalize bq:Aj (held.map (·.1))++rest=cells at*;generalize hx:held[k]=x at*;obtain⟨⟨x1,x2,x3,x4⟩,us⟩:=x;dsimp only at a1;have ag:Kc J.e rs (⟨x1,x2,x3,x4⟩,us)=false→W.live.Perm (Bc ⟨x1,x2,x3,x4⟩ (Aw (((held.take (k+1)).filter (Kc J.e rs)++held.drop (k+1)).map (·.1)) p.L0)):=by intro hs;rw[hs] at ac;simp only[CI,if_false,AP] at ac;rw[a2] at hl;refine hl.trans ((Pa (b:=⟨x1,x2,x3,x4⟩::(((held.take (k+1)).filter (Kc J.e rs)++held.drop (k+1)).map (·.1))) ?_ _).trans (Nt _ _ _));rw[ac];simp only[AY,List.map_cons];exact B3
  have al:Kc J.e rs (⟨x1,x2,x3,x4⟩,us)=true→W.live.Perm (Aw (((held.take (k+1)).filter (Kc J.e rs)++held.drop (k+1)).map (·.1)) p.L0):=by intro hs;rw[hs] at ac;simp only[if_true] at ac;rw[a2] at hl;rw[ac,AV,List.singleton_append];exact hl
  have hF:=fun Lv hl=>Se p.bw p.bd p.ba p.bs W cd ca cs hW ⟨x1,x2,x3,x4⟩ Lv hl;have a3:flv ⟨x1,x2,x3,x4⟩= .agg #[Z9 Z8 x1,Z9 Z8 x2,Z9 Z8 x3,Z9 Z8 x4]:=rfl;rw[a3] at hF;repeat(refine sA ?_;intros)
  rename_i b6;refine G.loop (X:=Nat×Bool) (fun y=>y.1≤rs.length∧y.2=dec ((⟨x1,x2,x3,x4⟩:Fl)∈rs.take y.1))
   (fun y=>[(21,Z9 Z8 y.1),(20,Z9 Z8 rs.length),(19,.slice pa rs.length cap),(7,.bool y.2),(6,pv b6),(15,Z9 Z8 k),(14,Z9 Z8 held.length),(13,.slice (some ⟨vb,0,none⟩) held.length aa),(1,.slice pa rs.length cap),(0,pv p.bj)])
   (fun _=>[[(b6,row [Z9 Z8 x1,Z9 Z8 x2,Z9 Z8 x3,Z9 Z8 x4] 42)],[(p.bj,row [pv p.bw,Z9 Z8 J.e,.slice (some ⟨vb,0,none⟩) held.length aa] 98)],[(vb,row cells 42)],Ab p.bw p.bd p.ba p.bs,cs,cf]) (fun y=>rs.length-y.1) (0,false) ⟨AT _,(Jf oA19).symm⟩ (body:=?_)
  rintro⟨m,b⟩ ⟨hm,hb⟩;dsimp only at hm hb⊢;by_cases ah:m<rs.length
  ·obtain⟨fb,ai,rfl,rfl,bu,bv,hfm⟩:∃b rest,pa=some ⟨b,0,none⟩∧cf=[(b,row (Aj rs++rest) 42)]∧cap*4≤(Aj rs).length+rest.length∧rs.length≤cap∧cap≤maxLen:=by
    rcases a7.2 with⟨_,e,_⟩|hh
    ·omega
    ·exact hh
   have a4:rs[m]? =some rs[m]:=AG ah;have am:=Nb (rs:=rs.map fun f=>(f,[])) (rest:=ai) (j:=m) (r:=(rs[m],[])) (by simp[a4]);rw[CH] at am;have a8:(rs.map ((fun x:Fl×List T5=>x.1)∘fun f=>(f,[])))=rs:=by simp[Function.comp_def]
   rw[a8] at am;have a5:(⟨x1,x2,x3,x4⟩:Fl)∈rs.take (m+1)↔(⟨x1,x2,x3,x4⟩:Fl)∈rs.take m∨(⟨x1,x2,x3,x4⟩:Fl)=rs[m]:=by rw[BP,a4,AR];simp
   generalize hf:rs[m]=f at*;generalize a6:Aj rs++ai=bz at*;obtain⟨f1,f2,f3,f4⟩:=f;dsimp only at am;cases b with
   |true=>
    repeat(refine sA ?_;intros)
    refine Dn.round (m+1,true) ⟨ah,(Fj (a5.2 (.inl (Vf.1 hb.symm)))).symm⟩ oD
   |false=>
    have a9:¬(⟨x1,x2,x3,x4⟩:Fl)∈rs.take m:=fun h=>by rw[Fj h] at hb;cases hb
    repeat(refine sA ?_;intros)
    refine Dn.round (m+1,dec ((f1:Int)=(x1:Int)∧(f2:Int)=(x2:Int)∧(f3:Int)=(x3:Int)∧(f4:Int)=(x4:Int))) ⟨ah,nV ?_⟩ oD;rw[a5,Fl.mk.injEq];constructor
    ·intro h;exact .inr oM
    ·rintro(h|h)
     ·exact absurd h a9
     ·omega
  ·obtain rfl:m=rs.length:=by omega
   rw[EJ] at hb;have an:Kc J.e rs (⟨x1,x2,x3,x4⟩,us)=(decide (J.e=0)&&b):=by unfold Kc;rw[hb,Gh];congr 1;rw[Bool.eq_iff_iff];simp
   cases b with
   |true=>
    by_cases he:J.e=0
    ·have hs:=al (by rw[an,decide_eq_true he];rfl);repeat(refine sA ?_;intros)
     refine Dn.round ⟨k+1,cs,W⟩ ⟨ae,hW,hδ,hα,hσ,ad,hs⟩ oD
    ·have hs:=hF _ (Bn.add (ag (by rw[an,decide_eq_false he];rfl)));repeat(refine sA ?_;intros)
     refine cL hs ?_;rintro _ _ ⟨ao,W',rfl,rfl,aq,aj,au,av,aw⟩;repeat(refine sA ?_;intros)
     refine Dn.round ⟨k+1,ao,W'⟩ ⟨ae,aq,au.trans hδ,av.trans hα,aj.n.trans hσ,A7 ad aj.big,by rw[aw]⟩ oD
   |false=>
    have hs:=hF _ (Bn.add (ag (by rw[an,Bool.and_false])));repeat(refine sA ?_;intros)
    refine cL hs ?_;rintro _ _ ⟨ao,W',rfl,rfl,aq,aj,au,av,aw⟩;repeat(refine sA ?_;intros)
    refine Dn.round ⟨k+1,ao,W'⟩ ⟨ae,aq,au.trans hδ,av.trans hα,aj.n.trans hσ,A7 ad aj.big,by rw[aw]⟩ oD
 ·obtain rfl:k=held.length:=by omega
  rw[EJ,List.drop_length,AP] at hl;repeat(refine sA ?_;intros)
  (refine dP [Ab p.bw p.bd p.ba p.bs,cs,cf] ?_;refine⟨cs,W,rfl,rfl,hW,?_⟩);refine⟨by rw[hα];exact ab.gs,by rw[hα];exact ab.room,by rw[hδ];exact ab.size,hσ.trans ab.n,by rw[hδ];exact ab.keep,by rw[hδ];exact ab.flt,by rw[hδ];exact ab.acts,A7 ab.tk (DQ ad _),?_,?_⟩
  ·rintro e0 G1 G2 hG rfl;obtain⟨g1,g2⟩:=ab.ok e0;have ax:=g1.trans hG;refine⟨?_,fun x hx=>by rw[hδ];exact ab.files x (ax.mem_iff.2 (BO _ hx)),g2⟩;refine hl.trans ((Pa ((ax.filter _).map _) _).trans ?_);have h1:G1.filter (Kc J.e (G1.map (·.1)))=G1:=List.filter_eq_self.2 fun x hx=>by unfold Kc;rw[decide_eq_true e0,EM];simp only[List.contains_iff_mem];exact AO.2 ⟨x,hx,rfl⟩
   rw[CA,h1,AY,uU,iU];intro f hf;obtain⟨y,hy,rfl⟩:=AO.1 hf;obtain⟨bc,ay⟩:=BV.1 hy;unfold Kc at ay;rw[decide_eq_true e0,EM,List.contains_iff_mem] at ay;obtain⟨x,be,bf⟩:=AO.1 ay;by_cases hb:y.1.blocks=0
   ·exact hb
   ·exfalso;obtain⟨a,b,rfl⟩:=List.append_of_mem bc;have h3:W0.live.Perm (y.1.ext::Aw ((G1++(a++b)).map (·.1)) p.L0):=by
     refine ab.live.trans ((Pa (b:=y.1::(G1++(a++b)).map (·.1)) ?_ _).trans ((Nt _ _ _).trans ?_))
     ·refine(ax.map _).trans ?_;rw[←AV];refine(List.perm_middle.map _).trans ?_;rw[AV];exact .refl _
     ·unfold Bc;rw[if_neg hb]
    have h5:=az.live.perm h3;have h6:y.1.ext∈Aw ((G1++(a++b)).map (·.1)) p.L0:=Sh (AO.2 ⟨x,BO _ be,bf⟩) hb;have h7:=List.rel_of_pairwise_cons h5.apart h6;have h8:y.1.ext.2=y.1.blocks:=rfl;omega
  ·intro e0;refine⟨?_,ab.why e0⟩;have h1:held.filter (Kc J.e rs)=[]:=List.filter_eq_nil_iff.2 fun x _=>by unfold Kc;rw[decide_eq_false e0];simp
   rw[h1] at hl;exact hl
theorem iV (p:Jp) (hp:p.Ok) (J:Jb) (C:Aa) (hJ:Fm p J C) (rs:List Fl) (ac:rs.length≤1000) (pa:Option Addr) (cap:Nat) (cf:Aa) (ad:Vec 42 4 pa rs.length cap (Aj rs) cf):Ct AC 66 [pv p.bj,.slice pa rs.length cap] [C,cf] fun v H'=>∃cd ca cs W,v=Z9 Z8 J.e∧H'=[Ab p.bw p.bd p.ba p.bs,cd,ca,cs,cf]∧Wc p.bd p.ba p.bs W cd ca cs∧Sm p J rs W:=by
 obtain⟨W,cd,ca,cs,held,ph,aa,ch,rfl,hW,hV,ae⟩:=hJ;refine Ct.convP (Ct.wide (uW p hp J held W cd ca cs hW ae ph aa ch hV rs ac pa cap cf ad) [cd,ca]) (by unfold Bv;refine Bz fun z=>?_;simp only[AW,A4,AP,A3,A8];omega) ?_;rintro v H' ⟨H1,⟨ab,W',rfl,rfl,ag,hD⟩,rfl⟩;refine⟨[Ab p.bw p.bd p.ba p.bs,cd,ca,ab,cf],⟨cd,ca,ab,W',rfl,rfl,ag,hD⟩,?_⟩;refine Bz fun z=>?_;simp only[AW,A4,AP,A3,A8];omega
structure BegX where
 k:Nat
 ca:Aa
 α:Ar
theorem uX {fs:List Fl} {rest:List Value} {j:Nat} {f:Fl} (h:fs[j]? =some f):((Aj fs++rest).drop (j*4)).take 4=[Z9 Z8 f.first,Z9 Z8 f.blocks,Z9 Z8 f.width,Z9 Z8 f.count]:=by
 have aa:=Nb (rs:=fs.map fun f=>(f,[])) (rest:=rest) (j:=j) (r:=(f,[])) (by simp[h]);rw[CH] at aa;have ab:(fs.map ((fun x:Fl×List T5=>x.1)∘fun f=>(f,[])))=fs:=by simp[Function.comp_def]
 rw[ab] at aa;exact aa
theorem vecpos {E sz:Nat} {p:Option Addr} {m cap:Nat} {xs:List Value} {c:Aa} (h:Vec E sz p m cap xs c) (hm:0<m):∃b rest,p=some ⟨b,0,none⟩∧c=[(b,row (xs++rest) E)]∧cap*sz≤xs.length+rest.length∧m≤cap∧cap≤maxLen:=by
 rcases h.2 with⟨_,e,_⟩|hh
 ·omega
 ·exact hh
theorem iW (bw bd ba bs:Nat) (W:Wk) (cd ca cs:Aa) (h:Wc bd ba bs W cd ca cs) (l:List (Fl×List T5)) (hl:∀x∈l,Dh W x) (a7:l.length≤1000) (pa:Option Addr) (cap:Nat) (cf:Aa) (ao:Vec 42 4 pa l.length cap (Aj (l.map (·.1))) cf):Ct AC 50 [pv bw,.slice pa l.length cap] [Ab bw bd ba bs,cd,ca,cs,cf] fun v H'=>∃ca' α',Wc bd ba bs {W with α:=α'} cd ca' cs∧α'.gs.Perm W.α.gs∧α'.room=W.α.room∧((8*W.δ.size≤W.α.room-W.α.used∧∃bj,v= .tuple #[pv bj,Z9 Z8 0]∧H'=[Bq bj bw 0 none 0 0,Ab bw bd ba bs,cd,ca',cs,cf])∨ (W.α.room-W.α.used<8*W.δ.size∧v= .tuple #[.pointer none,Z9 Z8 7]∧H'=[Ab bw bd ba bs,cd,ca',cs,cf])):=by
 have aa:=Ty bw bd ba bs;have ab:=Vq bw bd ba bs;have ac:=My bd W.δ cd h.dev;obtain⟨⟨a8,a9⟩,_⟩:=h.dev.num;have a6:AL .i64 ((8:Int)*(W.δ.size:Int))=((8*W.δ.size:Nat):Int):=by rw[Ah oM];omega
 unfold Bq;refine cG func50 fun _=>?_;repeat(refine sA ?_;intros)
 refine G.loop (X:=BegX) (fun x=>x.k≤l.length∧Wc bd ba bs {W with α:=x.α} cd x.ca cs∧x.α.gs.Perm W.α.gs∧x.α.room=W.α.room)
  (fun x=>[(14,Z9 Z8 x.k),(13,Z9 Z8 l.length),(12,.slice pa l.length cap),(0,pv bw)])
  (fun x=>[Ab bw bd ba bs,cd,x.ca,cs,cf]) (fun x=>l.length-x.k) ⟨0,ca,W.α⟩ ⟨AT _,h,.refl _,rfl⟩ (body:=?_)
 rintro⟨k,ad,α1⟩ ⟨hk,hW,hg,ae⟩;dsimp only at hk hW hg ae⊢;have bc:α1.used=W.α.used:=Uh h hW hg;have al:=hW.ar.num;dsimp only at al;by_cases ai:k<l.length
 ·obtain⟨fb,ag,rfl,rfl,be,bf,hfm⟩:=vecpos ao oM;have aq:(l.map (·.1))[k]? =some (l[k]).1:=by simp[ai]
  have au:=uX (rest:=ag) aq;obtain⟨Lv,ah,_⟩:=hl _ (B7 ai);have aj:=Ox bw bd ba bs {W with α:=α1} cd ad cs hW (l[k]).1 (l[k]).2 Lv ah;have ak:=qR bw bd ba bs {W with α:=α1} cd ad cs hW (l[k]).1 ah.w1 ah.w2 ah.cnt ah.blk;generalize (l[k]).2=ts at*;generalize (l[k]).1=f at*;generalize Aj (l.map (·.1))++ag=bg at*;obtain⟨f1,f2,f3,f4⟩:=f;have am:flv ⟨f1,f2,f3,f4⟩= .agg #[Z9 Z8 f1,Z9 Z8 f2,Z9 Z8 f3,Z9 Z8 f4]:=rfl;rw[am] at aj ak;dsimp only at au aj ak;repeat(refine sA ?_;intros)
  by_cases hr:W.δ.size≤α1.room-α1.used
  ·have an:=aj hr;refine cL an ?_;rintro _ _ ⟨bx,g,av,α2,cx,cb,rfl,rfl,aw,ax,ay,bh,az⟩;try dsimp only[AA,AB]
   have a0:=Vv bw bd ba bs {W with α:=α2} cd av cs aw bx ⟨f1,f2,f3,f4⟩ ts g _ ay 0 cx cb az;repeat(refine sA ?_;intros)
   refine cL a0 ?_;rintro _ _ ⟨a1,α5,bi,rfl,rfl,a2,a3,a4,bk⟩;repeat(refine sA ?_;intros)
   refine Dn.round ⟨k+1,a1,α5⟩ ⟨ai,a2,a4.trans hg,(a3.room.trans ax.room).trans ae⟩ oD
  ·have a5:=ak oM;refine cL a5 ?_;rintro _ _ ⟨rfl,rfl⟩;repeat(refine sA ?_;intros)
   refine cL qT ?_;rintro _ _ ⟨rfl,rfl⟩;repeat(refine sA ?_;intros)
   refine Dn.round ⟨k+1,ad,α1⟩ ⟨ai,hW,hg,ae⟩ oD
 ·obtain rfl:k=l.length:=by omega
  have hLf:=Vp ba α1 ad hW.ar;by_cases hr:8*W.δ.size≤W.α.room-W.α.used
  ·repeat(refine sA ?_;intros)
   rename_i bj;(refine dP [[(bj,row [pv bw,Z9 Z8 0,.slice none 0 0] 98)],Ab bw bd ba bs,cd,ad,cs,cf] ?_;exact⟨ad,α1,hW,hg,ae,.inl ⟨hr,bj,rfl,rfl⟩⟩)
  ·repeat(refine sA ?_;intros)
   (refine dP [Ab bw bd ba bs,cd,ad,cs,cf] ?_;exact⟨ad,α1,hW,hg,ae,.inr ⟨oM,rfl,rfl⟩⟩)
def Co (bw bd ba bs bj:Nat) (W:Wk):Jp:=⟨bw,bd,ba,bs,bj,W.δ.size,W.α.room,W.σ.n,W.α.gs,W.live,W.δ.disk,W.δ.fault≠-1,big W.σ.free⟩
theorem iX {bw bd ba bs bj:Nat} {W:Wk} {cd ca cs aa:Aa} {α':Ar} (h:Wc bd ba bs W cd ca cs) (hW:Wc bd ba bs {W with α:=α'} cd aa cs) (hg:α'.gs.Perm W.α.gs) (hr:α'.room=W.α.room) (ab:8*W.δ.size≤W.α.room-W.α.used):(Co bw bd ba bs bj W).Ok∧Fm (Co bw bd ba bs bj W) ⟨0,none,[],W.δ.acts,0⟩ (Bv (Co bw bd ba bs bj W) 0 cd aa cs none 0 0 []):=by
 obtain⟨⟨ac,ad⟩,_⟩:=h.dev.num;have h1:=h.ar.num.2.2.2;have h2:=h.ar.num.1;refine⟨⟨⟨ac,ad⟩,by show(W.α.gs.map (·.n)).sum+8*W.δ.size≤W.α.room;omega⟩,{W with α:=α'},cd,aa,cs,[],none,0,[],rfl,hW,Vec.nil _ _,?_⟩;exact⟨hg,hr,rfl,rfl,.refl _,by simp,AT _,fun _ _=>rfl,fun hf=>by simpa[Co] using hf,AI _,AI _,fun _=>⟨.refl _,rfl⟩,fun h0=>absurd rfl h0⟩
theorem Uj {bw bd ba bs bj:Nat} {W:Wk} {x:Fl×List T5} (h:Dh W x):In0 (Co bw bd ba bs bj W) x:=h
namespace Am
variable {K:Type} {M:Am K}
theorem bad_none (h:∀k t,M.err k t=none):∀(ts:List T5) (k:K),M.bad k ts=none
 |[],_=>rfl
 |t::ts,k=>by simp only[bad,h];exact bad_none h ts _
theorem oks_of {ok:K→T5→Prop} {I:K→Prop} {Q:T5→Prop} (h:∀k t,I k→Q t→ok k t∧I (M.next k t)):∀(ts:List T5) (k:K),I k→(∀t∈ts,Q t)→M.oks ok k ts
 |[],_,_,_=>trivial
 |t::ts,k,hI,hQ=>by obtain⟨h1,h2⟩:=h k t hI (hQ t AE);exact⟨h1,fun _=>oks_of h ts _ h2 fun u hu=>hQ u (AF _ hu)⟩
end Am
def mMap (g:T5→T5):Am Unit:=⟨fun _=>[],fun _ t=>[g t],fun _ _=>(),fun _ _=>none⟩
theorem aP (g:T5→T5):∀(ts:List T5) (k:Unit),(mMap g).all k ts=ts.map g
 |[],_=>rfl
 |t::ts,k=>by simp only[Am.all,aP g ts];rfl
def Wv (R:Value→Aa→Prop) (v:Value) (H':Hp):Prop:=∃X',H'=[X']∧R v X'
def PutC (bx:Nat) (t:T5) (X:Aa) (R:Value→Aa→Prop):Prop:=Ct AC 92 [pv bx,tv t] [X] (Wv R)
theorem Bx.tail {g:T5→T5} {kk mk:Nat} {aa:T5→Prop} (ab:∀bx t X R,PutC bx (g t) X R→Ct AC mk [tv t,Jg bx] [X] (Wv R)) (ac:∀t,aa t→okT kk (g t)):Bx (mMap g) kk (fun _ t=>aa t) mk [] []:=by
 intro bx Pst Br bnd hP ps X k t hX hk hb;refine(ab bx t X _ (hP ps X (g t) hX (ac t hk) (by simp[mMap] at hb;omega))).mono ?_;rintro v H' ⟨X',rfl,hR⟩;rcases hR with⟨rfl,ad⟩|⟨rfl,hB⟩
 ·exact⟨X',(),rfl,.inl ⟨rfl,rfl,rfl,ad⟩⟩
 ·exact⟨X',(),rfl,.inr (.inl ⟨rfl,hB⟩)⟩
theorem Om:Bd (-1):=⟨by decide,by decide⟩
theorem He:Bd 0:=⟨by decide,by decide⟩
theorem Oo (x:Int):Bd (AL .i64 x):=by
 have h1:(9223372036854775808:Int)=2^(64-1):=by decide
 unfold Bd;simp only[AL,IntKind.bits,IntKind.signed,EM,decide_eq_true_eq,←h1];split<;>omega
theorem Dx {k:Nat} {t:T5} (h:okT k t):Bd t.c0∧Bd t.c1∧Bd t.c2∧Bd t.c3∧Bd t.c4:=
 ⟨h.1 _ (by simp[T5.toList]),h.1 _ (by simp[T5.toList]),h.1 _ (by simp[T5.toList]),h.1 _ (by simp[T5.toList]),h.1 _ (by simp[T5.toList])⟩
theorem Nc {k:Nat} {a b c d e:Int} (ha:Bd a) (hb:Bd b) (hc:Bd c) (hd:Bd d) (he:Bd e) (h0:k≤0→a=0) (h1:k≤1→b=0) (h2:k≤2→c=0) (h3:k≤3→d=0) (h4:k≤4→e=0):okT k ⟨a,b,c,d,e⟩:=by
 refine⟨fun x hx=>?_,fun i hi=>?_⟩
 ·simp only[T5.toList,AN,List.not_mem_nil,or_false] at hx;rcases hx with rfl|rfl|rfl|rfl|rfl<;>assumption
 ·match i with
  |0=>exact h0 hi
  |1=>exact h1 hi
  |2=>exact h2 hi
  |3=>exact h3 hi
  |4=>exact h4 hi
  |n+5=>rfl
theorem okT5 {a b c d e:Int} (ha:Bd a) (hb:Bd b) (hc:Bd c) (hd:Bd d) (he:Bd e):okT 5 ⟨a,b,c,d,e⟩:=
 Nc ha hb hc hd he oM oM oM oM oM
theorem okT1 {a:Int} (ha:Bd a):okT 1 ⟨a,0,0,0,0⟩:=Nc ha He He He He oM oA19 oA19 oA19 oA19
theorem Ht {a b:Int} (ha:Bd a) (hb:Bd b):okT 2 ⟨a,b,0,0,0⟩:=Nc ha hb He He He oM oM oA19 oA19 oA19
theorem Jd {a b c:Int} (ha:Bd a) (hb:Bd b) (hc:Bd c):okT 3 ⟨a,b,c,0,0⟩:=Nc ha hb hc He He oM oM oM oA19 oA19
theorem uY (x:Fl×List T5):cat [x]=x.2:=by simp[cat]
theorem iY (x y:Fl×List T5):cat [x,y]=x.2++y.2:=by simp[cat]
theorem Nv (b:Nat) (f:Fl):Vec 42 4 (some ⟨b,0,none⟩) [f].length 1 (Aj [f]) [(b,row (fl4 f) 42)]:=
 ⟨rfl,.inr ⟨b,[],rfl,by simp[Aj,fl4],by simp[Aj],by simp,by decide⟩⟩
theorem Nw (b:Nat) (f g:Fl):Vec 42 4 (some ⟨b,0,none⟩) [f,g].length 2 (Aj [f,g]) [(b,row (fl4 f++fl4 g) 42)]:=
 ⟨rfl,.inr ⟨b,[],rfl,by simp[Aj,fl4],by simp[Aj],by simp,by decide⟩⟩
theorem Nx (x:Option Nat):x.or none=x:=by cases x<;>rfl
theorem JRunK (p:Jp) (hp:p.Ok) (J:Jb) (C:Aa) (hJ:Fm p J C) (mk:Nat) (aa:Callable AC mk) (us:List Value) (Hx:Hp) (A T:Nat) (er:Option Nat) (ts:List T5) (R:Fl→Int→Prop) (ac:J.e=0→Fg p J mk us Hx A T er ts fun f e Hx'=>Hx'=Hx∧R f e) (ab:J.G.length≤1000):Ct AC 60 [pv p.bj,.func (.func mk) #[] us.toArray] (C::Hx) fun v H'=>∃f C' e',v=flv f∧H'=C'::Hx∧Fm p ⟨e',J.er.or er,(f,ts)::J.G,J.acts+A,J.took+T⟩ C'∧((J.e=0∧R f e')∨(J.e≠0∧e'=J.e∧f=⟨0,0,0,0⟩)):=by
 refine(JRun p hp J C hJ mk aa us Hx A T er ts _ ac ab).mono ?_;rintro v H' ⟨f,C',e',Hx',h1,rfl,h3,⟨h4,rfl,h5⟩|⟨h4,h5,h6,rfl⟩⟩
 ·exact⟨f,C',e',h1,rfl,h3,.inl ⟨h4,h5⟩⟩
 ·exact⟨f,C',e',h1,rfl,h3,.inr ⟨h4,h5,h6⟩⟩
def WSt (bw bx first nb k bound:Nat) (g:Gr) (base:List Gr) (Lv:List Ext) (W:Wk) (cx cb:Aa):Prop:=
 (W.α.gs.Perm (g::base)∧Bn first nb Lv W.live∧∃ps,Dr bw bx W first nb k bound g ps cx cb)∨(W.α.gs.Perm base∧W.live.Perm Lv∧Mc bx cx)
theorem Ww (ts:List T5):ts.map (fun t=>t)=ts:=by simp
theorem Cd.wide {P:Program} {f:FuncId} {args:List Value} {Hf:Hp} {R:Value→Hp→Prop} (h:Cd P f args Hf R) (F:Hp):Cd P f args (Hf++F) fun v H'=>∃H1,R v H1∧H'=H1++F:=by unfold Cd at h⊢;intro u w hw;refine(h u w hw.self).mono ?_;rintro e u' w' ⟨hu,v,H',h3,h4,h5⟩;exact⟨hu,v,H'++F,h3,⟨H',h4,rfl⟩,hw.framed h5⟩
theorem Sq (bw bd ba bs:Nat) (W:Wk) (cd ca cs:Aa) (h:Wc bd ba bs W cd ca cs) (bx first nb k bound:Nat) (g:Gr) (aa:List Gr) (Lv:List Ext) (cx cb:Aa) (hw:WSt bw bx first nb k bound g aa Lv W cx cb):Cd AC 90 [pv bx] [Ab bw bd ba bs,cd,ca,cs,cx,cb] fun v H'=> ∃cd' ca' cs' W' cx' cb',H'=[Ab bw bd ba bs,cd',ca',cs',cx',cb']∧Wc bd ba bs W' cd' ca' cs'∧Ev W W' 0 0∧W'.δ=W.δ∧W'.α.gs.Perm aa∧W'.live.Perm Lv:=by
 rcases hw with⟨h1,h2,ps,h3⟩|⟨h1,h2,h3⟩
 ·refine Cd.conv (Zp bw bd ba bs W cd ca cs h bx first nb k bound g ps cx cb h3 aa h1 Lv h2).2 (.refl _) ?_;rintro v H' ⟨cd',ca',cs',W',cx',cb',_,rfl,a1,a2,a3,a4,a5,_⟩;exact⟨_,⟨cd',ca',cs',W',cx',cb',rfl,a1,a2,a3,a4,a5⟩,.refl _⟩
 ·refine Cd.conv (Cd.wide (Ow bx cx h3).2 [Ab bw bd ba bs,cd,ca,cs,cb]) (Bz fun z=>by simp only[AW,A4,AP,A3,A8];omega) ?_;rintro v H' ⟨H1,⟨_,rfl⟩,rfl⟩;exact⟨_,⟨cd,ca,cs,W,cx,cb,rfl,h,Ev.refl W,rfl,h1,h2⟩,Bz fun z=>by simp only[AW,A4,AP,A3,A8];omega⟩
theorem Put_w (bw bd ba bs:Nat) (W:Wk) (cd ca cs:Aa) (h:Wc bd ba bs W cd ca cs) (bx first nb k bound:Nat) (g:Gr) (ps:List T5) (cx cb:Aa) (hw:Dr bw bx W first nb k bound g ps cx cb) (Gs:List Gr) (hg:W.α.gs.Perm (g::Gs)) (Lv:List Ext) (hl:Bn first nb Lv W.live) (ae:ps.length<bound) (t:T5) (ht:okT k t) (ad:W.δ.acts≤1000000000000) (hh:1≤Ad W.δ.size k):Ct AC 92 [pv bx,tv t] [Ab bw bd ba bs,cd,ca,cs,cx,cb] fun v H'=> ∃cd' ca' cs' W' cx' cb' e,v=Z9 Z8 e∧H'=[Ab bw bd ba bs,cd',ca',cs',cx',cb']∧Wc bd ba bs W' cd' ca' cs'∧Ev W W' 1 0∧Ax Lv W W'∧((e=0∧W'.α.gs.Perm (g::Gs)∧Bn first nb Lv W'.live∧Dr bw bx W' first nb k bound g (ps++[t]) cx' cb')∨(e=6∧W.δ.fault≠-1∧WSt bw bx first nb k bound g Gs Lv W' cx' cb')):=by
 refine(Vu bw bd ba bs W cd ca cs h bx first nb k bound g ps cx cb hw Gs hg Lv hl ae t ht ad).mono ?_;rintro v H' ⟨cd',ca',cs',W',cx',cb',rfl,aa,ag,ab,hc⟩;have ac:Ev W W' 1 0:=ag.weak (by
  have h2:(ps.length+1)/Ad W.δ.size k≤ps.length/Ad W.δ.size k+1:=by
   calc (ps.length+1)/Ad W.δ.size k≤(ps.length+Ad W.δ.size k)/Ad W.δ.size k:=B8 oM
    _=ps.length/Ad W.δ.size k+1:=Nat.add_div_right _ oM
  omega) (AI _)
 rcases hc with⟨rfl,e1,e2,e3,e4⟩|⟨rfl,e1,e2,e3,e4,e5⟩
 ·exact⟨cd',ca',cs',W',cx',cb',0,rfl,rfl,aa,ac,ab,.inl ⟨rfl,by rw[e1];exact hg,by rw[e3];exact hl,e4⟩⟩
 ·exact⟨cd',ca',cs',W',cx',cb',6,rfl,rfl,aa,ac,ab,.inr ⟨rfl,oM,.inr ⟨e3,e4,e5⟩⟩⟩
theorem iZ (bw bd ba bs:Nat) (W:Wk) (cd ca cs:Aa) (h:Wc bd ba bs W cd ca cs) (bx first nb k bound:Nat) (g:Gr) (ps:List T5) (cx cb:Aa) (hw:Dr bw bx W first nb k bound g ps cx cb) (Gs:List Gr) (hg:W.α.gs.Perm (g::Gs)) (Lv:List Ext) (hl:Bn first nb Lv W.live) (ag:W.δ.acts≤1000000000000) (hh:1≤Ad W.δ.size k):Ct AC 93 [pv bx] [Ab bw bd ba bs,cd,ca,cs,cx,cb] fun v H'=> ∃cd' ca' cs' W' cx' cb' f e,v= .tuple #[flv f,Z9 Z8 e]∧H'=[Ab bw bd ba bs,cd',ca',cs',cx',cb']∧Wc bd ba bs W' cd' ca' cs'∧Ev W W' 1 0∧Ax Lv W W'∧W'.α.gs.Perm Gs∧Mc bx cx'∧((e=0∧W'.live.Perm (Bc f Lv)∧f.width=k∧f.count=ps.length∧Bg W'.δ.disk W.δ.size [f.ext] f ps)∨(e=6∧f=⟨0,0,0,0⟩∧W.δ.fault≠-1∧W'.live.Perm Lv)):=by
 refine(Rz bw bd ba bs W cd ca cs h bx first nb k bound g ps cx cb hw Gs hg Lv hl ag).mono ?_;rintro v H' ⟨cd',ca',cs',W',cx',cb',rfl,aa,ah,ab,ac,ad,hc⟩;have ae:Ev W W' 1 0:=ah.weak (by
  unfold Ac;have h1:(ps.length+Ad W.δ.size k-1)/Ad W.δ.size k≤(ps.length+Ad W.δ.size k)/Ad W.δ.size k:=B8 oM;rw[Nat.add_div_right _ oM] at h1;omega) (AI _)
 rcases hc with⟨f,rfl,e1,e2,e3,e4⟩|⟨rfl,e1,e2,e3⟩
 ·exact⟨cd',ca',cs',W',cx',cb',f,0,rfl,rfl,aa,ae,ab,ac,ad,.inl ⟨rfl,by rw[e1];exact .refl _,e2,e3,e4⟩⟩
 ·exact⟨cd',ca',cs',W',cx',cb',⟨0,0,0,0⟩,6,rfl,rfl,aa,ae,ab,ac,ad,.inr ⟨rfl,rfl,oM,e3⟩⟩
def RSt (bw bx:Nat) (f:Fl) (ts:List T5) (g:Gr) (base:List Gr) (W:Wk) (cx cb:Aa):Prop:=
 (W.α.gs.Perm (g::base)∧∃pos,Df bw bx W f ts g pos cx cb)∨(W.α.gs.Perm base∧Lg bx cx)
theorem Uk (bw bd ba bs:Nat) (W:Wk) (cd ca cs:Aa) (h:Wc bd ba bs W cd ca cs) (bx:Nat) (f:Fl) (ts:List T5) (g:Gr) (aa:List Gr) (cx cb:Aa) (hr:RSt bw bx f ts g aa W cx cb):Cd AC 96 [pv bx] [Ab bw bd ba bs,ca,cx] fun v H'=> ∃ca' α' cx',H'=[Ab bw bd ba bs,ca',cx']∧Wc bd ba bs {W with α:=α'} cd ca' cs∧Ev W {W with α:=α'} 0 0∧α'.gs.Perm aa:=by
 rcases hr with⟨h1,pos,h2⟩|⟨h1,h2⟩
 ·refine Cd.conv (Md bw bd ba bs W cd ca cs h bx f ts g aa h1 pos cx cb h2).2 (.refl _) ?_;rintro v H' ⟨ca',α',cx',_,rfl,a1,a2,a3,_⟩;exact⟨_,⟨ca',α',cx',rfl,a1,a2,a3⟩,.refl _⟩
 ·refine Cd.conv (Cd.wide (Vw bx cx h2).2 [Ab bw bd ba bs,ca]) (Bz fun z=>by simp only[AW,A4,AP,A3,A8];omega) ?_;rintro v H' ⟨H1,⟨_,rfl⟩,rfl⟩;exact⟨_,⟨ca,W.α,cx,rfl,h,Ev.refl W,h1⟩,Bz fun z=>by simp only[AW,A4,AP,A3,A8];omega⟩
structure Mkr (K:Type) where
 own:K→List Gr
 C:K→Aa
 J:Wk→K→Nat→Prop
 E:Wk→K→Prop
 pot:K→Nat
structure Mkr.Ok {K:Type} (Z:Mkr K) (Lv:List Ext):Prop where
 stay:∀W W' r i,Z.J W r i→W'.δ.size=W.δ.size→Ax Lv W W'→(∀e∈Lv,e∈W'.live)→(W.δ.fault= -1→W'.δ.fault= -1)→Z.J W' r i
 fin:∀W r i,Z.J W r i→Z.E W r
 stayE:∀W W' r,Z.E W r→W'.δ.size=W.δ.size→Z.E W' r
def MkrCt (bw bd ba bs:Nat) {K:Type} (Z:Mkr K) (size room:Nat) (ts:List T5) (out:Nat→T5) (fid:Nat) (fs us:List Value):Prop:=
 ∀(aa:List Gr) (W:Wk) (cd ca cs:Aa) (r:K) (i:Nat) (t:T5),Wc bd ba bs W cd ca cs→W.α.gs.Perm (Z.own r++aa)→W.α.room=room→W.δ.size=size→Z.J W r i→ts[i]? =some t→W.δ.acts≤100000000000→
  Ct AC fid (fs++[tv t]++us) [Ab bw bd ba bs,cd,ca,cs,Z.C r] fun v H'=>
   ∃ab ac W' r' u k e,v= .tuple #[tv u,.bool k,Z9 Z8 e]∧H'=[Ab bw bd ba bs,ab,ac,cs,Z.C r']∧Wc bd ba bs W' ab ac cs∧Ev W W' (Z.pot r'-Z.pot r) 0∧W'.δ.disk=W.δ.disk∧W'.σ=W.σ∧W'.live=W.live∧Z.pot r≤Z.pot r'∧W'.α.gs.Perm (Z.own r'++aa)∧
    ((e=0∧k=true∧u=out i∧Z.J W' r' (i+1))∨(e=6∧W.δ.fault≠-1∧Z.E W' r'))
def Ll (out:Nat→T5) (i:Nat):List T5:=(List.range i).map out
theorem jA (out:Nat→T5) (i:Nat):(Ll out i).length=i:=by simp[Ll]
theorem uZ (out:Nat→T5) (i:Nat):Ll out (i+1)=Ll out i++[out i]:=by simp[Ll,List.range_succ]
structure EachJX (K:Type) where
 i:Nat
 cd:Aa
 ca:Aa
 cs:Aa
 cx:Aa
 cb:Aa
 cy:Aa
 cc:Aa
 W:Wk
 r:K
theorem jB {x y:Gr} {a b:List Gr}:(a++(x::y::b)).Perm (x::y::(a++b)):=B3.trans (List.perm_middle.cons _)
theorem vA (bw bd ba bs:Nat) {K:Type} (Z:Mkr K) (W:Wk) (cd ca cs:Aa) (h:Wc bd ba bs W cd ca cs) (hZ:Z.Ok W.live) (f:Fl) (ts:List T5) (LvF:List Ext) (be:Bg W.δ.disk W.δ.size LvF f ts) (cm:∀e∈LvF,e∈W.live) (width:Nat) (dc:1≤width) (dd:width≤5) (out:Nat→T5) (dz:∀i,i<f.count→okT width (out i)) (b6:Nat) (dx:Callable AC b6) (fs us:List Value) (fc:MkrCt bw bd ba bs Z W.δ.size W.α.room ts out b6 fs us) (r:K) (aa:List Gr) (hg:W.α.gs.Perm (Z.own r++aa)) (hJ:Z.J W r 0) (P:Nat) (hP:∀W r,Z.E W r→Z.pot r≤P) (gt:P≤1000000) (hr:2*W.δ.size≤W.α.room-W.α.used) (dy:Ac W.δ.size width f.count≤big W.σ.free) (gw:W.δ.acts≤1000000000) (gu:f.count≤1000000):Ct AC 169 [pv bw,flv f,Z9 Z8 width,.func (.func b6) fs.toArray us.toArray] [Ab bw bd ba bs,cd,ca,cs,Z.C r] fun v H'=> ∃cd' ca' cs' W' r' f' e,v= .tuple #[flv f',Z9 Z8 e]∧H'=[Ab bw bd ba bs,cd',ca',cs',Z.C r']∧Wc bd ba bs W' cd' ca' cs'∧Ev W W' (f.blocks+f.count+1+P) (Ac W.δ.size width f.count)∧Ax W.live W W'∧W'.α.gs.Perm (Z.own r'++aa)∧Z.E W' r'∧((e=0∧W'.live.Perm (Bc f' W.live)∧f'.width=width∧f'.count=f.count∧Bg W'.δ.disk W.δ.size [f'.ext] f' (Ll out f.count))∨(e=6∧f'=⟨0,0,0,0⟩∧W.δ.fault≠-1∧W'.live.Perm W.live)):=by
 obtain⟨⟨de,gx⟩,_⟩:=h.dev.num;have gy:=be.len;have fd:=be.w1;have fg:=be.w2;have d0:=be.blk;have hp:=Bp de fd fg;have d1:=Ox bw bd ba bs W cd ca cs h f ts LvF be oM;have d2:flv f= .agg #[Z9 Z8 f.first,Z9 Z8 f.blocks,Z9 Z8 f.width,Z9 Z8 f.count]:=rfl;have gz:=eQ1;have hz:tv T5.zero= .agg #[Z9 Z8 T5.zero.c0,Z9 Z8 T5.zero.c1,Z9 Z8 T5.zero.c2,Z9 Z8 T5.zero.c3,Z9 Z8 T5.zero.c4]:=rfl;have bi:∀(W':Wk) (cd' ca' cs':Aa) (r':K) (kk:Nat),Wc bd ba bs W' cd' ca' cs'→Ev W W' kk (Ac W.δ.size width f.count)→kk≤f.blocks+f.count+1+P→Ax W.live W W'→W'.α.gs.Perm (Z.own r'++aa)→Z.E W' r'→W.δ.fault≠-1→W'.live.Perm W.live→
   ∃cu cw cz ak df f' e,Value.tuple #[.agg #[Z9 Z8 0,Z9 Z8 0,Z9 Z8 0,Z9 Z8 0],Z9 Z8 6]= .tuple #[flv f',Z9 Z8 e]∧[Ab bw bd ba bs,cd',ca',cs',Z.C r']=[Ab bw bd ba bs,cu,cw,cz,Z.C df]∧Wc bd ba bs ak cu cw cz∧Ev W ak (f.blocks+f.count+1+P) (Ac W.δ.size width f.count)∧Ax W.live W ak∧ak.α.gs.Perm (Z.own df++aa)∧Z.E ak df∧
    ((e=0∧ak.live.Perm (Bc f' W.live)∧f'.width=width∧f'.count=f.count∧Bg ak.δ.disk W.δ.size [f'.ext] f' (Ll out f.count))∨(e=6∧f'=⟨0,0,0,0⟩∧W.δ.fault≠-1∧ak.live.Perm W.live)):=
  fun W' cd' ca' cs' r' kk a1 a2 a3 a4 a5 a6 a7 a8=>⟨cd',ca',cs',W',r',⟨0,0,0,0⟩,6,rfl,rfl,a1,a2.weak a3 (AI _),a4,a5,a6,.inr ⟨rfl,rfl,a7,a8⟩⟩
 rw[d2] at d1⊢;refine Ct.introD func169 rfl ntmps169 (nle rfl) fun _=>?_;dsimp only[Dg,AD];repeat(refine sA ?_;intros)
 rename_i b5 b8;refine cL d1 ?_;rintro _ _ ⟨bx,g,fh,α1,cx,cb,rfl,rfl,d3,d4,d5,fi,fj⟩;try dsimp only[AA,AB]
 have g0:α1.used=W.α.used+W.δ.size:=by have:=d3.ar.num.2.2.2;dsimp only at this;rw[this,(d5.map (·.n)).sum_nat,h.ar.num.2.2.2];simp[fi];omega
 have gl:α1.room=W.α.room:=d4.room;have d6:=Qh bw bd ba bs {W with α:=α1} cd fh cs d3 width f.count dc dd oM oD;dsimp only at d6;repeat(refine sA ?_;intros)
 refine cL d6 ?_;rintro _ _ (⟨_,aj,first,g2,fk,fm,fp,W2,cy,cc,rfl,rfl,fq,d7,e1,e2,e3,e4,e5⟩|⟨fr,_⟩);rotate_left
 ·exact absurd dy oM
 dsimp only[AA,AB];have bk:=d4.trans d7;have d8:Ax W.live W W2:=fun x _=>by rw[e1]
 have c5:W2.δ.size=W.δ.size:=bk.size;have ft:Z.J W2 r 0:=hZ.stay _ _ _ _ hJ c5 d8 (fun e he=>e4.mem he) bk.fault;have d9:W2.α.gs.Perm (g2::g::(Z.own r++aa)):=e2.trans ((d5.trans (hg.cons _)).cons _);repeat(refine sA ?_;intros)
 refine G.loop (X:=EachJX K) (fun x=>x.i≤f.count∧Wc bd ba bs x.W x.cd x.ca x.cs∧Ev W x.W (Ac W.δ.size f.width x.i+x.i+(Z.pot x.r-Z.pot r)) (Ac W.δ.size width f.count)∧Z.pot r≤Z.pot x.r∧x.W.α.gs.Perm (g2::g::(Z.own x.r++aa))∧Z.J x.W x.r x.i∧
   Df bw bx x.W f ts g x.i x.cx x.cb∧Dr bw aj x.W first (Ac W.δ.size width f.count) width f.count g2 (Ll out x.i) x.cy x.cc∧Bn first (Ac W.δ.size width f.count) W.live x.W.live∧Ax W.live W x.W)
  (fun _=>[(12,pv aj),(13,.func (.func 97) #[pv bx] #[]),(3,.func (.func b6) fs.toArray us.toArray),(8,pv b8)])
  (fun x=>[[(b8,row [Z9 Z8 0,Z9 Z8 0,Z9 Z8 0,Z9 Z8 0] 42)],Ab bw bd ba bs,x.cd,x.ca,x.cs,Z.C x.r,x.cx,x.cb,x.cy,x.cc]) (fun x=>f.count-x.i) ⟨0,fk,fm,fp,cx,cb,cy,cc,W2,r⟩
  ⟨AT _,fq,bk.weak (AT _) oM,AI _,d9,ft,fj.move d7.size,by rw[←c5] at e5⊢;exact e5,e4,d8⟩ (body:=?_)
 rintro⟨i,ea,eb,bf,dg,dh,bp,bq,W3,r3⟩ ⟨hi,di,al,c6,b7,bu,a0,a9,bg,bv⟩;dsimp only at hi di al c6 b7 bu a0 a9 bg bv⊢;have bc:W3.δ.size=W.δ.size:=al.size;have gm:=al.acts.2;have g1:Ac W.δ.size f.width i≤f.blocks:=by rw[d0];exact Dd hi
 have g3:=En (n:=f.count) hp;have gp:=hP W3 r3 (hZ.fin _ _ _ bu);have ec:Bg W3.δ.disk W3.δ.size LvF f ts:=by rw[bc];exact be.keep fun x ⟨e,he,h2⟩=>bv x ⟨e,cm e he,h2⟩
 have dj:∀e∈LvF,e∈W3.live:=fun e he=>bg.mem (cm e he);by_cases b9:i<f.count
 ·have ee:ts[i]? =some ts[i]:=AG oM;have ef:W3.α.gs.Perm (g::(g2::(Z.own r3++aa))):=b7.trans (.swap _ _ _);have eg:=Qg bw bd ba bs W3 ea eb bf di bx f ts LvF ec dj g _ ef i dg dh a0 _ ee oM;have fu:tv ts[i]= .agg #[Z9 Z8 (ts[i]).c0,Z9 Z8 (ts[i]).c1,Z9 Z8 (ts[i]).c2,Z9 Z8 (ts[i]).c3,Z9 Z8 (ts[i]).c4]:=rfl;rw[fu,hz,bc] at eg;have fv:=fun W cd ca cs=>fc (g2::g::aa) W cd ca cs r3 i ts[i];generalize ht:ts[i]=t at*;have eh:tv t= .agg #[Z9 Z8 t.c0,Z9 Z8 t.c1,Z9 Z8 t.c2,Z9 Z8 t.c3,Z9 Z8 t.c4]:=rfl;have g4:Ac W.δ.size f.width (i+1)≤f.blocks:=by rw[d0];exact Dd b9
  have g5:Ac W.δ.size f.width i≤Ac W.δ.size f.width (i+1):=Dd oM;repeat(refine sA ?_;intros)
  refine R.callV (fs:=[pv bx]) (vs:=[]) (hf:=inferInstance) (hct:=eg) (h:=?_);rintro _ _ ⟨cg,ci,W4,bz,b2,rfl,cj,ae,b3,g6,aq,⟨rfl,fw,fx⟩|⟨rfl,ei,g7,dk,dl⟩⟩<;>dsimp only[AA,AB]
  ·have ag:=al.trans ae;have dm:Ax W.live W3 W4:=fun x _=>by rw[b3]
   have fy:Z.J W4 r3 i:=hZ.stay _ _ _ _ bu ae.size dm (fun e he=>by rw[aq];exact bg.mem he) ae.fault;have gq:=ag.acts.2;have f0:W4.α.gs.Perm (Z.own r3++(g2::g::aa)):=by rw[fw];exact b7.trans jB.symm
   have hS:=fv W4 cg ci bf cj f0 ag.room ag.size fy ee oM;rw[eh] at hS;repeat(refine sA ?_;intros)
   apply R.callV
   ·exact rfl
   ·exact dx
   ·exact rfl
   ·exact hS
   ·exact oA4
   ·exact rfl
   ·exact nle rfl
   rintro _ _ ⟨ej,ek,W5,r5,u,k,e,rfl,rfl,el,dp,em,g8,f1,en,f2,hc⟩;dsimp only[AA,AB];have am:=ag.trans dp;have f3:W5.δ.size=W.δ.size:=am.size;have b4:Df bw bx W5 f ts g (i+1) bz b2:=fx.move dp.size;have c7:Dr bw aj W5 first (Ac W.δ.size width f.count) width f.count g2 (Ll out i) bp bq:=a9.move (ae.trans dp).size (fun x _ _=>by rw[em,b3])
   have c8:Bn first (Ac W.δ.size width f.count) W.live W5.live:=by rw[f1,aq];exact bg
   have dq:Ax W.live W W5:=fun x hx=>by rw[em,b3];exact bv x hx
   have c9:W5.α.gs.Perm (g2::g::(Z.own r5++aa)):=f2.trans jB;have eo:tv u= .agg #[Z9 Z8 u.c0,Z9 Z8 u.c1,Z9 Z8 u.c2,Z9 Z8 u.c3,Z9 Z8 u.c4]:=rfl;have gr:=am.acts.2;rw[eo];rcases hc with⟨rfl,rfl,hu,dr⟩|⟨rfl,f4,da⟩
   ·have ep:=hP W5 r5 (hZ.fin _ _ _ dr);have et:=Put_w bw bd ba bs W5 ej ek bf el aj first (Ac W.δ.size width f.count) width f.count g2 (Ll out i) bp bq c7 (g::(Z.own r5++aa)) c9 W.live c8 (by rw[jA];exact b9) u (by rw[hu];exact dz i b9) oM (by rw[f3];exact Bp de dc dd)
    rw[eo] at et;repeat(refine sA ?_;intros)
    refine cL et ?_;rintro _ _ ⟨eu,ew,ey,W6,ez,e0,e,rfl,rfl,e7,bh,ds,f5⟩;try dsimp only[AA,AB]
    have db:=am.trans bh;rcases f5 with⟨rfl,f9,e8,ga⟩|⟨rfl,gb,gc⟩
    ·repeat(refine sA ?_;intros)
     refine Dn.round ⟨i+1,eu,ew,ey,bz,b2,ez,e0,W6,r5⟩ ⟨b9,e7,db.weak oD oM,A7 c6 en,f9,hZ.stay _ _ _ _ dr bh.size ds (fun e he=>e8.mem he) bh.fault,b4.move bh.size,by rw[uZ,←hu];exact ga,e8,dq.trans ds⟩ oD
    ·have hD:=Sq bw bd ba bs W6 eu ew ey e7 aj first (Ac W.δ.size width f.count) width f.count g2 (g::(Z.own r5++aa)) W.live ez e0 gc
     repeat(refine sA ?_;intros)
     refine Go.SL.Lv.call (hc:=hD) (h:=?_);rintro _ _ ⟨ab,au,ac,W7,dt,du,rfl,av,ad,an,aw,ao⟩;try dsimp only[AA,AB]
     have ax:=Uk bw bd ba bs W7 ab au ac av bx f ts g (Z.own r5++aa) bz b2 (.inl ⟨aw,i+1,b4.move (bh.trans ad).size⟩);refine Go.SL.Lv.call (hc:=ax) (h:=?_);rintro _ _ ⟨ah,α8,dw,rfl,ay,ai,az⟩;try dsimp only[AA,AB]
     (refine lN [Ab bw bd ba bs,ab,ah,ac,Z.C r5] ?_;exact bi {W7 with α:=α8} ab ah ac r5 _ ay ((db.trans (ad.trans ai)).weak (k':=f.blocks+f.count+1+P) oM oM) (AI _) (fun x hx=>by show W7.δ.disk x=_;rw[an];exact(dq.trans ds) x hx) az (hZ.stayE _ _ _ (hZ.fin _ _ _ dr) ((bh.trans ad).trans ai).size) (Nu am gb) ao)
   ·have ep:=hP W5 r5 da;have hD:=Sq bw bd ba bs W5 ej ek bf el aj first (Ac W.δ.size width f.count) width f.count g2 (g::(Z.own r5++aa)) W.live bp bq (.inl ⟨c9,c8,_,c7⟩)
    repeat(refine sA ?_;intros)
    refine Go.SL.Lv.call (hc:=hD) (h:=?_);rintro _ _ ⟨ab,au,ac,W7,dt,du,rfl,av,ad,an,aw,ao⟩;try dsimp only[AA,AB]
    have ax:=Uk bw bd ba bs W7 ab au ac av bx f ts g (Z.own r5++aa) bz b2 (.inl ⟨aw,i+1,b4.move ad.size⟩);refine Go.SL.Lv.call (hc:=ax) (h:=?_);rintro _ _ ⟨ah,α8,dw,rfl,ay,ai,az⟩;try dsimp only[AA,AB]
    (refine lN [Ab bw bd ba bs,ab,ah,ac,Z.C r5] ?_;exact bi {W7 with α:=α8} ab ah ac r5 _ ay ((am.trans (ad.trans ai)).weak (k':=f.blocks+f.count+1+P) oM oM) (AI _) (fun x hx=>by show W7.δ.disk x=_;rw[an];exact dq x hx) az (hZ.stayE _ _ _ da (ad.trans ai).size) (Nu ag f4) ao)
  ·have ag:=al.trans ae;have gd:W3.δ.fault≠-1:=oM;have hD:=Sq bw bd ba bs W4 cg ci bf cj aj first (Ac W.δ.size width f.count) width f.count g2 (Z.own r3++aa) W.live bp bq (.inl ⟨dk,by rw[aq];exact bg,_,a9.move ae.size (fun x _ _=>by rw[b3])⟩)
   repeat(refine sA ?_;intros)
   refine Go.SL.Lv.call (hc:=hD) (h:=?_);rintro _ _ ⟨ab,au,ac,W7,dt,du,rfl,av,ad,an,aw,ao⟩;try dsimp only[AA,AB]
   have ax:=Uk bw bd ba bs W7 ab au ac av bx f ts g (Z.own r3++aa) bz b2 (.inr ⟨aw,dl⟩);refine Go.SL.Lv.call (hc:=ax) (h:=?_);rintro _ _ ⟨ah,α8,dw,rfl,ay,ai,az⟩;try dsimp only[AA,AB]
   (refine lN [Ab bw bd ba bs,ab,ah,ac,Z.C r3] ?_;exact bi {W7 with α:=α8} ab ah ac r3 _ ay ((ag.trans (ad.trans ai)).weak (k':=f.blocks+f.count+1+P) oM oM) (AI _) (fun x hx=>by show W7.δ.disk x=_;rw[an,b3];exact bv x hx) az (hZ.stayE _ _ _ (hZ.fin _ _ _ bu) ((ae.trans ad).trans ai).size) (Nu al gd) ao)
 ·obtain rfl:i=f.count:=by omega
  have e9:=Sb bw bx W3 f ts g dg dh a0;rw[hz] at e9;have ge:=iZ bw bd ba bs W3 ea eb bf di aj first (Ac W.δ.size width f.count) width f.count g2 _ bp bq a9 (g::(Z.own r3++aa)) b7 W.live bg oM (by rw[bc];exact Bp de dc dd)
  repeat(refine sA ?_;intros)
  refine R.callVP (fs:=[pv bx]) (vs:=[]) (hf:=inferInstance) (hct:=e9) (h:=?_);repeat(refine sA ?_;intros)
  refine cL ge ?_;rintro _ _ ⟨cg,ci,gf,W4,gg,gh,f',e,rfl,rfl,cj,ae,dm,dk,dl,gi⟩;try dsimp only[AA,AB]
  have gj:flv f'= .agg #[Z9 Z8 f'.first,Z9 Z8 f'.blocks,Z9 Z8 f'.width,Z9 Z8 f'.count]:=rfl;rw[gj];have hD:=Sq bw bd ba bs W4 cg ci gf cj aj first (Ac W.δ.size width f.count) width f.count g2 (g::(Z.own r3++aa)) W4.live gg gh (.inr ⟨dk,.refl _,dl⟩)
  repeat(refine sA ?_;intros)
  refine Go.SL.Lv.call (hc:=hD) (h:=?_);rintro _ _ ⟨ab,au,ac,W7,dt,du,rfl,av,ad,an,aw,ao⟩;try dsimp only[AA,AB]
  have ax:=Uk bw bd ba bs W7 ab au ac av bx f ts g (Z.own r3++aa) dg dh (.inl ⟨aw,f.count,a0.move (ae.trans ad).size⟩);refine Go.SL.Lv.call (hc:=ax) (h:=?_);rintro _ _ ⟨ah,α8,dw,rfl,ay,ai,az⟩;try dsimp only[AA,AB]
  (refine lN [Ab bw bd ba bs,ab,ah,ac,Z.C r3] ?_;refine⟨ab,ah,ac,{W7 with α:=α8},r3,f',e,rfl,rfl,ay,((al.trans ae).trans (ad.trans ai)).weak oM oM,fun x hx=>by show W7.δ.disk x=_;rw[an];exact(bv.trans dm) x hx,az,hZ.stayE _ _ _ (hZ.fin _ _ _ bu) ((ae.trans ad).trans ai).size,?_⟩);rcases gi with⟨rfl,aq,gk,fa,fb⟩|⟨rfl,rfl,ei,aq⟩
  ·rw[jA] at fa;exact .inl ⟨rfl,ao.trans aq,gk,fa,by show Bg W7.δ.disk _ _ _ _;rw[an,←bc];exact fb⟩
  ·exact .inr ⟨rfl,rfl,Nu al ei,ao.trans aq⟩
def Dl (t:T5) (j:Nat) (x:Int):T5:=
 match j with
 |0=>{t with c0:=x}
 |1=>{t with c1:=x}
 |2=>{t with c2:=x}
 |3=>{t with c3:=x}
 |_=>{t with c4:=x}
theorem vB (t:T5) {j:Nat} (hj:j<5) (x:Int):(Ak t).set j (Z9 Z8 x)=Ak (Dl t j x):=by
 match j,hj with
 |0,_=>rfl
 |1,_=>rfl
 |2,_=>rfl
 |3,_=>rfl
 |4,_=>rfl
theorem vC (t:T5) {i:Nat} (h:i<5):(Ak t)[i]? =some (Z9 Z8 (t.col i)):=by
 match i,h with
 |0,_=>rfl
 |1,_=>rfl
 |2,_=>rfl
 |3,_=>rfl
 |4,_=>rfl
def lkV (bs:List T5) (k:Int) (v:Nat):Int:=
 match bs.find? fun t=>decide (t.c0=k) with
 |some t=>t.col v
 |none=> -1
def Bf (bs:List T5) (key value to:Nat) (t:T5):T5:=Dl t to (lkV bs (t.col key) value)
theorem Sr {bs:List T5} {k:Int} {v:Nat} (h:∀u∈bs,u.c0≠k):lkV bs k v= -1:=by unfold lkV;rw[D2.2 fun u hu=>by simp[h u hu]]
theorem Jj {bs:List T5} (hr:bs.Pairwise fun a c=>a.c0<c.c0) {k:Int} {v:Nat} {t:T5} (ht:t∈bs) (hk:t.c0=k):lkV bs k v=t.col v:=by
 unfold lkV;cases hf:bs.find? fun t=>decide (t.c0=k) with
 |none=>
  rw[D2] at hf;exact(hf t ht (by simp[hk])).elim
 |some u=>
  have h1:u.c0=k:=by simpa using List.find?_some hf
  have h2:=DD hf;obtain⟨i,hi,rfl⟩:=B0.1 ht;obtain⟨j,hj,rfl⟩:=B0.1 h2;rcases B5 i j with h3|h3|h3
  ·have:=BB.1 hr i j hi hj h3;omega
  ·subst h3;rfl
  ·have:=BB.1 hr j i hj hi h3;omega
structure LkS where
 pos:Nat
 ok:Bool
 begun:Bool
 t:T5
 last:Int
 any:Bool
 cx:Aa
 cb:Aa
 op:Bool
structure Gm (bs:List T5) (s:LkS) (k:Int):Prop where
 nb:s.begun=false→s.pos=0
 yes:s.begun=true→s.ok=true→∃p,s.pos=p+1∧bs[p]? =some s.t∧∀j u,j<p→bs[j]? =some u→u.c0<k
 no:s.begun=true→s.ok=false→s.pos=bs.length∧∀u∈bs,u.c0<k
theorem Gm.up {bs:List T5} {s:LkS} {k k':Int} (h:Gm bs s k) (hk:k≤k'):Gm bs s k' where
 nb:=h.nb
 yes a b:=by obtain⟨p,h1,h2,h3⟩:=h.yes a b;exact⟨p,h1,h2,fun j u hj hu=>by have:=h3 j u hj hu;omega⟩
 no a b:=⟨(h.no a b).1,fun u hu=>by have:=(h.no a b).2 u hu;omega⟩
theorem Gm.all {bs:List T5} {s:LkS} {k:Int} (h:Gm bs s k) (hc:s.begun=true→s.ok=true∧s.t.c0<k):∀j u,j<s.pos→bs[j]? =some u→u.c0<k:=by
 intro j u hj hu;cases hb:s.begun with
 |false=>have:=h.nb hb;omega
 |true=>
  obtain⟨h1,h2⟩:=hc hb;obtain⟨p,h3,h4,h5⟩:=h.yes hb h1;rcases Nat.lt_or_ge j p with h6|h6
  ·exact h5 j u h6 hu
  ·obtain rfl:j=p:=by omega
   rw[h4] at hu;rw[←BF hu];exact h2
def Jk (bl bx key value to:Nat) (s:LkS):Aa:=[(bl,row [.func (.func 97) #[pv bx] #[],Z9 Z8 s.t.c0,Z9 Z8 s.t.c1,Z9 Z8 s.t.c2,Z9 Z8 s.t.c3,Z9 Z8 s.t.c4,.bool s.ok,.bool s.begun,Z9 Z8 key,Z9 Z8 value,Z9 Z8 to,Z9 Z8 s.last,.bool s.any] 187)]
theorem vD (bw bd ba bs bl bx key value to:Nat) (W:Wk) (cd ca cs:Aa) (h:Wc bd ba bs W cd ca cs) (fb:Fl) (bts:List T5) (LvB:List Ext) (ay:Bg W.δ.disk W.δ.size LvB fb bts) (a0:∀e∈LvB,e∈W.live) (am:bts.Pairwise fun a c=>a.c0<c.c0) (g:Gr) (Gs:List Gr) (hg:W.α.gs.Perm (g::Gs)) (s:LkS) (ae:Df bw bx W fb bts g s.pos s.cx s.cb) (az:s.pos≤fb.count) (hs:s.begun=true→s.ok=true∧∃p,s.pos=p+1∧bts[p]? =some s.t) (a1:W.δ.acts≤1000000000000):Ct AC 213 [pv bl] [Jk bl bx key value to s,Ab bw bd ba bs,cd,ca,cs,s.cx,s.cb] fun v H'=> ∃cd' ca' W' s' e,v=Z9 Z8 e∧H'=[Jk bl bx key value to s',Ab bw bd ba bs,cd',ca',cs,s'.cx,s'.cb]∧Wc bd ba bs W' cd' ca' cs∧Ev W W' (Ac W.δ.size fb.width s'.pos-Ac W.δ.size fb.width s.pos) 0∧W'.δ.disk=W.δ.disk∧W'.σ=W.σ∧W'.live=W.live∧s'.last=s.last∧s'.any=s.any∧s'.begun=true∧((e=0∧W'.α.gs.Perm (g::Gs)∧Df bw bx W' fb bts g s'.pos s'.cx s'.cb∧((s.pos<fb.count∧s'.pos=s.pos+1∧s'.ok=true∧bts[s.pos]? =some s'.t)∨(s.pos=fb.count∧s'.pos=s.pos∧s'.ok=false)))∨ (e=6∧W.δ.fault≠-1∧W'.α.gs.Perm Gs∧Lg bx s'.cx∧s'.pos≤fb.count∧s.pos≤s'.pos)):=by
 have hz:tv T5.zero= .agg #[Z9 Z8 T5.zero.c0,Z9 Z8 T5.zero.c1,Z9 Z8 T5.zero.c2,Z9 Z8 T5.zero.c3,Z9 Z8 T5.zero.c4]:=rfl;have a6:=ay.len;obtain⟨pos,ok,begun,t,last,any,cx,cb,op⟩:=s;unfold Jk;dsimp only at ae az hs⊢;by_cases al:pos<fb.count
 ·have an:bts[pos]? =some bts[pos]:=AG oM;have ao:=Qg bw bd ba bs W cd ca cs h bx fb bts LvB ay a0 g Gs hg pos cx cb ae _ an a1;have a2:tv bts[pos]= .agg #[Z9 Z8 (bts[pos]).c0,Z9 Z8 (bts[pos]).c1,Z9 Z8 (bts[pos]).c2,Z9 Z8 (bts[pos]).c3,Z9 Z8 (bts[pos]).c4]:=rfl;rw[a2,hz] at ao;have a3:begun=true→¬(bts[pos]).c0≤t.c0:=fun hb=>by obtain⟨_,p,h1,h2⟩:=hs hb;obtain⟨hp,h3⟩:=AK.1 h2;have:=BB.1 am p pos hp oM oM;rw[h3] at this;omega
  generalize hu:bts[pos]=u at*;cases begun with
  |false=>
   refine cG func213 fun _=>?_;repeat(refine sv ?_;intros)
   refine R.callV (fs:=[pv bx]) (vs:=[]) (hf:=inferInstance) (hct:=ao) (h:=?_);rintro _ _ ⟨aa,ab,W4,ac,ad,rfl,ag,ah,ai,aj,ak,⟨rfl,aq,au⟩|⟨rfl,a4,a5,av,aw⟩⟩<;>dsimp only[AA,AB]
   ·repeat(refine sv ?_;intros)
    (refine dP [[(bl,row [.func (.func 97) #[pv bx] #[],Z9 Z8 u.c0,Z9 Z8 u.c1,Z9 Z8 u.c2,Z9 Z8 u.c3,Z9 Z8 u.c4,.bool true,.bool true,Z9 Z8 key,Z9 Z8 value,Z9 Z8 to,Z9 Z8 last,.bool any] 187)],Ab bw bd ba bs,aa,ab,cs,ac,ad] ?_;exact⟨aa,ab,W4,⟨pos+1,true,true,u,last,any,ac,ad,op⟩,0,rfl,rfl,ag,ah,ai,aj,ak,rfl,rfl,rfl,.inl ⟨rfl,by rw[aq];exact hg,au,.inl ⟨al,rfl,rfl,an⟩⟩⟩)
   ·repeat(refine sv ?_;intros)
    (refine dP [[(bl,row [.func (.func 97) #[pv bx] #[],Z9 Z8 T5.zero.c0,Z9 Z8 T5.zero.c1,Z9 Z8 T5.zero.c2,Z9 Z8 T5.zero.c3,Z9 Z8 T5.zero.c4,.bool false,.bool true,Z9 Z8 key,Z9 Z8 value,Z9 Z8 to,Z9 Z8 last,.bool any] 187)],Ab bw bd ba bs,aa,ab,cs,ac,ad] ?_;exact⟨aa,ab,W4,⟨pos+1,false,true,T5.zero,last,any,ac,ad,op⟩,6,rfl,rfl,ag,ah,ai,aj,ak,rfl,rfl,rfl,.inr ⟨rfl,oM,av,aw,al,Nat.le_succ _⟩⟩)
  |true=>
   obtain⟨rfl,_⟩:=hs rfl;have a7:=a3 rfl;refine cG func213 fun _=>?_;repeat(refine sv ?_;intros)
   refine R.callV (fs:=[pv bx]) (vs:=[]) (hf:=inferInstance) (hct:=ao) (h:=?_);rintro _ _ ⟨aa,ab,W4,ac,ad,rfl,ag,ah,ai,aj,ak,⟨rfl,aq,au⟩|⟨rfl,a4,a5,av,aw⟩⟩<;>dsimp only[AA,AB]
   ·repeat(refine sv ?_;intros)
    (refine dP [[(bl,row [.func (.func 97) #[pv bx] #[],Z9 Z8 u.c0,Z9 Z8 u.c1,Z9 Z8 u.c2,Z9 Z8 u.c3,Z9 Z8 u.c4,.bool true,.bool true,Z9 Z8 key,Z9 Z8 value,Z9 Z8 to,Z9 Z8 last,.bool any] 187)],Ab bw bd ba bs,aa,ab,cs,ac,ad] ?_;exact⟨aa,ab,W4,⟨pos+1,true,true,u,last,any,ac,ad,op⟩,0,rfl,rfl,ag,ah,ai,aj,ak,rfl,rfl,rfl,.inl ⟨rfl,by rw[aq];exact hg,au,.inl ⟨al,rfl,rfl,an⟩⟩⟩)
   ·repeat(refine sv ?_;intros)
    (refine dP [[(bl,row [.func (.func 97) #[pv bx] #[],Z9 Z8 T5.zero.c0,Z9 Z8 T5.zero.c1,Z9 Z8 T5.zero.c2,Z9 Z8 T5.zero.c3,Z9 Z8 T5.zero.c4,.bool false,.bool true,Z9 Z8 key,Z9 Z8 value,Z9 Z8 to,Z9 Z8 last,.bool any] 187)],Ab bw bd ba bs,aa,ab,cs,ac,ad] ?_;exact⟨aa,ab,W4,⟨pos+1,false,true,T5.zero,last,any,ac,ad,op⟩,6,rfl,rfl,ag,ah,ai,aj,ak,rfl,rfl,rfl,.inr ⟨rfl,oM,av,aw,al,Nat.le_succ _⟩⟩)
 ·obtain rfl:pos=fb.count:=by omega
  have ax:=Sb bw bx W fb bts g cx cb ae;rw[hz] at ax;cases begun with
  |false=>
   refine cG func213 fun _=>?_;repeat(refine sv ?_;intros)
   refine R.callVP (fs:=[pv bx]) (vs:=[]) (hf:=inferInstance) (hct:=ax) (h:=?_);repeat(refine sv ?_;intros)
   (refine dP [[(bl,row [.func (.func 97) #[pv bx] #[],Z9 Z8 T5.zero.c0,Z9 Z8 T5.zero.c1,Z9 Z8 T5.zero.c2,Z9 Z8 T5.zero.c3,Z9 Z8 T5.zero.c4,.bool false,.bool true,Z9 Z8 key,Z9 Z8 value,Z9 Z8 to,Z9 Z8 last,.bool any] 187)],Ab bw bd ba bs,cd,ca,cs,cx,cb] ?_;exact⟨cd,ca,W,⟨fb.count,false,true,T5.zero,last,any,cx,cb,op⟩,0,rfl,rfl,h,(Ev.refl W).weak (AT _) (AI _),rfl,rfl,rfl,rfl,rfl,rfl,.inl ⟨rfl,hg,ae,.inr ⟨rfl,rfl,rfl⟩⟩⟩)
  |true=>
   obtain⟨rfl,_⟩:=hs rfl;refine cG func213 fun _=>?_;repeat(refine sv ?_;intros)
   refine R.callVP (fs:=[pv bx]) (vs:=[]) (hf:=inferInstance) (hct:=ax) (h:=?_);repeat(refine sv ?_;intros)
   (refine dP [[(bl,row [.func (.func 97) #[pv bx] #[],Z9 Z8 T5.zero.c0,Z9 Z8 T5.zero.c1,Z9 Z8 T5.zero.c2,Z9 Z8 T5.zero.c3,Z9 Z8 T5.zero.c4,.bool false,.bool true,Z9 Z8 key,Z9 Z8 value,Z9 Z8 to,Z9 Z8 last,.bool any] 187)],Ab bw bd ba bs,cd,ca,cs,cx,cb] ?_;exact⟨cd,ca,W,⟨fb.count,false,true,T5.zero,last,any,cx,cb,op⟩,0,rfl,rfl,h,(Ev.refl W).weak (AT _) (AI _),rfl,rfl,rfl,rfl,rfl,rfl,.inl ⟨rfl,hg,ae,.inr ⟨rfl,rfl,rfl⟩⟩⟩)
theorem Wx {c:List Value} (h:c.length=5):Bs [Z9 Z8 0,Z9 Z8 0,Z9 Z8 0,Z9 Z8 0,Z9 Z8 0] 0 c=c:=by rw[Ma _ _ _ (by simp[h]),h];simp
structure LkLX where
 cd:Aa
 ca:Aa
 W:Wk
 s:LkS
theorem Gm.more {bs:List T5} {s s':LkS} {k:Int} (h:Gm bs s k) (hc:s.begun=true→s.ok=true∧s.t.c0<k) (hb:s'.begun=true) (hm:(s'.pos=s.pos+1∧s'.ok=true∧bs[s.pos]? =some s'.t)∨(s.pos=bs.length∧s'.pos=s.pos∧s'.ok=false)):Gm bs s' k:=by
 have ha:=h.all hc;refine⟨fun h1=>(by rw[hb] at h1;cases h1),fun _ ho=>?_,fun _ ho=>?_⟩
 ·rcases hm with⟨h1,_,h3⟩|⟨_,_,h3⟩
  ·exact⟨s.pos,h1,h3,ha⟩
  ·rw[h3] at ho;cases ho
 ·rcases hm with⟨_,h2,_⟩|⟨h1,h2,_⟩
  ·rw[h2] at ho;cases ho
  ·refine⟨h2.trans h1,fun u hu=>?_⟩;obtain⟨j,hj,rfl⟩:=B0.1 hu;exact ha j _ oM (AG hj)
theorem Gm.hit {bs:List T5} {s:LkS} {k:Int} (h:Gm bs s k) (hr:bs.Pairwise fun a c=>a.c0<c.c0) (hb:s.begun=true) (ho:s.ok=true) (hk:s.t.c0=k) (v:Nat):lkV bs k v=s.t.col v:=by obtain⟨p,_,h2,_⟩:=h.yes hb ho;exact Jj hr (List.mem_of_getElem? h2) hk
theorem Gm.over {bs:List T5} {s:LkS} {k:Int} (h:Gm bs s k) (hr:bs.Pairwise fun a c=>a.c0<c.c0) (hb:s.begun=true) (ho:s.ok=true) (hk:k<s.t.c0) (v:Nat):lkV bs k v= -1:=by
 obtain⟨p,_,h2,h3⟩:=h.yes hb ho;obtain⟨hp,h4⟩:=AK.1 h2;refine Sr fun u hu=>?_;obtain⟨j,hj,rfl⟩:=B0.1 hu;rcases B5 j p with h5|h5|h5
 ·have:=h3 j _ h5 (AG hj);omega
 ·subst h5;rw[h4];omega
 ·have:=BB.1 hr p j hp hj h5;rw[h4] at this;omega
theorem Gm.out {bs:List T5} {s:LkS} {k:Int} (h:Gm bs s k) (hb:s.begun=true) (ho:s.ok=false) (v:Nat):lkV bs k v= -1:=
 Sr fun u hu=>by have:=(h.no hb ho).2 u hu;omega
theorem vE (bw bd ba bs bl bx key value to:Nat) (c6:key<5) (c7:value<5) (df:to<5) (W:Wk) (cd ca cs:Aa) (h:Wc bd ba bs W cd ca cs) (fb:Fl) (bts:List T5) (LvB:List Ext) (b6:Bg W.δ.disk W.δ.size LvB fb bts) (c9:∀e∈LvB,e∈W.live) (a1:bts.Pairwise fun a c=>a.c0<c.c0) (g:Gr) (Gs:List Gr) (hg:W.α.gs.Perm (g::Gs)) (s:LkS) (c8:Df bw bx W fb bts g s.pos s.cx s.cb) (b9:s.pos≤fb.count) (t:T5) (hs:Gm bts s (t.col key)) (b8:s.any=true→s.last≤t.col key) (d0:W.δ.acts≤100000000000) (d1:fb.count≤1000000):Ct AC 170 [pv bl,tv t] [Jk bl bx key value to s,Ab bw bd ba bs,cd,ca,cs,s.cx,s.cb] fun v H'=> ∃cd' ca' W' s' u k e,v= .tuple #[tv u,.bool k,Z9 Z8 e]∧H'=[Jk bl bx key value to s',Ab bw bd ba bs,cd',ca',cs,s'.cx,s'.cb]∧Wc bd ba bs W' cd' ca' cs∧Ev W W' (Ac W.δ.size fb.width s'.pos-Ac W.δ.size fb.width s.pos) 0∧W'.δ.disk=W.δ.disk∧W'.σ=W.σ∧W'.live=W.live∧s.pos≤s'.pos∧s'.pos≤fb.count∧((e=0∧k=true∧u=Bf bts key value to t∧W'.α.gs.Perm (g::Gs)∧Df bw bx W' fb bts g s'.pos s'.cx s'.cb∧Gm bts s' (t.col key)∧s'.any=true∧s'.last=t.col key)∨ (e=6∧W.δ.fault≠-1∧W'.α.gs.Perm Gs∧Lg bx s'.cx)):=by
 have dt:=b6.len;have d2:=En (n:=fb.count) (Bp h.dev.num.1.1 b6.w1 b6.w2);have dg:tv t= .agg #[Z9 Z8 t.c0,Z9 Z8 t.c1,Z9 Z8 t.c2,Z9 Z8 t.c3,Z9 Z8 t.c4]:=rfl;have dh:Ak t=[Z9 Z8 t.c0,Z9 Z8 t.c1,Z9 Z8 t.c2,Z9 Z8 t.c3,Z9 Z8 t.c4]:=rfl;have hq:=vC t c6;have cg:∀x,(Ak t).set to (Z9 Z8 x)=Ak (Dl t to x):=fun x=>vB t df x;have bh:∀u:T5,u=Dl t to (lkV bts (t.col key) value)→.agg (Ak (Dl t to (lkV bts (t.col key) value))).toArray=tv (Bf bts key value to t):=fun _ _=>rfl;have bh:=bh _ rfl;have cu: .agg (Ak t).toArray=tv t:=rfl;generalize hk:t.col key=k at*;rw[dg];rw[dh] at hq cg cu;generalize da:([Z9 Z8 t.c0,Z9 Z8 t.c1,Z9 Z8 t.c2,Z9 Z8 t.c3,Z9 Z8 t.c4]:List Value)=cc at*;have di:cc.length=5:=by rw[←da];rfl
 have du:(Value.agg cc.toArray).cells=cc.toArray:=rfl;have d3:(cc.drop 0).take 5=cc:=by rw[DL,A5 oM]
 have d4:cc.all Value.oneCell'=true:=by rw[←da];rfl
 have d5:=Wx di;obtain⟨pos,ok,begun,tb,last,any,cx,cb,op⟩:=s;unfold Jk;dsimp only at c8 b9 hs b8⊢;have dj:any=true→¬k<last:=fun h=>by have:=b8 h;omega
 have dk:Gm bts ⟨pos,ok,begun,tb,k,true,cx,cb,op⟩ k:=⟨hs.nb,hs.yes,hs.no⟩
 cases any
 case' true=>have dw:=dj rfl
 all_goals
  refine cG func170 fun _=>?_;repeat(refine sv ?_;intros)
  rename_i b3 b4;refine G.loop (X:=LkLX) (fun x=>Wc bd ba bs x.W x.cd x.ca cs∧Ev W x.W (Ac W.δ.size fb.width x.s.pos-Ac W.δ.size fb.width pos) 0∧x.W.δ.disk=W.δ.disk∧x.W.σ=W.σ∧x.W.live=W.live∧pos≤x.s.pos∧x.s.pos≤fb.count∧x.W.α.gs.Perm (g::Gs)∧Df bw bx x.W fb bts g x.s.pos x.s.cx x.s.cb∧Gm bts x.s k∧x.s.any=true∧x.s.last=k)
   (fun _=>[(7,Z9 Z8 k),(4,pv b4),(3,pv b3),(0,pv bl)])
   (fun x=>[[(b4,row [Z9 Z8 0,Z9 Z8 0,Z9 Z8 0,Z9 Z8 0,Z9 Z8 0] 33)],[(b3,row cc 33)],[(bl,row [.func (.func 97) #[pv bx] #[],Z9 Z8 x.s.t.c0,Z9 Z8 x.s.t.c1,Z9 Z8 x.s.t.c2,Z9 Z8 x.s.t.c3,Z9 Z8 x.s.t.c4,.bool x.s.ok,.bool x.s.begun,Z9 Z8 key,Z9 Z8 value,Z9 Z8 to,Z9 Z8 x.s.last,.bool x.s.any] 187)],Ab bw bd ba bs,x.cd,x.ca,cs,x.s.cx,x.s.cb])
   (fun x=>(fb.count-x.s.pos)+(if x.s.begun=true∧x.s.ok=false then 0 else 1)) ⟨cd,ca,W,⟨pos,ok,begun,tb,k,true,cx,cb,op⟩⟩
   ⟨h,(Ev.refl W).weak (AT _) (AI _),rfl,rfl,rfl,AI _,b9,hg,c8,dk,rfl,rfl⟩ (body:=?_)
  rintro⟨an,ao,W2,⟨pos2,ok2,ai,ab,aa,dx,aq,au,b7⟩⟩ ⟨bi,al,bf,bk,bg,av,ah,bp,aw,am,db,ci⟩;dsimp only at bi al bf bk bg av ah bp aw am db ci⊢;subst db ci;have dy:=al.acts.2;have d6:Ac W.δ.size fb.width pos≤Ac W.δ.size fb.width pos2:=Dd av;have d7:Ac W.δ.size fb.width pos2≤Ac W.δ.size fb.width fb.count:=Dd ah;have dc:(ai=true→ok2=true∧ab.c0<aa)→Ct AC 213 [pv bl] [[(bl,row [.func (.func 97) #[pv bx] #[],Z9 Z8 ab.c0,Z9 Z8 ab.c1,Z9 Z8 ab.c2,Z9 Z8 ab.c3,Z9 Z8 ab.c4,.bool ok2,.bool ai,Z9 Z8 key,Z9 Z8 value,Z9 Z8 to,Z9 Z8 aa,.bool true] 187)],Ab bw bd ba bs,an,ao,cs,aq,au] fun v H'=>
    ∃cd' ca' W' s' e,v=Z9 Z8 e∧H'=[[(bl,row [.func (.func 97) #[pv bx] #[],Z9 Z8 s'.t.c0,Z9 Z8 s'.t.c1,Z9 Z8 s'.t.c2,Z9 Z8 s'.t.c3,Z9 Z8 s'.t.c4,.bool s'.ok,.bool s'.begun,Z9 Z8 key,Z9 Z8 value,Z9 Z8 to,Z9 Z8 s'.last,.bool s'.any] 187)],Ab bw bd ba bs,cd',ca',cs,s'.cx,s'.cb]∧Wc bd ba bs W' cd' ca' cs∧Ev W W' (Ac W.δ.size fb.width s'.pos-Ac W.δ.size fb.width pos) 0∧W'.δ.disk=W.δ.disk∧W'.σ=W.σ∧W'.live=W.live∧
     s'.last=aa∧s'.any=true∧s'.begun=true∧pos≤s'.pos∧s'.pos≤fb.count∧
     ((e=0∧W'.α.gs.Perm (g::Gs)∧Df bw bx W' fb bts g s'.pos s'.cx s'.cb∧Gm bts s' aa∧(fb.count-s'.pos)+(if s'.begun=true∧s'.ok=false then 0 else 1)<(fb.count-pos2)+1)∨
      (e=6∧W.δ.fault≠-1∧W'.α.gs.Perm Gs∧Lg bx s'.cx)):=by
   intro hc;have hM:=vD bw bd ba bs bl bx key value to W2 an ao cs bi fb bts LvB (by rw[bf,al.size];exact b6) (fun e he=>by rw[bg];exact c9 e he) a1 g Gs bp ⟨pos2,ok2,ai,ab,aa,true,aq,au,b7⟩ aw ah (fun hb=>by
    obtain⟨h1,_⟩:=hc hb;obtain⟨p,h2,h3,_⟩:=am.yes hb h1;exact⟨h1,p,h2,h3⟩) oM
   refine hM.mono ?_;rintro v H' ⟨cd',ca',W',s',e,rfl,rfl,dl,cw,dm,dp,dq,e1,e2,e3,cz⟩;rw[al.size] at cw;dsimp only at cw e1 e2 cz;have dd:pos2≤s'.pos∧s'.pos≤fb.count:=by
    rcases cz with⟨_,_,_,⟨h1,h2,_⟩|⟨h1,h2,_⟩⟩|⟨_,_,_,_,h5,h6⟩
    ·omega
    ·omega
    ·exact⟨h6,h5⟩
   have d8:Ac W.δ.size fb.width pos2≤Ac W.δ.size fb.width s'.pos:=Dd dd.1;refine⟨cd',ca',W',s',e,rfl,rfl,dl,(al.trans cw).weak oM (AI _),dm.trans bf,dp.trans bk,dq.trans bg,e1,e2,e3,oM,dd.2,?_⟩;rcases cz with⟨rfl,g1,g2,g3⟩|⟨rfl,f1,f2,f3,_⟩
   ·refine .inl ⟨rfl,g1,g2,am.more hc e3 (by
     rcases g3 with⟨_,q1,q2,q3⟩|⟨q0,q1,q2⟩
     ·exact .inl ⟨q1,q2,q3⟩
     ·exact .inr ⟨oD,q1,q2⟩),?_⟩
    rcases g3 with⟨q0,q1,q2,q3⟩|⟨q0,q1,q2⟩
    ·split<;>omega
    ·rw[if_pos ⟨e3,q2⟩];omega
   ·exact .inr ⟨rfl,Nu al f1,f2,f3⟩
  have bq:∀x:Int,lkV bts aa value=x→cc.set to (Z9 Z8 x)=Ak (Dl t to (lkV bts aa value)):=fun x hx=>by rw[cg,hx]
  cases ai with
  |false=>
   have hM:=dc (fun h=>by cases h);have c5:(if(false:Bool)=true∧ok2=false then 0 else 1)=1:=if_neg oA19;repeat(refine sv ?_;intros)
   refine cL hM ?_;rintro _ _ ⟨a2,a3,W3,⟨ax,a4,ac,ad,ae,aj,a5,a6,bu⟩,e,rfl,rfl,a7,a8,a9,bc,be,ay,az,bv,ak,ag,bz⟩;try dsimp only[AA,AB]
   dsimp only at a7 a8 a9 bc be ay az bv ak ag bz⊢;rcases bz with⟨rfl,g1,g2,g3,g4⟩|⟨rfl,f1,f2,f3⟩
   ·repeat(refine sv ?_;intros)
    refine Dn.round ⟨a2,a3,W3,⟨ax,a4,ac,ad,ae,aj,a5,a6,bu⟩⟩ ⟨a7,a8,a9,bc,be,ak,ag,g1,g2,g3,az,ay⟩ (by dsimp only;rw[c5];exact g4)
   ·repeat(refine sv ?_;intros)
    (refine dP [[(bl,row [.func (.func 97) #[pv bx] #[],Z9 Z8 ad.c0,Z9 Z8 ad.c1,Z9 Z8 ad.c2,Z9 Z8 ad.c3,Z9 Z8 ad.c4,.bool a4,.bool ac,Z9 Z8 key,Z9 Z8 value,Z9 Z8 to,Z9 Z8 ae,.bool aj] 187)],Ab bw bd ba bs,a2,a3,cs,a5,a6] ?_;exact⟨a2,a3,W3,⟨ax,a4,ac,ad,ae,aj,a5,a6,bu⟩,t,false,6,by rw[←cu];rfl,rfl,a7,a8,a9,bc,be,ak,ag,.inr ⟨rfl,f1,f2,f3⟩⟩)
  |true=>
   cases ok2 with
   |false=>
    have hv:=am.out rfl rfl value;have b2:=bq _ hv;have a0:=bh;have b5:(Ak (Dl t to (lkV bts aa value))).length=5:=rfl;have de:(Ak (Dl t to (lkV bts aa value))).all Value.oneCell'=true:=rfl;generalize Ak (Dl t to (lkV bts aa value))=c2 at*;have cj:(c2.drop 0).take 5=c2:=by rw[DL,A5 oM]
    have cm:=Wx b5;repeat(refine sv ?_;intros)
    (refine dP [[(bl,row [.func (.func 97) #[pv bx] #[],Z9 Z8 ab.c0,Z9 Z8 ab.c1,Z9 Z8 ab.c2,Z9 Z8 ab.c3,Z9 Z8 ab.c4,.bool false,.bool true,Z9 Z8 key,Z9 Z8 value,Z9 Z8 to,Z9 Z8 aa,.bool true] 187)],Ab bw bd ba bs,an,ao,cs,aq,au] ?_;exact⟨an,ao,W2,⟨pos2,false,true,ab,aa,true,aq,au,b7⟩,Bf bts key value to t,true,0,by rw[←a0];rfl,rfl,bi,al,bf,bk,bg,av,ah,.inl ⟨rfl,rfl,rfl,bp,aw,am,rfl,rfl⟩⟩)
   |true=>
    by_cases dr:ab.c0<aa
    ·have hM:=dc (fun _=>⟨rfl,dr⟩);have c5:(if(true:Bool)=true∧(true:Bool)=false then 0 else 1)=1:=if_neg oA19;repeat(refine sv ?_;intros)
     refine cL hM ?_;rintro _ _ ⟨a2,a3,W3,⟨ax,a4,ac,ad,ae,aj,a5,a6,bu⟩,e,rfl,rfl,a7,a8,a9,bc,be,ay,az,bv,ak,ag,bz⟩;try dsimp only[AA,AB]
     dsimp only at a7 a8 a9 bc be ay az bv ak ag bz⊢;rcases bz with⟨rfl,g1,g2,g3,g4⟩|⟨rfl,f1,f2,f3⟩
     ·repeat(refine sv ?_;intros)
      refine Dn.round ⟨a2,a3,W3,⟨ax,a4,ac,ad,ae,aj,a5,a6,bu⟩⟩ ⟨a7,a8,a9,bc,be,ak,ag,g1,g2,g3,az,ay⟩ (by dsimp only;rw[c5];exact g4)
     ·repeat(refine sv ?_;intros)
      (refine dP [[(bl,row [.func (.func 97) #[pv bx] #[],Z9 Z8 ad.c0,Z9 Z8 ad.c1,Z9 Z8 ad.c2,Z9 Z8 ad.c3,Z9 Z8 ad.c4,.bool a4,.bool ac,Z9 Z8 key,Z9 Z8 value,Z9 Z8 to,Z9 Z8 ae,.bool aj] 187)],Ab bw bd ba bs,a2,a3,cs,a5,a6] ?_;exact⟨a2,a3,W3,⟨ax,a4,ac,ad,ae,aj,a5,a6,bu⟩,t,false,6,by rw[←cu];rfl,rfl,a7,a8,a9,bc,be,ak,ag,.inr ⟨rfl,f1,f2,f3⟩⟩)
    ·by_cases ds:ab.c0=aa
     ·have hv:=am.hit a1 rfl rfl ds value;dsimp only at hv;have b2:=bq _ hv;have a0:=bh;have dz:([.func (.func 97) #[pv bx] #[],Z9 Z8 ab.c0,Z9 Z8 ab.c1,Z9 Z8 ab.c2,Z9 Z8 ab.c3,Z9 Z8 ab.c4,.bool true,.bool true,Z9 Z8 key,Z9 Z8 value,Z9 Z8 to,Z9 Z8 aa,.bool true]:List Value)[1+value]? =some (Z9 Z8 (ab.col value)):=by
       match value,c7 with
       |0,_=>rfl
       |1,_=>rfl
       |2,_=>rfl
       |3,_=>rfl
       |4,_=>rfl
      have b5:(Ak (Dl t to (lkV bts aa value))).length=5:=rfl;have de:(Ak (Dl t to (lkV bts aa value))).all Value.oneCell'=true:=rfl;generalize Ak (Dl t to (lkV bts aa value))=c2 at*;have cj:(c2.drop 0).take 5=c2:=by rw[DL,A5 oM]
      have cm:=Wx b5;generalize ab.col value=y at*;repeat(refine sv ?_;intros)
      (refine dP [[(bl,row [.func (.func 97) #[pv bx] #[],Z9 Z8 ab.c0,Z9 Z8 ab.c1,Z9 Z8 ab.c2,Z9 Z8 ab.c3,Z9 Z8 ab.c4,.bool true,.bool true,Z9 Z8 key,Z9 Z8 value,Z9 Z8 to,Z9 Z8 aa,.bool true] 187)],Ab bw bd ba bs,an,ao,cs,aq,au] ?_;exact⟨an,ao,W2,⟨pos2,true,true,ab,aa,true,aq,au,b7⟩,Bf bts key value to t,true,0,by rw[←a0];rfl,rfl,bi,al,bf,bk,bg,av,ah,.inl ⟨rfl,rfl,rfl,bp,aw,am,rfl,rfl⟩⟩)
     ·have hv:=am.over a1 rfl rfl oD value;have b2:=bq _ hv;have a0:=bh;have b5:(Ak (Dl t to (lkV bts aa value))).length=5:=rfl;have de:(Ak (Dl t to (lkV bts aa value))).all Value.oneCell'=true:=rfl;generalize Ak (Dl t to (lkV bts aa value))=c2 at*;have cj:(c2.drop 0).take 5=c2:=by rw[DL,A5 oM]
      have cm:=Wx b5;repeat(refine sv ?_;intros)
      (refine dP [[(bl,row [.func (.func 97) #[pv bx] #[],Z9 Z8 ab.c0,Z9 Z8 ab.c1,Z9 Z8 ab.c2,Z9 Z8 ab.c3,Z9 Z8 ab.c4,.bool true,.bool true,Z9 Z8 key,Z9 Z8 value,Z9 Z8 to,Z9 Z8 aa,.bool true] 187)],Ab bw bd ba bs,an,ao,cs,aq,au] ?_;exact⟨an,ao,W2,⟨pos2,true,true,ab,aa,true,aq,au,b7⟩,Bf bts key value to t,true,0,by rw[←a0];rfl,rfl,bi,al,bf,bk,bg,av,ah,.inl ⟨rfl,rfl,rfl,bp,aw,am,rfl,rfl⟩⟩)
theorem jC (f:Fl) (k:Nat) (hk:k<f.width) (h5:f.width≤5):CtQ AC 167 [flv f,Z9 Z8 k] [] (.bool true):=by
 have aa:flv f= .agg #[Z9 Z8 f.first,Z9 Z8 f.blocks,Z9 Z8 f.width,Z9 Z8 f.count]:=rfl;rw[aa];refine cG func167 fun _=>?_;repeat(refine sA ?_;intros)
 (refine dP [] ?_;exact⟨congrArg Value.bool (Fj oM),rfl⟩)
theorem can_ct (bw bd ba bs:Nat) (δ:Dv) (cd:Aa) (h:Dz bd δ cd) (f:Fl) (h1:1≤f.width) (h5:f.width≤5) (hb:f.blocks=Ac δ.size f.width f.count) (hc:f.count≤100000000):CtQ AC 168 [pv bw,flv f] [Ab bw bd ba bs,cd] (.bool true):=by
 have aa:flv f= .agg #[Z9 Z8 f.first,Z9 Z8 f.blocks,Z9 Z8 f.width,Z9 Z8 f.count]:=rfl;rw[aa];have hH:=Qd bw bd ba bs δ cd h f.width h1 h5;have hp:=Bp h.num.1.1 h1 h5;have hh:Ad δ.size f.width≤δ.size:=A7 (Nat.div_le_self _ _) oM;have hs:=h.num.1.2;have e1:AL .i64 ((f.count:Int)+(Ad δ.size f.width:Int))=((f.count+Ad δ.size f.width:Nat):Int):=Ah oM;have e2:AL .i64 (((f.count+Ad δ.size f.width:Nat):Int)-1)=((f.count+Ad δ.size f.width-1:Nat):Int):=by rw[Ah oM];omega
 have e3:((f.count+Ad δ.size f.width-1:Nat):Int).tdiv (Ad δ.size f.width:Int)=(f.blocks:Int):=by rw[Int.tdiv_eq_ediv_of_nonneg oM,hb];rfl
 have e4:AL .i64 (((f.count+Ad δ.size f.width-1:Nat):Int).tdiv (Ad δ.size f.width:Int))=(f.blocks:Int):=by
  rw[e3,Ah];have:f.blocks≤f.count:=by rw[hb];exact En hp
  omega
 generalize Ad δ.size f.width=hd at*;refine cG func168 fun _=>?_;repeat(refine sA ?_;intros)
 (refine dP [Ab bw bd ba bs,cd] ?_;exact⟨congrArg Value.bool (Fj rfl),rfl⟩)
def lkZ (bw bl bx key value to:Nat) (ats:List T5) (fb:Fl) (bts:List T5) (LvB:List Ext) (size:Nat) (g:Gr):Mkr LkS where
 own s:=if s.op then[g] else[]
 C s:=[Jk bl bx key value to s,s.cx,s.cb].flatten
 J W s i:=W.δ.size=size∧s.op=true∧Df bw bx W fb bts g s.pos s.cx s.cb∧s.pos≤fb.count∧Bg W.δ.disk size LvB fb bts∧(∀e∈LvB,e∈W.live)∧
  ∀k:Int,(∀j t,j<i→ats[j]? =some t→t.col key≤k)→Gm bts s k∧(s.any=true→s.last≤k)
 E W s:=s.pos≤fb.count∧((s.op=true∧Df bw bx W fb bts g s.pos s.cx s.cb)∨(s.op=false∧Lg bx s.cx))
 pot s:=Ac size fb.width s.pos
theorem lkZ_ok (bw bl bx key value to:Nat) (ats:List T5) (fb:Fl) (bts:List T5) (LvB:List Ext) (size:Nat) (g:Gr) (Lv:List Ext) (hs:∀e∈LvB,e∈Lv):(lkZ bw bl bx key value to ats fb bts LvB size g).Ok Lv where
 stay:=by rintro W W' s i ⟨h1,h2,h3,h4,h5,h6,h7⟩ hz hK hl _;exact⟨hz.trans h1,h2,h3.move hz,h4,h5.keep fun x ⟨e,he,h8⟩=>hK x ⟨e,hs e he,h8⟩,fun e he=>hl e (hs e he),h7⟩
 fin:=by rintro W s i ⟨h1,h2,h3,h4,_⟩;exact⟨h4,.inl ⟨h2,h3⟩⟩
 stayE:=by rintro W W' s ⟨h1,h2⟩ hz;refine⟨h1,h2.imp (fun ⟨a,b⟩=>⟨a,b.move hz⟩) id⟩
theorem vF (bw bd ba bs bl bx key value to:Nat) (am:key<5) (an:value<5) (aw:to<5) (ats:List T5) (ag:ats.Pairwise fun a c=>a.col key≤c.col key) (fb:Fl) (bts:List T5) (LvB:List Ext) (size room:Nat) (g:Gr) (ae:bts.Pairwise fun a c=>a.c0<c.c0) (ax:fb.count≤1000000):MkrCt bw bd ba bs (lkZ bw bl bx key value to ats fb bts LvB size g) size room ats (fun i=>Bf bts key value to (at5 ats i)) 170 [pv bl] []:=by
 rintro ad W cd ca cs s i t hW hg a5 ay ⟨h1,h2,h3,h4,h5,h6,h7⟩ ht az;subst ay;have hi:=(AK.1 ht).1;have a0:at5 ats i=t:=by unfold at5;simp[AM,ht]
 obtain⟨hk,ao⟩:=h7 (t.col key) fun j u hj hu=>by obtain⟨a1,rfl⟩:=AK.1 hu;obtain⟨_,rfl⟩:=AK.1 ht;exact BB.1 ag j i a1 hi hj
 have a2:W.α.gs.Perm (g::ad):=by simpa[lkZ,h2] using hg
 have hC:=vE bw bd ba bs bl bx key value to am an aw W cd ca cs hW fb bts LvB h5 h6 ae g ad a2 s h3 h4 t hk ao az ax;refine Ct.convP hC (by unfold lkZ;refine Bz fun z=>?_;simp only[AW,A4,AP,A3,A8];omega) ?_;rintro v H' ⟨ab,ac,W',s',u,k,e,rfl,rfl,aq,ah,ai,au,aj,a3,av,hc⟩;have hm:Ac W.δ.size fb.width s.pos≤Ac W.δ.size fb.width s'.pos:=Dd a3;rcases hc with⟨rfl,rfl,rfl,ak,a4,al,a6,a7⟩|⟨rfl,hf,ak,hx⟩
 ·refine⟨[Ab bw bd ba bs,ab,ac,cs,(lkZ bw bl bx key value to ats fb bts LvB W.δ.size g).C {s' with op:=true}],⟨ab,ac,W',{s' with op:=true},_,true,0,rfl,rfl,aq,ah,ai,au,aj,hm,by simpa[lkZ] using ak,.inl ⟨rfl,rfl,by dsimp only;rw[a0],?_⟩⟩,?_⟩
  ·refine⟨ah.size,rfl,a4,av,by rw[ai];exact h5,by rw[aj];exact h6,fun k hk=>?_⟩;have h8:=hk i t (Nat.lt_succ_self i) ht;exact⟨⟨(al.up h8).nb,(al.up h8).yes,(al.up h8).no⟩,fun _=>by show s'.last≤k;omega⟩
  ·have aa:Jk bl bx key value to {s' with op:=true}=Jk bl bx key value to s':=rfl;refine Bz fun z=>?_;simp only[lkZ,aa,AW,A4,AP,A8];omega
 ·refine⟨[Ab bw bd ba bs,ab,ac,cs,(lkZ bw bl bx key value to ats fb bts LvB W.δ.size g).C {s' with op:=false}],⟨ab,ac,W',{s' with op:=false},u,k,6,rfl,rfl,aq,ah,ai,au,aj,hm,by simpa[lkZ] using ak,.inr ⟨rfl,hf,av,.inr ⟨rfl,hx⟩⟩⟩,?_⟩;have aa:Jk bl bx key value to {s' with op:=false}=Jk bl bx key value to s':=rfl;refine Bz fun z=>?_;simp only[lkZ,aa,AW,A4,AP,A8];omega
theorem max_wd {a b:Nat}:max (a:Int) (((b+1:Nat):Int))=((max a (b+1):Nat):Int):=by omega
theorem lkV_in {bts:List T5} {w:Nat} (h:∀t∈bts,okT w t) (k:Int) (v:Nat):Bd (lkV bts k v):=by
 unfold lkV;split
 ·rename_i t ht;have h1:=Dx (h t (DD ht))
  match v with
  |0=>exact h1.1
  |1=>exact h1.2.1
  |2=>exact h1.2.2.1
  |3=>exact h1.2.2.2.1
  |4=>exact h1.2.2.2.2
  |n+5=>exact He
 ·exact Om
theorem Mj {bts:List T5} {w wa:Nat} (h:∀t∈bts,okT w t) (key value to:Nat) (aa:to<5) {t:T5} (ht:okT wa t):okT (max wa (to+1)) (Bf bts key value to t):=by
 obtain⟨a0,a1,a2,a3,a4⟩:=Dx ht;have hv:=lkV_in h (t.col key) value;unfold Bf;generalize lkV bts (t.col key) value=x at*
 match to,aa with
 |0,_=>exact Nc hv a1 a2 a3 a4 oM (fun h=>ht.2 1 oM) (fun h=>ht.2 2 oM) (fun h=>ht.2 3 oM) (fun h=>ht.2 4 oM)
 |1,_=>exact Nc a0 hv a2 a3 a4 oM oM (fun h=>ht.2 2 oM) (fun h=>ht.2 3 oM) (fun h=>ht.2 4 oM)
 |2,_=>exact Nc a0 a1 hv a3 a4 oM oM oM (fun h=>ht.2 3 oM) (fun h=>ht.2 4 oM)
 |3,_=>exact Nc a0 a1 a2 hv a4 oM oM oM oM (fun h=>ht.2 4 oM)
 |4,_=>exact Nc a0 a1 a2 a3 hv oM oM oM oM oM
theorem vG (bw bd ba bs key value to:Nat) (W:Wk) (cd ca cs:Aa) (h:Wc bd ba bs W cd ca cs) (fa:Fl) (ats:List T5) (LvA:List Ext) (aa:Bg W.δ.disk W.δ.size LvA fa ats) (be:∀e∈LvA,e∈W.live) (fb:Fl) (bts:List T5) (LvB:List Ext) (ab:Bg W.δ.disk W.δ.size LvB fb bts) (am:∀e∈LvB,e∈W.live) (ao:key<fa.width) (aq:value<fb.width) (an:to<5) (ai:ats.Pairwise fun a c=>a.col key≤c.col key) (aj:bts.Pairwise fun a c=>a.c0<c.c0) (hr:3*W.δ.size≤W.α.room-W.α.used) (au:Ac W.δ.size (max fa.width (to+1)) fa.count≤big W.σ.free) (bf:W.δ.acts≤1000000000) (a9:fa.count≤1000000) (bc:fb.count≤1000000):Ct AC 112 [pv bw,flv fa,Z9 Z8 key,flv fb,Z9 Z8 value,Z9 Z8 to] [Ab bw bd ba bs,cd,ca,cs] fun v H'=> ∃cd' ca' cs' W' f' e,v= .tuple #[flv f',Z9 Z8 e]∧H'=[Ab bw bd ba bs,cd',ca',cs']∧Wc bd ba bs W' cd' ca' cs'∧Ev W W' (fa.blocks+fa.count+1+fb.blocks) (Ac W.δ.size (max fa.width (to+1)) fa.count)∧Ax W.live W W'∧W'.α.gs.Perm W.α.gs∧((e=0∧W'.live.Perm (Bc f' W.live)∧f'.width=max fa.width (to+1)∧f'.count=fa.count∧Bg W'.δ.disk W.δ.size [f'.ext] f' (ats.map (Bf bts key value to)))∨(e=6∧f'=⟨0,0,0,0⟩∧W.δ.fault≠-1∧W'.live.Perm W.live)):=by
 have av:=aa.w2;have bg:=ab.w2;have bh:=aa.w1;have ac:=eQ0;have hz:=eQ1;have ae:=jC fa key ao av;have ag:=jC fb value aq bg;have ah:=can_ct bw bd ba bs W.δ cd h.dev fa bh av aa.blk oM;have aw:=Ox bw bd ba bs W cd ca cs h fb bts LvB ab oM;have e1:AL .i64 ((to:Int)+1)=((to+1:Nat):Int):=by rw[Ah oM];rfl
 have e2:max (fa.width:Int) ((to+1:Nat):Int)=((max fa.width (to+1):Nat):Int):=max_wd;rw[ac] at ae ag ah aw;rw[ac fa,ac fb];refine Ct.introD func112 rfl ntmps112 (nle rfl) fun _=>?_;dsimp only[Dg,AD];repeat(refine sA ?_;intros)
 refine cL aw ?_;rintro _ _ ⟨bx,g,ax,α1,cx,cb,rfl,rfl,ay,az,a0,bi,bk⟩;try dsimp only[AA,AB]
 have cj:α1.used=W.α.used+W.δ.size:=by have:=ay.ar.num.2.2.2;dsimp only at this;rw[this,(a0.map (·.n)).sum_nat,h.ar.num.2.2.2];simp[bi];omega
 have ci:α1.room=W.α.room:=az.room;have cm:fb.blocks≤fb.count:=by rw[ab.blk];exact En (Bp h.dev.num.1.1 ab.w1 ab.w2)
 have cu:8≤W.δ.size:=h.dev.num.1.1;have hE:∀bl:Nat,Ct AC 169 [pv bw,flv fa,Z9 Z8 ((max fa.width (to+1):Nat):Int),.func (.func 170) #[pv bl] #[]]
   [Ab bw bd ba bs,cd,ax,cs,Jk bl bx key value to ⟨0,false,false,T5.zero,0,false,cx,cb,true⟩,cx,cb] fun v H'=>
   ∃cd' ca' cs' W' r' f' e,v= .tuple #[flv f',Z9 Z8 e]∧H'=[Ab bw bd ba bs,cd',ca',cs',Jk bl bx key value to r',r'.cx,r'.cb]∧Wc bd ba bs W' cd' ca' cs'∧Ev {W with α:=α1} W' (fa.blocks+fa.count+1+fb.blocks) (Ac W.δ.size (max fa.width (to+1)) fa.count)∧Ax W.live W W'∧RSt bw bx fb bts g W.α.gs W' r'.cx r'.cb∧
    ((e=0∧W'.live.Perm (Bc f' W.live)∧f'.width=max fa.width (to+1)∧f'.count=fa.count∧Bg W'.δ.disk W.δ.size [f'.ext] f' (ats.map (Bf bts key value to)))∨(e=6∧f'=⟨0,0,0,0⟩∧W.δ.fault≠-1∧W'.live.Perm W.live)):=by
  intro bl;have h1:=vA bw bd ba bs (lkZ bw bl bx key value to ats fb bts LvB W.δ.size g) {W with α:=α1} cd ax cs ay (lkZ_ok bw bl bx key value to ats fb bts LvB W.δ.size g W.live am) fa ats LvA aa be (max fa.width (to+1)) oM oM
   (fun i=>Bf bts key value to (at5 ats i)) (fun i hi=>Mj ab.fit key value to an (aa.fit _ (by
    have ad:i<ats.length:=by rw[aa.len];exact hi
    unfold at5;rw[AM,AG ad];exact B7 ad))) 170 inferInstance [pv bl] []
   (vF bw bd ba bs bl bx key value to oM oM an ats ai fb bts LvB W.δ.size α1.room g aj bc) ⟨0,false,false,T5.zero,0,false,cx,cb,true⟩ W.α.gs a0
   ⟨rfl,rfl,bk,AT _,ab,am,fun k _=>⟨⟨fun _=>rfl,fun h=>(by cases h),fun h=>(by cases h)⟩,fun h=>(by cases h)⟩⟩ fb.blocks (fun W2 r2 bp=>by
    show Ac W.δ.size fb.width r2.pos≤_;rw[ab.blk];exact Dd bp.1) oM oD au bf a9
  refine Ct.convP h1 (by unfold lkZ;refine Bz fun z=>?_;simp only[AW,A4,AP,A3,A8]) ?_;rintro v H' ⟨cd',ca',cs',W',r',f',e,rfl,rfl,a1,a2,a3,a4,a5,a6⟩;refine⟨[Ab bw bd ba bs,cd',ca',cs',Jk bl bx key value to r',r'.cx,r'.cb],⟨cd',ca',cs',W',r',f',e,rfl,rfl,a1,a2,a3,?_,?_⟩,by unfold lkZ;refine Bz fun z=>?_;simp only[AW,A4,AP,A3,A8]⟩
  ·rcases a5.2 with⟨b1,b2⟩|⟨b1,b2⟩
   ·exact .inl ⟨by simpa[lkZ,b1] using a4,_,b2⟩
   ·exact .inr ⟨by simpa[lkZ,b1] using a4,b2⟩
  ·have a7:Ll (fun i=>Bf bts key value to (at5 ats i)) fa.count=ats.map (Bf bts key value to):=by
    unfold Ll;apply List.ext_getElem?;intro i;rw[BH,BH];by_cases hi:i<fa.count
    ·have ad:i<ats.length:=by rw[aa.len];exact hi
     rw[List.getElem?_range hi,AG ad];show some (Bf bts key value to (at5 ats i))=_;unfold at5;rw[AM,AG ad];rfl
    ·rw[BW oA16,BW (by rw[aa.len];omega)];rfl
   rw[←a7];exact a6
 have hE:=fun bl=>hE bl;unfold Jk at hE;dsimp only at hE;rw[ac fa] at hE;repeat(refine sA ?_;intros)
 rename_i b7 b9 cw bl;rw[e2];refine cL (hE bl) ?_;rintro _ _ ⟨ak,bq,al,W2,r2,f2,e,rfl,rfl,bu,bv,bz,b3,b4⟩;dsimp only[AA,AB];rw[ac];have b5:=Uk bw bd ba bs W2 ak bq al bu bx fb bts g W.α.gs r2.cx r2.cb b3;repeat(refine sA ?_;intros)
 refine Go.SL.Lv.call (hc:=b5) (h:=?_);rintro _ _ ⟨a8,α8,cz,rfl,b6,b8,cg⟩;try dsimp only[AA,AB]
 (refine lN [Ab bw bd ba bs,ak,a8,al] ?_;exact⟨ak,a8,al,{W2 with α:=α8},f2,e,rfl,rfl,b6,((az.trans bv).trans b8).weak oM oM,bz,cg,b4⟩)
def LayerR (bw bd ba bs:Nat) (W:Wk) (A T:Nat) (er:Option Nat) (ts:List T5) (wd:Nat) (v:Value) (H':Hp):Prop:=
 ∃f e aa ab ac W',v= .tuple #[flv f,Z9 Z8 e]∧H'=[Ab bw bd ba bs,aa,ab,ac]∧Wc bd ba bs W' aa ab ac∧It (Co bw bd ba bs 0 W) W W' A T er ts f e∧(e=0→f.width=wd)
def LayerQ (bw bd ba bs:Nat) (W:Wk) (cd cs:Aa) (A T:Nat) (er:Option Nat) (ts:List T5) (wd:Nat) (v:Value) (H':Hp):Prop:=
 (8*W.δ.size≤W.α.room-W.α.used∧LayerR bw bd ba bs W A T er ts wd v H')∨
 (W.α.room-W.α.used<8*W.δ.size∧v= .tuple #[flv ⟨0,0,0,0⟩,Z9 Z8 7]∧∃aa α',H'=[Ab bw bd ba bs,cd,aa,cs]∧Wc bd ba bs {W with α:=α'} cd aa cs∧α'.gs.Perm W.α.gs∧α'.room=W.α.room)
theorem vH {bw bd ba bs bj:Nat} {W W':Wk} {J:Jb} {f:Fl} {ts:List T5} {G2:List (Fl×List T5)} {A T:Nat} (h:Sm (Co bw bd ba bs bj W) J [f] W') (hG:J.G=(f,ts)::G2) (hA:J.acts≤W.δ.acts+A) (hT:J.took≤T):It (Co bw bd ba bs 0 W) W W' A T J.er ts (if J.e=0 then f else⟨0,0,0,0⟩) J.e:=by
 refine⟨h.gs,h.room,h.size,h.n,A7 h.acts hA,?_,?_,fun x hx=>h.keep x hx,?_⟩
 ·have:=h.tk;have h2:(Co bw bd ba bs bj W).b0=big W.σ.free:=rfl;omega
 ·intro hf;exact h.flt (fun h2=>h2 hf)
 ·by_cases he:J.e=0
  ·obtain⟨h1,h2,h3⟩:=h.good he [(f,ts)] G2 (by rw[hG];exact .refl _) rfl;rw[if_pos he];exact .inl ⟨he,h3,h1,h2 _ AE⟩
  ·obtain⟨h1,h2⟩:=h.bad he;rw[if_neg he];exact .inr ⟨he,rfl,h1,h2⟩
theorem vI (p:Jp) (hp:p.Ok) (J:Jb) (C:Aa) (hJ:Fm p J C) (f:Fl) (b:Nat):Ct AC 66 [pv p.bj,.slice (some ⟨b,0,none⟩) 1 1] [C,[(b,row (fl4 f) 42)]] fun v H'=>∃cd ca cs W,v=Z9 Z8 J.e∧H'=[Ab p.bw p.bd p.ba p.bs,cd,ca,cs,[(b,row (fl4 f) 42)]]∧Wc p.bd p.ba p.bs W cd ca cs∧Sm p J [f] W:=
 iV p hp J C hJ [f] oA19 _ 1 _ (Nv b f)
theorem jD {p:Jp} {e:Int} {cd ca cs:Aa}:([Bq p.bj p.bw e none 0 0,Ab p.bw p.bd p.ba p.bs,cd,ca,cs]:Hp).flatten.Perm ([Bv p e cd ca cs none 0 0 []]:Hp).flatten:=by unfold Bv;refine Bz fun z=>?_;simp only[AW,A4,AP,A8];omega
abbrev o1:T5:=⟨1,0,0,0,0⟩
abbrev o12:T5:=⟨1,2,0,0,0⟩
theorem Lm {p:Jp} {x:Fl×List T5} (h:In0 p x):x.2.length=x.1.count∧(∀t∈x.2,okT x.1.width t)∧x.1.blocks=Ac p.size x.1.width x.1.count∧1≤x.1.width∧x.1.width≤5:=by obtain⟨Lv,h,_⟩:=h;exact⟨h.len,h.fit,h.blk,h.w1,h.w2⟩
theorem Ol:Bd 1:=⟨by decide,by decide⟩
theorem vJ {a b:Nat} (h:a≤b):Ck a≤Ck b:=by unfold Ck;exact DO oM (Nat.add_le_add_left (aH oM) _)
theorem vK (p:Jp) (hp:p.Ok) (J:Jb) (he:J.e=0) (fa fb:Fl) (ats bts:List T5) (ha:(fa,ats)∈J.G∨In0 p (fa,ats)) (hb:(fb,bts)∈J.G∨In0 p (fb,bts)) (aq:fa.count≤100000) (av:fb.count≤100000) (key value to:Nat) (ah:key<fa.width) (ai:value<fb.width) (aj:to<5) (ag:ats.Pairwise fun a c=>a.col key≤c.col key) (ad:bts.Pairwise fun a c=>a.c0<c.c0) (A T:Nat) (hT:Ac p.size (max fa.width (to+1)) fa.count≤T) (ae:Ql p J T) (hA:fa.blocks+fa.count+1+fb.blocks≤A) (au:J.acts+A≤1000000000) (W:Wk) (cd ca cs:Aa) (held:List (Fl×List T5)) (hW:Wc p.bd p.ba p.bs W cd ca cs) (aa:Ec p J held W):Ct AC 112 [pv p.bw,flv fa,Z9 Z8 key,flv fb,Z9 Z8 value,Z9 Z8 to] [Ab p.bw p.bd p.ba p.bs,cd,ca,cs] fun v H'=> ∃f e cd' ca' cs' W',v= .tuple #[flv f,Z9 Z8 e]∧H'=[Ab p.bw p.bd p.ba p.bs,cd',ca',cs']∧Wc p.bd p.ba p.bs W' cd' ca' cs'∧It p W W' A T none (ats.map (Bf bts key value to)) f e∧(f.count≤fa.count∧f.blocks≤Ac p.size (max fa.width (to+1)) fa.count∧(e=0→f.width=max fa.width (to+1)∧f.count=fa.count)):=by
 obtain⟨LvA,ab,ak⟩:=aa.file (ha.imp (fun h=>(aa.ok he).1.mem_iff.2 h) id);obtain⟨LvB,ac,al⟩:=aa.file (hb.imp (fun h=>(aa.ok he).1.mem_iff.2 h) id);dsimp only at ab ac;obtain⟨⟨aw,ax⟩,_⟩:=hW.dev.num;have ay:=aa.used hp hW;have an:=aa.big hW he ae;have ao:=aa.acts;have az:Ac W.δ.size (max fa.width (to+1)) fa.count≤T:=by rw[aa.size];exact hT
 refine(vG p.bw p.bd p.ba p.bs key value to W cd ca cs hW fa ats LvA ab ak fb bts LvB ac al ah ai aj ag ad oM oM oM oM oM).mono ?_;rintro v H' ⟨cd',ca',cs',W',f,e,rfl,rfl,am,hE,hK,hg,hc⟩;refine⟨f,e,cd',ca',cs',W',rfl,rfl,am,⟨hg,hE.room,hE.size,hE.n,by have:=hE.acts.2;omega,by have:=hE.big;omega,hE.fault,hK,?_⟩,?_⟩
 ·rcases hc with⟨a,b,_,_,c⟩|⟨a,b,c,d⟩
  ·exact .inl ⟨a,rfl,b,c⟩
  ·exact .inr ⟨oM,b,d,.inl ⟨a,c⟩⟩
 ·rcases hc with⟨a,b,c1,c2,c⟩|⟨a,rfl,c,d⟩
  ·refine⟨oM,?_,fun _=>⟨c1,c2⟩⟩;rw[c.blk,c1,c2,aa.size];exact AI _
  ·exact⟨AT _,AT _,fun h=>by omega⟩
def Cr (bj b8 b4 b5:Nat) (fa fb:Fl):Hp:=[[(b8,row [pv bj] 84)],[(b4,row (fl4 fa) 42)],[(b5,row (fl4 fb) 42)]]
structure Rm (p:Jp) (B m k a:Nat):Prop where
 ok:p.Ok
 le:B≤m
 bs:B≤1000
 room:m*(k+p.L0.length+1)+(k*B+Bi p.L0)≤p.n
 kk:k≤100
 acts:a≤500000000
structure Ap (p:Jp) (B k a s0:Nat) (e:Int) (er:Option Nat) (Gf:List (Fl×List T5)) (C:Aa):Prop where
 job:Fm p ⟨e,er,Gf,a+s0*30000,s0*30000⟩ C
 len:Gf.length≤k
 blk:∀x∈Gf,x.1.blocks≤B
theorem Wy {B:Nat}:∀{l:List Nat},(∀x∈l,x≤B)→l.sum≤l.length*B
 |[],_=>by simp
 |x::l,h=>by have h1:=h x AE;have h2:=Wy (l:=l) (fun y hy=>h y (AF _ hy));simp only[List.sum_cons,AJ,DW,Nat.one_mul];omega
theorem Rm.fits {p:Jp} {B m k a:Nat} (h:Rm p B m k a) {Gf:List (Fl×List T5)} (hl:Gf.length≤k) (hb:∀x∈Gf,x.1.blocks≤B) {T:Nat} (hT:T≤m) (e:Int) (er:Option Nat) (x y:Nat):Ql p ⟨e,er,Gf,x,y⟩ T:=by left;unfold aL;dsimp only;have h1:T*(Gf.length+p.L0.length+1)≤m*(k+p.L0.length+1):=DO hT oM;have h2:=Wy (B:=B) (l:=Gf.map (·.1.blocks)) (by intro y hy;obtain⟨x,hx,rfl⟩:=AO.1 hy;exact hb x hx);rw[AQ] at h2;have h3:Gf.length*B≤k*B:=BD _ hl;have:=h.room;omega
structure FB (b c w n:Nat) (e:Int) (f:Fl):Prop where
 cnt:f.count≤b
 blk:f.blocks≤c
 ok:e=0→f.width=w∧f.count=n
theorem FB.mono {b c w n:Nat} {e e':Int} {f:Fl} (h:FB b c w n e f) (he:e'=0→e=0):FB b c w n e' f:=⟨h.cnt,h.blk,fun h0=>h.ok (he h0)⟩
theorem Fm.er0 {p:Jp} {J:Jb} {C:Aa} (h:Fm p J C) (he:J.e=0):J.er=none:=by obtain⟨W,cd,ca,cs,held,ph,cap,ch,_,_,_,aa⟩:=h;exact(aa.ok he).2
theorem Ap.er0 {p:Jp} {B k a s0:Nat} {e:Int} {er:Option Nat} {Gf:List (Fl×List T5)} {C:Aa} (h:Ap p B k a s0 e er Gf C) (he:e=0):er=none:=h.job.er0 he
theorem nbS {s w n c:Nat} (hs:8≤s) (h1:1≤w) (h5:w≤5) (hc:n≤c∨(w≤3∧n≤2*c)):Ac s w n≤c:=by
 have hp:=Bp hs h1 h5;rcases hc with hc|⟨hw,hc⟩
 ·exact A7 (En hp) hc
 ·have h2:2≤Ad s w:=by
   have:3*2≤s-2:=by omega
   exact(Nat.le_div_iff_mul_le oM).2 (by
    have:2*w≤2*3:=CJ _ hw;omega)
  unfold Ac;generalize Ad s w=q at*;have:n+q-1<(c+1)*q:=by have h3:c*2≤c*q:=CJ _ h2;rw[DW,Nat.one_mul];omega
  have:=(Nat.div_lt_iff_lt_mul oM).2 this;omega
inductive Pk {α:Type} (x:α):List α→List α→Prop
 |here {l:List α}:Pk x (x::l) l
 |there {y:α} {l l':List α}:Pk x l l'→Pk x (y::l) (y::l')
theorem Pk.perm {α:Type} {x:α} {l l':List α} (h:Pk x l l'):l.Perm (x::l'):=by
 induction h with
 |here=>exact .refl _
 |there _ ih=>exact(ih.cons _).trans (.swap _ _ _)
inductive Pks {α:Type}:List α→List α→List α→Prop
 |nil {l:List α}:Pks [] l l
 |cons {x:α} {xs l l1 l2:List α}:Pk x l l1→Pks xs l1 l2→Pks (x::xs) l l2
theorem Pks.perm {α:Type} {xs l l':List α} (h:Pks xs l l'):l.Perm (xs++l'):=by
 induction h with
 |nil=>exact .refl _
 |cons h1 _ ih=>exact h1.perm.trans (ih.cons _)
section
variable {p:Jp} {B m k a s0:Nat} {e:Int} {er:Option Nat} {Gf:List (Fl×List T5)} {C:Aa}
theorem Fm.weak {J J':Jb} (h:Fm p J C) (he:J'.e=J.e) (aa:J'.er=J.er) (hG:J'.G=J.G) (ha:J.acts≤J'.acts) (ht:J.took≤J'.took):Fm p J' C:=by
 obtain⟨W,cd,ca,cs,held,ph,cap,ch,h1,h2,h3,h4⟩:=h;refine⟨W,cd,ca,cs,held,ph,cap,ch,by rw[he];exact h1,h2,h3,{h4 with acts:=A7 h4.acts ha,tk:=A7 h4.tk oM,ok:=?_,why:=?_}⟩
 ·rw[he,aa,hG];exact h4.ok
 ·rw[he,aa];exact h4.why
theorem Ap.push (h:Ap p B k a s0 e er Gf C) (hl:Gf.length+1≤k) {e':Int} {aa:Option Nat} {f:Fl} {ts:List T5} {C':Aa} {A T:Nat} (q:Nat) (hJ:Fm p ⟨e',aa,(f,ts)::Gf,a+s0*30000+A,s0*30000+T⟩ C') (hA:A≤q*30000) (hT:T≤q*30000) (hb:f.blocks≤B):Ap p B k a (s0+q) e' aa ((f,ts)::Gf) C' where
 job:=by have e1:(s0+q)*30000=s0*30000+q*30000:=DW _ _ _;exact hJ.weak rfl rfl rfl oD oD
 len:=by simpa using hl
 blk:=by
  intro x hx;rcases AN.1 hx with rfl|hx
  ·exact hb
  ·exact h.blk x hx
theorem aQ (hR:Rm p B m k a) (hJ:Ap p B k a s0 e er Gf C) {K:Type} (M:Am K) (k0:K) (width bound c κ:Nat) (aa:1≤width∧width≤5) (mk:Nat) (ab:Callable AC mk) (us:List Value) (ok:K→T5→Prop) (hM:Bx M width ok mk [] us) (hκ:∀k t,ok k t→(M.outs k t).length≤κ) (ai:κ≤5) (l:List (Fl×List T5)) (hs:∀x∈l,x∈Gf∨In0 p x) (h0:∀x∈l,x.1.count≤1000∧x.1.blocks≤1000) (ag:l.length≤4) (pa:Option Addr) (cap:Nat) (cf:Aa) (hV:Vec 42 4 pa l.length cap (Aj (l.map (·.1))) cf) (ae:e=0→M.oks ok k0 (cat l)) (ad:e=0→(M.all k0 (cat l)).length≤bound) (hc:bound≤c∨(width≤3∧bound≤2*c)) (al:c≤B) (hl:Gf.length+1≤k) (ah:s0≤10000):Ct AC 52 [pv p.bj,Z9 Z8 width,Z9 Z8 bound,.func (.func mk) #[] us.toArray,.slice pa l.length cap] (C::cf::M.C k0) fun v H'=> ∃f C' e' k',v=flv f∧H'=C'::cf::M.C k'∧Ap p B k a (s0+1) e' (er.or (M.bad k0 (cat l))) ((f,M.all k0 (cat l))::Gf) C'∧FB bound c width (M.all k0 (cat l)).length e' f∧(e'=0→e=0∧k'=M.st k0 (cat l)∧M.bad k0 (cat l)=none):=by
 have hB:=hR.bs;have am:=hR.kk;have an:=hR.acts;have hm:=hR.le;have aj:=hJ.len;have ac:=nbS (s:=p.size) hR.ok.size.1 aa.1 aa.2 hc;have ao:bound≤2000:=oM;have ak:Ie κ l≤4*6000:=by unfold Ie;refine A7 (Wy (B:=6000) ?_) (by rw[AQ];exact BD _ ag);intro x hx;obtain⟨y,hy,rfl⟩:=AO.1 hx;have h1:=h0 y hy;have h2:y.1.count*κ≤1000*5:=DO h1.1 ai;omega
 have h2:s0*30000≤10000*30000:=DO ah (AI _);refine(JMake p hR.ok _ C hJ.job M k0 width bound κ 24001 c aa.1 aa.2 oM mk ab [] us ok hM hκ oM l hs (fun x hx=>by have:=h0 x hx;omega) pa cap cf hV ae ad ac
  (fun _=>hR.fits hJ.len hJ.blk oM _ _ _ _) oM oD oD).mono ?_
 rintro v H' ⟨f,C',e',k',rfl,rfl,h3,h4,h5,h6⟩;have h7:f.blocks≤c:=A7 h6 ac;exact⟨f,C',e',k',rfl,rfl,hJ.push hl 1 h3 oM oM oM,⟨h5,h7,fun h=>let ⟨_,_,c,d,_⟩:=h4 h;⟨c,d⟩⟩,fun h=>let ⟨a,b,_,_,d⟩:=h4 h;⟨a,b,d⟩⟩
theorem jE (hR:Rm p B m k a) (hJ:Ap p B k a s0 e er Gf C) {K:Type} (M:Am K) (k0:K) (width bound c κ:Nat) (ah:1≤width∧width≤5) (mk:Nat) (aa:Callable AC mk) (us:List Value) (ok:K→T5→Prop) (hM:Bx M width ok mk [] us) (hκ:∀k t,ok k t→(M.outs k t).length≤κ) (ag:κ≤5) (f0:Fl) (ts:List T5) (hs:(f0,ts)∈Gf∨In0 p (f0,ts)) (h0:f0.count≤1000∧f0.blocks≤1000) (ac:e=0→M.oks ok k0 ts) (ab:e=0→(M.all k0 ts).length≤bound) (hc:bound≤c∨(width≤3∧bound≤2*c)) (ad:c≤B) (hl:Gf.length+1≤k) (ae:s0≤10000) (b:Nat):Ct AC 52 [pv p.bj,Z9 Z8 width,Z9 Z8 bound,.func (.func mk) #[] us.toArray,.slice (some ⟨b,0,none⟩) 1 1] (C::[(b,row (fl4 f0) 42)]::M.C k0) fun v H'=> ∃f C' e' k',v=flv f∧H'=C'::[(b,row (fl4 f0) 42)]::M.C k'∧Ap p B k a (s0+1) e' (er.or (M.bad k0 ts)) ((f,M.all k0 ts)::Gf) C'∧FB bound c width (M.all k0 ts).length e' f∧(e'=0→e=0∧k'=M.st k0 ts∧M.bad k0 ts=none):=by
 have h:=aQ hR hJ M k0 width bound c κ ah mk aa us ok hM hκ ag [(f0,ts)] (by simpa using hs) (by simpa using h0) oA19 _ 1 _ (Nv b f0);rw[uY] at h;exact h ac ab hc ad hl ae
theorem aR (hR:Rm p B m k a) (hJ:Ap p B k a s0 e er Gf C) {K:Type} (M:Am K) (ag:∀k t,M.err k t=none) (k0:K) (width bound c κ:Nat) (ai:1≤width∧width≤5) (mk:Nat) (aa:Callable AC mk) (us:List Value) (ok:K→T5→Prop) (hM:Bx M width ok mk [] us) (hκ:∀k t,ok k t→(M.outs k t).length≤κ) (ah:κ≤5) (f0:Fl) (ts:List T5) (hs:(f0,ts)∈Gf∨In0 p (f0,ts)) (h0:f0.count≤1000∧f0.blocks≤1000) (ac:e=0→M.oks ok k0 ts) (ab:e=0→(M.all k0 ts).length≤bound) (hc:bound≤c∨(width≤3∧bound≤2*c)) (ad:c≤B) (hl:Gf.length+1≤k) (ae:s0≤10000) (b:Nat):Ct AC 52 [pv p.bj,Z9 Z8 width,Z9 Z8 bound,.func (.func mk) #[] us.toArray,.slice (some ⟨b,0,none⟩) 1 1] (C::[(b,row (fl4 f0) 42)]::M.C k0) fun v H'=> ∃f C' e' k',v=flv f∧H'=C'::[(b,row (fl4 f0) 42)]::M.C k'∧Ap p B k a (s0+1) e' er ((f,M.all k0 ts)::Gf) C'∧FB bound c width (M.all k0 ts).length e' f∧(e'=0→e=0∧k'=M.st k0 ts):=by
 refine(jE hR hJ M k0 width bound c κ ai mk aa us ok hM hκ ah f0 ts hs h0 ac ab hc ad hl ae b).mono ?_;rintro v H' ⟨f,C',e',k',h1,h2,h3,h4,h5⟩;rw[Am.bad_none ag,Nx] at h3;exact⟨f,C',e',k',h1,h2,h3,h4,fun h=>⟨(h5 h).1,(h5 h).2.1⟩⟩
theorem SMap2 (hR:Rm p B m k a) (hJ:Ap p B k a s0 e er Gf C) (g:T5→T5) (width bound c:Nat) (ak:1≤width∧width≤5) (mk:Nat) (ab:Callable AC mk) (aa:T5→Prop) (aj:∀bx t X R,PutC bx (g t) X R→Ct AC mk [tv t,Jg bx] [X] (Wv R)) (ac:∀t,aa t→okT width (g t)) (f0 f1:Fl) (ts us:List T5) (hs:(f0,ts)∈Gf∨In0 p (f0,ts)) (ae:(f1,us)∈Gf∨In0 p (f1,us)) (h0:f0.count≤1000∧f0.blocks≤1000) (h1:f1.count≤1000∧f1.blocks≤1000) (ag:e=0→∀t∈ts++us,aa t) (ad:e=0→ts.length+us.length≤bound) (hc:bound≤c∨(width≤3∧bound≤2*c)) (ah:c≤B) (hl:Gf.length+1≤k) (ai:s0≤10000) (b:Nat):Ct AC 52 [pv p.bj,Z9 Z8 width,Z9 Z8 bound,.func (.func mk) #[] #[],.slice (some ⟨b,0,none⟩) 2 2] [C,[(b,row (fl4 f0++fl4 f1) 42)]] fun v H'=> ∃f C' e',v=flv f∧H'=[C',[(b,row (fl4 f0++fl4 f1) 42)]]∧Ap p B k a (s0+1) e' er ((f,(ts++us).map g)::Gf) C'∧FB bound c width (ts.length+us.length) e' f∧(e'=0→e=0):=by
 have h:=aQ hR hJ (mMap g) () width bound c 1 ak mk ab [] _ (Bx.tail aj ac) (fun _ _ _=>AI _) oM [(f0,ts),(f1,us)] (by simpa using⟨hs,ae⟩) (by simpa using⟨h0,h1⟩) oA19 _ 2 _ (Nw b f0 f1);rw[iY] at h;have h:=h (fun h=>Am.oks_of (M:=mMap g) (I:=fun _=>True) (Q:=aa) (fun _ t _ h=>⟨h,trivial⟩) (ts++us) () trivial (ag h)) (by rw[aP,AQ,AH];exact ad) hc ah hl ai;refine h.mono ?_;rintro v H' ⟨f,C',e',k',h1,h2,h3,h4,h5⟩;rw[Am.bad_none (fun _ _=>rfl),Nx] at h3;rw[aP] at h3 h4;rw[AQ,AH] at h4;exact⟨f,C',e',h1,h2,h3,h4,fun h=>(h5 h).1⟩
theorem Gb (hR:Rm p B m k a) (hJ:Ap p B k a s0 e er Gf C) (f:Fl) (ts:List T5) (G':List (Fl×List T5)) (o:T5) (ho:Gj o=true) (once:Bool) {b c w n:Nat} (hf:FB b c w n e f) (hP:Pk (f,ts) Gf G') (hb:b≤1000) (ae:c≤B) (hT:Ck c≤m) (aa:s0≤10000):Ct AC 64 [pv p.bj,flv f,tv o,.bool once] [C] fun v H'=> ∃g C' e',v=flv g∧H'=[C']∧Ap p B k a (s0+1) e' er ((g,srt (ltO o) once ts)::G') C'∧FB b c w (srt (ltO o) once ts).length e' g∧(e'=0→e=0):=by
 have hB:=hR.bs;have ag:=hR.acts;have ah:=hf.cnt;have ab:=hf.blk;have h2:s0*30000≤10000*30000:=DO aa (AI _);have ac:=hP.perm.length_eq;have ai:Ck f.blocks≤Ck c:=vJ ab;have ad:Ck f.blocks≤30000:=by have h1:=uC (b:=f.blocks) (m:=1000) (l:=5) oM oA18;exact A7 h1 (nle rfl)
 refine(JSort p hR.ok _ C hJ.job f ts G' o ho once 20000 (Ck f.blocks) (fun _=>hP.perm) (fun _=>AI _) (fun _=>hR.fits hJ.len hJ.blk oM _ _ _ _) (fun _=>uD oM) oD oM).mono ?_;rintro v H' ⟨g,C',e',rfl,rfl,h3,h4,h5,h6⟩;refine⟨g,C',e',rfl,rfl,⟨?_,?_,?_⟩,⟨oM,oM,fun h=>?_⟩,fun h=>(h4 h).1⟩
 ·have e1:(s0+1)*30000=s0*30000+1*30000:=DW _ _ _;refine h3.weak rfl rfl rfl oD ?_;show s0*30000+Ck f.blocks≤(s0+1)*30000;rw[e1];exact Nat.add_le_add_left ad _
 ·have:=hJ.len;simp only[AJ] at ac⊢;omega
 ·intro x hx;rcases AN.1 hx with rfl|hx
  ·dsimp only;omega
  ·exact hJ.blk x (hP.perm.mem_iff.2 (AF _ hx))
 ·obtain⟨h7,h8,h9⟩:=h4 h;exact⟨h8.trans (hf.ok h7).1,h9⟩
theorem Ih (hR:Rm p B m k a) (hJ:Ap p B k a s0 e er Gf C) (fts G':List (Fl×List T5)) (hP:Pks fts Gf G') (aa:fts.length≤1000) (pa:Option Addr) (cap:Nat) (cf:Aa) (hV:Vec 42 4 pa (fts.map (·.1)).length cap (Aj (fts.map (·.1))) cf):Ct AC 114 [pv p.bj,.slice pa (fts.map (·.1)).length cap] [C,cf] fun v H'=>∃C',v= .tuple #[]∧H'=[C',cf]∧Ap p B k a s0 e er G' C':=by
 refine(JFree p hR.ok _ C hJ.job (fts.map (·.1)) fts G' (fun _=>⟨hP.perm,rfl⟩) (by rw[AQ];exact aa) pa cap cf hV).mono ?_;rintro v H' ⟨C',rfl,rfl,h⟩;have ab:=hP.perm.length_eq;exact⟨C',rfl,rfl,h,by have:=hJ.len;rw[AH] at ab;omega,fun x hx=>hJ.blk x (hP.perm.mem_iff.2 (List.mem_append_right _ hx))⟩
theorem SRun (hR:Rm p B m k a) (hJ:Ap p B k a s0 e er Gf C) (mk:Nat) (ab:Callable AC mk) (us:List Value) (Hx:Hp) (A T q:Nat) (aa:Option Nat) (ts:List T5) (hA:A≤q*30000) (hT:T≤q*30000) {b c w n:Nat} (ac:e=0→∀x y,x≤a+s0*30000→Fg p ⟨e,er,Gf,x,y⟩ mk us Hx A T aa ts fun f e Hx'=>Hx'=Hx∧FB b c w n e f) (ad:c≤B) (hl:Gf.length+1≤k):Ct AC 60 [pv p.bj,.func (.func mk) #[] us.toArray] (C::Hx) fun v H'=>∃f C' e',v=flv f∧H'=C'::Hx∧Ap p B k a (s0+q) e' (er.or aa) ((f,ts)::Gf) C'∧FB b c w n e' f∧(e'=0→e=0):=by
 have ae:=hR.kk;refine(JRunK p hR.ok _ C hJ.job mk ab us Hx A T aa ts _ (fun h=>ac h _ _ (AI _)) (by have:=hJ.len;dsimp only;omega)).mono ?_;rintro v H' ⟨f,C',e',rfl,rfl,h3,h4⟩;dsimp only at h3 h4;have hf:FB b c w n e' f∧(e'=0→e=0):=by
  rcases h4 with⟨h5,h6⟩|⟨h5,h6,rfl⟩
  ·exact⟨h6,fun _=>h5⟩
  ·exact⟨⟨AT _,AT _,fun h=>absurd (h6▸h) h5⟩,fun h=>absurd (h6▸h) h5⟩
 have:=hf.1.blk;exact⟨f,C',e',rfl,rfl,hJ.push hl q h3 hA hT oM,hf.1,hf.2⟩
def Jl (p:Jp) (J:Jb) (fa fb:Fl) (key value to A T:Nat) (ts:List T5) (R:Fl→Int→Prop):Prop:=
 ∀W cd ca cs held,Wc p.bd p.ba p.bs W cd ca cs→Ec p J held W→
  Ct AC 112 [pv p.bw,flv fa,Z9 Z8 key,flv fb,Z9 Z8 value,Z9 Z8 to] [Ab p.bw p.bd p.ba p.bs,cd,ca,cs] fun v H'=>
   ∃f e aa ab ac W',v= .tuple #[flv f,Z9 Z8 e]∧H'=[Ab p.bw p.bd p.ba p.bs,aa,ab,ac]∧Wc p.bd p.ba p.bs W' aa ab ac∧It p W W' A T none ts f e∧R f e
theorem SLook (hR:Rm p B m k a) (ai:Gf.length≤k) (ag:∀x∈Gf,x.1.blocks≤B) (fa fb:Fl) (ats bts:List T5) (aj:(fa,ats)∈Gf∨In0 p (fa,ats)) (ak:(fb,bts)∈Gf∨In0 p (fb,bts)) (key value to w c:Nat) (ha:fa.count≤1000∧fa.blocks≤1000) (hb:fb.count≤1000∧fb.blocks≤1000) (ad:key<fa.width) (ae:value<fb.width) (al:to<5) (ah:max fa.width (to+1)=w) (am:w≤5) (ab:ats.Pairwise fun a c=>a.col key≤c.col key) (aa:bts.Pairwise fun a c=>a.c0<c.c0) (hc:fa.count≤c∨(w≤3∧fa.count≤2*c)) (aw:c≤B) (x y:Nat) (hx:x≤900000000):Jl p ⟨0,er,Gf,x,y⟩ fa fb key value to 10000 c (ats.map (Bf bts key value to)) (fun f e=>FB fa.count c w fa.count e f):=by
 intro W cd ca cs held hW an;have hm:=hR.le;have hB:=hR.bs;have ao:1≤w:=oM;have ac:=nbS (s:=p.size) hR.ok.size.1 ao am hc;rw[←ah] at ac;refine(vK p hR.ok _ rfl fa fb ats bts aj ak oM oM key value to ad ae al ab aa 10000 c ac (hR.fits ai ag oM _ _ _ _) oM oD W cd ca cs held hW an).mono ?_;rintro v H' ⟨f,e,aq,au,av,W',h1,h2,h3,h4,h5,h6,h7⟩;exact⟨f,e,aq,au,av,W',h1,h2,h3,h4,h5,A7 h6 ac,fun h=>by rw[←ah];exact h7 h⟩
theorem Ks (hR:Rm p B m k a) (hJ:Ap p B k a s0 e er Gf C) (mk:Nat) (ae:Callable AC mk) {us:List Value} {Hx:Hp} (fa fb:Fl) (ats bts:List T5) (key value to w c:Nat) (an:(fa,ats)∈Gf∨In0 p (fa,ats)) (ah:(fb,bts)∈Gf∨In0 p (fb,bts)) (al:∀(J:Jb) (A T:Nat) (ts:List T5) (R:Fl→Int→Prop),Jl p J fa fb key value to A T ts R→Fg p J mk us Hx A T none ts fun f e Hx'=>Hx'=Hx∧R f e) {ba ca wa na bb cb wb nb:Nat} (aa:FB ba ca wa na e fa) (ad:FB bb cb wb nb e fb) (ay:ba≤1000∧ca≤1000∧bb≤1000∧cb≤1000) (aw:key<wa) (ax:value<wb) (ai:to<5) (am:max wa (to+1)=w) (aj:w≤5) (ab:e=0→ats.Pairwise fun a c=>a.col key≤c.col key) (ac:e=0→bts.Pairwise fun a c=>a.c0<c.c0) (hc:ba≤c∨(w≤3∧ba≤2*c)) (ag:c≤B) (hl:Gf.length+1≤k) (ak:s0≤10000):Ct AC 60 [pv p.bj,.func (.func mk) #[] us.toArray] (C::Hx) fun v H'=>∃f C' e',v=flv f∧H'=C'::Hx∧Ap p B k a (s0+1) e' er ((f,ats.map (Bf bts key value to))::Gf) C'∧FB ba c w na e' f∧(e'=0→e=0):=by
 have hB:=hR.bs;have az:=hR.acts;have h1:=aa.cnt;have h2:=aa.blk;have h3:=ad.cnt;have h4:=ad.blk;have h5:s0*30000≤10000*30000:=DO ak (AI _);have h:=SRun hR hJ mk ae us Hx 10000 c 1 none (ats.map (Bf bts key value to)) oA18 oM (b:=ba) (c:=c) (w:=w) (n:=na) (fun he x y hx=>by
  subst he;obtain⟨q1,q2⟩:=aa.ok rfl;obtain⟨q3,q4⟩:=ad.ok rfl;have hS:=SLook hR hJ.len hJ.blk (er:=er) fa fb ats bts an ah key value to w c oM oM oM oM ai (by rw[q1];exact am) aj (ab rfl) (ac rfl) oM ag x y oM;have ao:=al _ _ _ _ _ hS;intro W cd ca cs held ph cap h1 h2;refine(ao W cd ca cs held ph cap h1 h2).mono ?_;rintro v H' ⟨f,e,aq,au,av,W',Hx',a1,a2,a3,a4,a5,a6⟩;exact⟨f,e,aq,au,av,W',Hx',a1,a2,a3,a4,a5,⟨A7 a6.cnt oM,a6.blk,fun h=>⟨(a6.ok h).1,by rw[(a6.ok h).2];exact q2⟩⟩⟩) ag hl
 rw[Nx] at h;exact h
theorem vL (hR:Rm p B m k a) (hJ:Ap p B k a s0 e er Gf C) (f:Fl) (b:Nat):Ct AC 66 [pv p.bj,.slice (some ⟨b,0,none⟩) 1 1] [C,[(b,row (fl4 f) 42)]] fun v H'=>∃cd ca cs W,v=Z9 Z8 e∧H'=[Ab p.bw p.bd p.ba p.bs,cd,ca,cs,[(b,row (fl4 f) 42)]]∧Wc p.bd p.ba p.bs W cd ca cs∧Sm p ⟨e,er,Gf,a+s0*30000,s0*30000⟩ [f] W:=
 vI p hR.ok _ C hJ.job f b
end
theorem lkR {p:Jp} {W W':Wk} {A T:Nat} {ts:List T5} {Rl:Fl→Int→Prop} {Hx:Hp} {jr cd ca cs:Aa} {f:Fl} {e:Int} (hW:Wc p.bd p.ba p.bs W' cd ca cs) (hS:It p W W' A T none ts f e) (hR:Rl f e):aO p W A T none ts (fun f e Hx'=>Hx'=Hx∧Rl f e) jr (.tuple #[flv f,Z9 Z8 e]) (jr::Ab p.bw p.bd p.ba p.bs::cd::ca::cs::Hx):=⟨f,e,cd,ca,cs,W',_,rfl,rfl,hW,hS,rfl,hR⟩
theorem eQ2:∀f:Fl,fl4 f=[Z9 Z8 f.first,Z9 Z8 f.blocks,Z9 Z8 f.width,Z9 Z8 f.count]:=fun _=>rfl
theorem lM {C r q:Prop} (s:r) (c:C) (h:Ep r→Ep C→q:=by
 intro s c W cd ca cs held ph capj hW hJW;have hL:=s.get W cd ca cs held hW hJW;have hflv:=eQ0;have hfl4:=eQ2;rw[hflv,hflv] at hL;unfold Bq Cr;rw[hfl4,hfl4];refine Ct.intro c.get rfl rfl (nle rfl) fun _=>?_;dsimp only[Dg,AD];repeat(refine sv ?_;intros)
 refine cX hL ?_;rintro _ _ ⟨f,e,cd',ca',cs',W',rfl,rfl,hW',hS,hR⟩;dsimp only[AA,AB];refine nx ?_;rw[hflv];repeat(refine sv ?_;intros)
 exact Dn.post (vs:=[flv f,Z9 Z8 e]) rfl (hR:=lkR hW' hS hR)):q:=h ⟨s⟩ ⟨c⟩
theorem vM (bj bw:Nat) (e:Int) (p:Option Addr) (n cap:Nat) (m:Nat) (hm:m≤1000):Ct AC 109 [pv bj,Z9 Z8 m] [Bq bj bw e p n cap] fun v H'=>v= .tuple #[]∧H'=[Bq bj bw (if e=0 then(m:Int) else e) p n cap]:=by
 unfold Bq;by_cases he:e=0
 ·subst he;rw[if_pos rfl];refine cG func109 fun _=>?_;repeat(refine sA ?_;intros)
  (refine dE [[(bj,row [pv bw,Z9 Z8 m,.slice p n cap] 98)]] ?_;exact⟨rfl,rfl⟩)
 ·rw[if_neg he];refine cG func109 fun _=>?_;repeat(refine sA ?_;intros)
  (refine dE [[(bj,row [pv bw,Z9 Z8 e,.slice p n cap] 98)]] ?_;exact⟨rfl,rfl⟩)
theorem Ap.orE {p:Jp} {B k a s0:Nat} {e:Int} {er:Option Nat} {Gf:List (Fl×List T5)} {C:Aa} (h:Ap p B k a s0 e er Gf C) (x:Option Nat) (hx:e=0→x=none):Ap p B k a s0 e (er.or x) Gf C:=by
 obtain⟨⟨W,cd,ca,cs,held,ph,cap,ch,h1,hW,hV,aa⟩,hl,hb⟩:=h;refine⟨⟨W,cd,ca,cs,held,ph,cap,ch,h1,hW,hV,{aa with ok:=fun h=>?_,why:=fun h=>?_}⟩,hl,hb⟩
 ·obtain⟨a,b⟩:=aa.ok h;dsimp only at b;exact⟨a,by rw[b,hx h];rfl⟩
 ·refine(aa.why h).imp id ?_;rintro⟨n,h1,h2⟩;dsimp only at h1 h2;exact⟨n,by rw[h1];rfl,h2⟩
theorem SFail {p:Jp} {B k a s0:Nat} {e:Int} {er:Option Nat} {Gf:List (Fl×List T5)} {C:Aa} (hJ:Ap p B k a s0 e er Gf C) (m:Nat) (ac:m≠0) (hm:m≤1000) (x:Option Nat) (hx:e=0→x=some m):Ct AC 109 [pv p.bj,Z9 Z8 m] [C] fun v H'=>∃e' C',v= .tuple #[]∧H'=[C']∧Ap p B k a s0 e' (er.or x) Gf C'∧e'≠0:=by
 obtain⟨⟨W,cd,ca,cs,held,ph,cap,ch,rfl,hW,hV,aa⟩,hl,hb⟩:=hJ;refine Ct.convP (Ct.wide (vM p.bj p.bw e ph held.length cap m hm) [Ab p.bw p.bd p.ba p.bs,cd,ca,cs,ch]) (by unfold Bv;refine Bz fun z=>?_;simp only[AW,A4,AP,A3,A8];omega) ?_;rintro v H' ⟨H1,⟨rfl,rfl⟩,rfl⟩;have ab:(if e=0 then(m:Int) else e)≠0:=by split<;>omega
 refine⟨[Bv p (if e=0 then(m:Int) else e) cd ca cs ph held.length cap ch],⟨_,_,rfl,rfl,⟨⟨W,cd,ca,cs,held,ph,cap,ch,rfl,hW,hV,{aa with ok:=fun h=>absurd h ab,why:=fun _=>?_}⟩,hl,hb⟩,ab⟩,?_⟩
 ·have hv:∀z:Int,z=(if e=0 then(m:Int) else e)→(z=6∧p.fl)∨∃n:Nat,er.or x=some n∧z=(n:Int):=by
   rintro z rfl;by_cases he:e=0
   ·have:=(aa.ok he).2;dsimp only at this;rw[if_pos he,this,hx he];exact .inr ⟨m,rfl,rfl⟩
   ·rw[if_neg he];refine(aa.why he).imp id ?_;rintro⟨n,h1,h2⟩;dsimp only at h1 h2;exact⟨n,by rw[h1];rfl,h2⟩
  exact hv _ rfl
 ·unfold Bv;refine Bz fun z=>?_;simp only[AW,A4,AP,A3,A8];omega
def Cs (Cx:Hp) (f:T5→List T5):Am Unit:=⟨fun _=>Cx,fun _ t=>f t,fun _ _=>(),fun _ _=>none⟩
theorem aS (Cx:Hp) (f:T5→List T5):∀(ts:List T5) (k:Unit),(Cs Cx f).all k ts=ts.flatMap f
 |[],_=>rfl
 |t::ts,k=>by simp only[Am.all,aS Cx f ts,BC];rfl
theorem mFl_C (Cx:Hp) (f:T5→List T5) (k:Unit):(Cs Cx f).C k=Cx:=rfl
theorem Ex {f:T5→List T5} {g:T5→T5} (h:∀t,f t=[g t]) (ts:List T5):ts.flatMap f=ts.map g:=by
 induction ts with
 |nil=>rfl
 |cons t ts ih=>rw[BC,ih,h];rfl
theorem Ss {f:T5→List T5} {n:Nat} (ts:List T5) (h:∀t∈ts,(f t).length≤n):(ts.flatMap f).length≤ts.length*n:=by
 induction ts with
 |nil=>simp
 |cons t ts ih=>
  have h1:=h t AE;have h2:=ih fun u hu=>h u (AF _ hu);rw[BC,AH,AJ,Nat.succ_mul];omega
theorem Gn {p:Jp} {B m k a s0:Nat} {e:Int} {er:Option Nat} {Gf:List (Fl×List T5)} {C:Aa} (hR:Rm p B m k a) (hJ:Ap p B k a s0 e er Gf C) (Cx:Hp) (f:T5→List T5) (width bound c κ:Nat) (ai:1≤width∧width≤5) (mk:Nat) (ab:Callable AC mk) (us:List Value) (aa:T5→Prop) (hM:Bx (Cs Cx f) width (fun _ t=>aa t) mk [] us) (hκ:∀t,aa t→(f t).length≤κ) (ah:κ≤5) (f0:Fl) (ts:List T5) (hs:(f0,ts)∈Gf∨In0 p (f0,ts)) (h0:f0.count≤1000∧f0.blocks≤1000) (ad:e=0→∀t∈ts,aa t) (ac:e=0→(ts.flatMap f).length≤bound) (hc:bound≤c∨(width≤3∧bound≤2*c)) (ag:c≤B) (hl:Gf.length+1≤k) (ae:s0≤10000) (b:Nat):Ct AC 52 [pv p.bj,Z9 Z8 width,Z9 Z8 bound,.func (.func mk) #[] us.toArray,.slice (some ⟨b,0,none⟩) 1 1] (C::[(b,row (fl4 f0) 42)]::Cx) fun v H'=> ∃g C' e',v=flv g∧H'=C'::[(b,row (fl4 f0) 42)]::Cx∧Ap p B k a (s0+1) e' er ((g,ts.flatMap f)::Gf) C'∧FB bound c width (ts.flatMap f).length e' g∧(e'=0→e=0):=by
 have h:=aR hR hJ (Cs Cx f) (fun _ _=>rfl) () width bound c κ ai mk ab us _ hM (fun _ t ht=>hκ t ht) ah f0 ts hs h0
  (fun h=>Am.oks_of (M:=Cs Cx f) (I:=fun _=>True) (Q:=aa) (fun _ t _ h=>⟨h,trivial⟩) ts () trivial (ad h)) (by rw[aS];exact ac) hc ag hl ae b
 simp only[aS,mFl_C] at h;refine h.mono ?_;rintro v H' ⟨g,C',e',k',h1,h2,h3,h4,h5⟩;exact⟨g,C',e',h1,h2,h3,h4,fun h=>(h5 h).1⟩
structure MkS (bx kk ki:Nat) (Pst:List T5→Aa→Prop) (Br:Aa→Prop) (bnd:Nat) (ps:List T5) (X:Aa) (t:T5) (o:List T5):Prop where
 hP:Vx bx kk Pst Br bnd
 hX:Pst ps X
 hk:okT ki t
 hb:ps.length+o.length≤bnd
def mkR (chs:Hp) (o:List T5) (Pst:List T5→Aa→Prop) (Br:Aa→Prop) (ps:List T5) (v:Value) (H':Hp):Prop:=∃X',H'=X'::chs∧((v=Z9 Z8 0∧Pst (ps++o) X')∨(v=Z9 Z8 6∧Br X'))
theorem mkOkR {chs:Hp} {o ps:List T5} {Pst:List T5→Aa→Prop} {Br:Aa→Prop} {X:Aa} (h:Pst (ps++o) X):mkR chs o Pst Br ps (Z9 Z8 0) (X::chs):=⟨X,rfl,.inl ⟨rfl,h⟩⟩
theorem mkBrR {chs:Hp} {o ps:List T5} {Pst:List T5→Aa→Prop} {Br:Aa→Prop} {X:Aa} (h:Br X):mkR chs o Pst Br ps (Z9 Z8 6) (X::chs):=⟨X,rfl,.inr ⟨rfl,h⟩⟩
theorem mkNoR {chs:Hp} {o ps:List T5} {Pst:List T5→Aa→Prop} {Br:Aa→Prop} {X:Aa} (ho:o=[]) (h:Pst ps X):mkR chs o Pst Br ps (Z9 Z8 0) (X::chs):=mkOkR (by rw[ho,AP];exact h)
theorem mkU {F:T5→List T5} {chs:Hp} {kk ki f:Nat} {us:List Value} (h:∀bx Pst Br bnd ps X t,MkS bx kk ki Pst Br bnd ps X t (F t)→Ct AC f (.agg #[Z9 Z8 t.c0,Z9 Z8 t.c1,Z9 Z8 t.c2,Z9 Z8 t.c3,Z9 Z8 t.c4]:: .func (.func 92) #[pv bx] #[]::us) (X::chs) (mkR chs (F t) Pst Br ps)):Bx (Cs chs F) kk (fun _ t=>okT ki t) f [] us:=by
 rintro bx Pst Br bnd hP ps X ⟨⟩ t hX hk hb;refine Ct.mono (h bx Pst Br bnd ps X t ⟨hP,hX,hk,hb⟩) ?_;rintro v H' ⟨X',rfl,h⟩;refine⟨X',(),rfl,?_⟩;rcases h with⟨rfl,h⟩|⟨rfl,h⟩
 ·exact .inl ⟨rfl,rfl,(by trivial),h⟩
 ·exact .inr (.inl ⟨rfl,h⟩)
theorem putL {bx kk ki bnd:Nat} {Pst:List T5→Aa→Prop} {Br:Aa→Prop} {ps o:List T5} {X:Aa} {t u:T5} (s:MkS bx kk ki Pst Br bnd ps X t o) (ho:o=[u]) (hk:okT kk u):Ct AC 92 [pv bx,.agg #[Z9 Z8 u.c0,Z9 Z8 u.c1,Z9 Z8 u.c2,Z9 Z8 u.c3,Z9 Z8 u.c4]] [X] fun v H'=>∃X',H'=[X']∧((v=Z9 Z8 0∧Pst (ps++o) X')∨(v=Z9 Z8 6∧Br X')):=by
 subst ho;exact s.hP ps X u s.hX hk s.hb
theorem mL0 {C q r p:Prop} (s:r) (c:C) (k:q) (h:Ep r→Ep C→Ep q→p:=by
 intro s c k;refine Ct.intro c.get rfl rfl (nle rfl) fun _=>?_;dsimp only[Dg,AD];repeat(refine st ?_;intros)
 exact Dn.post (vs:=[Z9 Z8 0]) rfl (hR:=mkNoR k.get s.get.hX)):p:=h ⟨s⟩ ⟨c⟩ ⟨k⟩
theorem oI {u:T5} {p:Prop} (ti:Bd u.c0∧Bd u.c1∧Bd u.c2∧Bd u.c3∧Bd u.c4) (h:Ep (Bd u.c0∧Bd u.c1∧Bd u.c2∧Bd u.c3∧Bd u.c4)→p:=by
 intro ti;have ti:=ti.get;first|exact ti.1|exact ti.2.1|exact ti.2.2.1|exact ti.2.2.2.1|exact ti.2.2.2.2|exact He|exact Ol|exact Om|exact Oo _|assumption|(unfold Bd at*;omega)):p:=h ⟨ti⟩
theorem mL1 {C q r p:Prop} (s:r) (c:C) (k:q) (h:Ep r→Ep C→Ep q→p:=by
 intro s c k;have ti:=Dx s.get.hk;have hk:=s.get.hk;refine Ct.intro c.get rfl rfl (nle rfl) fun _=>?_;dsimp only[Dg,AD];repeat(refine st ?_;intros)
 refine R.callV (hct:=by exact putL s.get k.get (by first|exact hk|exact okT1 (oI ti)|exact Ht (oI ti) (oI ti)|exact Jd (oI ti) (oI ti) (oI ti)|exact okT4 (oI ti) (oI ti) (oI ti) (oI ti))) (h:=?_);rintro _ _ ⟨X',rfl,⟨rfl,hX'⟩|⟨rfl,hB⟩⟩
 ·repeat(refine st ?_;intros)
  exact Dn.post (vs:=[Z9 Z8 0]) rfl (hR:=mkOkR hX')
 ·repeat(refine st ?_;intros)
  exact Dn.post (vs:=[Z9 Z8 6]) rfl (hR:=mkBrR hB)):p:=h ⟨s⟩ ⟨c⟩ ⟨k⟩
theorem aU (x y:Int):(if Ef x y≠0 then Ef x y else 0)<0↔x<y:=by unfold Ef;split<;>(repeat' split)<;>omega
theorem Pb (a b:T5):ltO o1 a b=true↔a.c0<b.c0:=by
 have hf:Gj o1=true:=by decide
 unfold ltO Da;rw[decide_eq_true_iff,if_pos hf];exact aU a.c0 b.c0
theorem jF (x y z w:Int):(if Ef x y≠0 then Ef x y else if Ef z w≠0 then Ef z w else 0)<0↔x<y∨x=y∧z<w:=by unfold Ef;(repeat' split)<;>omega
theorem Qm (a b:T5):ltO o12 a b=true↔a.c0<b.c0∨a.c0=b.c0∧a.c1<b.c1:=by
 have hf:Gj o12=true:=by decide
 unfold ltO Da;rw[decide_eq_true_iff,if_pos hf];exact jF a.c0 b.c0 a.c1 b.c1
theorem vN (once:Bool) (l:List T5):(srt (ltO o12) once l).Pairwise fun a c=>a.c0<c.c0∨a.c0=c.c0∧(if once then a.c1<c.c1 else a.c1≤c.c1):=by
 refine(Lk (Eg o12) once l).imp fun {a b} h=>?_;cases once with
 |true=>
  simp only[if_true] at h⊢;exact(Qm a b).1 h
 |false=>
  simp only[CI,if_false] at h⊢;have h1:¬ltO o12 b a=true:=by rw[h];decide
  rw[Qm] at h1;omega
theorem Ul (l:List T5):(srt (ltO o1) false l).Pairwise fun a c=>a.c0≤c.c0:=by
 refine(Lk (Eg o1) false l).imp fun {a b} h=>?_;have h1:¬ltO o1 b a=true:=by intro h2;simp only[CI,if_false] at h;rw[h] at h2;cases h2
 rw[Pb] at h1;omega
theorem aV {o:T5} {once:Bool} {l:List T5} {z:T5} (h:z∈l):∃w∈srt (ltO o) once l,eqv (ltO o) z w=true:=by
 have h1:=Ws (Eg o) once l z;have hz:eqv (ltO o) z z=true:=by
  rw[Gv];have:ltO o z z=false:=by
   cases h2:ltO o z z with
   |false=>rfl
   |true=>have:=(Eg o).asym z z h2;rw[h2] at this;cases this
  exact⟨this,this⟩
 have h2:z∈l.filter (eqv (ltO o) z):=BV.2 ⟨h,hz⟩;cases h3:(srt (ltO o) once l).filter (eqv (ltO o) z) with
 |nil=>
  exfalso;rw[h3] at h1;cases h4:l.filter (eqv (ltO o) z) with
  |nil=>rw[h4] at h2;cases h2
  |cons a b=>
   rw[h4] at h1;cases once<;>simp[Gk] at h1
 |cons a b=>
  have h4:a∈(srt (ltO o) once l).filter (eqv (ltO o) z):=by rw[h3];exact AE
  obtain⟨h5,h6⟩:=BV.1 h4;exact⟨a,h5,h6⟩
end Go.Proofs.YtaofijjjheiknaaGreat
