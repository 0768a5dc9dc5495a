/-
  Parts of the proof, put together (9). No condition.
-/
import Derived.Test.YtaofijjjheiknaaGreatQ8
set_option linter.unusedVariables false
set_option linter.unusedSimpArgs false
set_option linter.unnecessarySimpa false
set_option maxHeartbeats 4000000
open Bool renaming false_eq_true→CE
open Go.IntKind renaming wrap→AL
open Go.Proofs.Tryz renaming prog→AC
open List renaming cons_append→AA,nil_append→AB,mem_cons_self→AE,mem_cons_of_mem→AF,getElem?_eq_getElem→AG,length_append→AH,getElem?_eq_some_iff→AK,mem_cons→AM,mem_map→AN,append_nil→AQ,length_map→AR,mem_append→AS,append_assoc→AT,flatten_cons→AX,mem_of_getElem?→AY,map_append→A0,flatten_append→A3,flatten_nil→A4,take_of_length_le→A6,count_append→A8,pairwise_iff_getElem→A9,mem_append_left→BN,drop_eq_getElem_cons→BO,take_add_one→BP,mem_iff_getElem→B3,perm_middle→B4,singleton_append→CA,filter_append→CD,map_map→CH,drop_zero→CX,find?_eq_none→DY,take_length→D4
open Nat renaming reduceAdd→AD,le_refl→AI,zero_le→AU,le_trans→A5,div_le_div_right→B5,lt_trichotomy→CK,add_le_add_right→DP
open Option.some renaming inj→BC,injEq→BG
open Go.Proofs.Tryz
open Go.Value renaming int→Z9
open Go.IntKind renaming i64→Z8
namespace Go.Proofs.YtaofijjjheiknaaGreat
open Go.SL Go.Spc Go.Tup Go.Srt
theorem Ea.take1 {p:Jp} {J:Jb} {held:List (Fl×List T5)} {W W':Wk} {cd ca cs:Aa} (h:Ea p J held W) (hW:Wc p.bd p.ba p.bs W cd ca cs) {f:Fl} {us:List T5} {l1 l2:List (Fl×List T5)} (he:held=l1++(f,us)::l2) (hδ:W'.δ=W.δ) (hα:W'.α=W.α) (hn:W'.σ.n=W.σ.n) (hb:Go.Spc.big W.σ.free≤Go.Spc.big W'.σ.free) (hl:W'.live.Perm (Au ((l1++l2).map (·.1)) p.L0)) {G':List (Fl×List T5)} (hG:J.e=0→∃ts,J.G.Perm ((f,ts)::G')):Ea p ⟨J.e,J.er,G',J.acts,J.took⟩ (l1++l2) W':=by
 refine⟨by rw[hα];exact h.gs,by rw[hα];exact h.room,by rw[hδ];exact h.size,hn.trans h.n,hl,?_,?_,by rw[hδ];exact h.keep,by rw[hδ];exact h.flt,by rw[hδ];exact h.acts,A5 h.tk (DP hb _),fun e0=>?_,h.why⟩
 ·intro x hx;rw[hδ];refine h.files x ?_;rw[he];simp only[AS,AM] at hx⊢;rcases hx with h|h
  ·exact .inl h
  ·exact .inr (.inr h)
 ·have:=h.len;rw[he] at this;simp at this⊢;omega
 ·obtain⟨h1,h2⟩:=h.ok e0;obtain⟨ts,h3⟩:=hG e0;have h4:(f,ts)∈held:=h1.mem_iff.2 (h3.mem_iff.2 AE);obtain rfl:=h.uniq hW he h4;have h5:=h1.trans h3;rw[he] at h5;exact⟨(B4.symm.trans h5).cons_inv,h2⟩
structure JFreeX where
 k:Nat
 held:List (Fl×List T5)
 ph:Option Addr
 cap:Nat
 ch:Aa
 cs:Aa
 W:Wk
theorem uJ {α:Type} {l:List α} {i:Nat} {x:α} (h:l[i]? =some x):∃l1 l2,l=l1++x::l2∧l1.length=i:=by obtain⟨hi,rfl⟩:=AK.1 h;exact⟨l.take i,l.drop (i+1),by rw[←BO hi,List.take_append_drop],by simp;omega⟩
theorem uK (l1 l2:List Fl) (f:Fl) (rest:List Value):((Ai (l1++f::l2)++rest).drop ((l1.length+1)*4)).take (l2.length*4)=Ai l2:=by
 rw[Ls,Wf,←AT,AT (Ai l1++fl4 f)];have h1:(Ai l1++fl4 f).length=(l1.length+1)*4:=by rw[AH,Lu];simp[fl4];omega
 rw[←h1,List.drop_left];rw[←Lu,List.take_left]
theorem uL (l1 l2:List Fl) (rest:List Value):Ai (l1++l2)++rest=Ai l1++(Ai l2++rest):=by rw[Ls,AT]
theorem uM (l:List Fl):(Ai l).all Value.oneCell'=true:=by
 induction l with
 |nil=>rfl
 |cons f l ih=>rw[Wf,List.all_append,ih];rfl
theorem uN (p:Jp) (hp:p.Ok) (J:Jb) (ab:List (Fl×List T5)) (W0:Wk) (cd ca av:Aa) (bv:Wc p.bd p.ba p.bs W0 cd ca av) (ax:Ea p J ab W0) (au:Option Addr) (ae:Nat) (aw:Aa) (bu:Vec 42 4 au ab.length ae (Ai (ab.map (·.1))) aw) (fs:List Fl) (fts G':List (Fl×List T5)) (hG:J.e=0→J.G.Perm (fts++G')∧fs=fts.map (·.1)) (cw:fs.length≤1000) (pa:Option Addr) (cap:Nat) (cf:Aa) (bz:Vec 42 4 pa fs.length cap (Ai fs) cf):Ct AC 114 [pv p.bj,.slice pa fs.length cap] [Bp p.bj p.bw J.e au ab.length ae,aw,Ab p.bw p.bd p.ba p.bs,av,cf] fun v H'=> ∃held ph cap' ch cs W,v= .tuple #[]∧H'=[Bp p.bj p.bw J.e ph held.length cap',ch,Ab p.bw p.bd p.ba p.bs,cs,cf]∧Wc p.bd p.ba p.bs W cd ca cs∧Vec 42 4 ph held.length cap' (Ai (held.map (·.1))) ch∧Ea p ⟨J.e,J.er,G',J.acts,J.took⟩ held W:=by
 unfold Bp;refine cG func114 fun _=>?_;repeat(refine sv ?_;intros)
 refine G.loop (X:=JFreeX) (fun x=>x.k≤fs.length∧Wc p.bd p.ba p.bs x.W cd ca x.cs∧Vec 42 4 x.ph x.held.length x.cap (Ai (x.held.map (·.1))) x.ch∧Ea p ⟨J.e,J.er,fts.drop x.k++G',J.acts,J.took⟩ x.held x.W)
  (fun x=>[(10,Z9 Z8 x.k),(9,Z9 Z8 fs.length),(8,.slice pa fs.length cap),(0,pv p.bj)])
  (fun x=>[[(p.bj,row [pv p.bw,Z9 Z8 J.e,.slice x.ph x.held.length x.cap] 98)],x.ch,Ab p.bw p.bd p.ba p.bs,x.cs,cf]) (fun x=>fs.length-x.k) ⟨0,ab,au,ae,aw,av,W0⟩
  ⟨AU _,bv,bu,{ax with ok:=fun e0=>⟨(ax.ok e0).1.trans (by simpa using(hG e0).1),(ax.ok e0).2⟩}⟩ (body:=?_)
 rintro⟨k,held,ph,aa,ch,cs,W⟩ ⟨hk,hW,hV,hJ⟩;dsimp only at hk hW hV hJ⊢;have cj:=hJ.len;by_cases ag:k<fs.length
 ·obtain⟨fb,ah,rfl,rfl,cz,c5,hfm⟩:∃b rest,pa=some ⟨b,0,none⟩∧cf=[(b,row (Ai fs++rest) 42)]∧cap*4≤(Ai fs).length+rest.length∧fs.length≤cap∧cap≤maxLen:=by
   rcases bz.2 with⟨_,e,_⟩|hh
   ·omega
   ·exact hh
  have b1:fs[k]? =some fs[k]:=AG ag;have ay:=Mp (rs:=fs.map fun f=>(f,[])) (rest:=ah) (j:=k) (r:=(fs[k],[])) (by simp[b1]);rw[CH] at ay;have b2:(fs.map ((fun x:Fl×List T5=>x.1)∘fun f=>(f,[])))=fs:=by simp[Function.comp_def]
  rw[b2] at ay;have a7:J.e=0→∃ts,(fts.drop k++G').Perm ((fs[k],ts)::(fts.drop (k+1)++G')):=by
   intro e0;obtain⟨_,h2⟩:=hG e0;have h3:k<fts.length:=by have:=congrArg List.length h2;rw[AR] at this;omega
   refine⟨fts[k].2,?_⟩;rw[BO h3];have h4:fs[k]=fts[k].1:=by simp[h2]
   rw[h4];exact .refl _
  generalize hf:fs[k]=f at*;generalize a8:Ai fs++ah=b3 at*;obtain⟨f1,f2,f3,f4⟩:=f;dsimp only at ay;have b4:held.length≤maxLen:=by simp only[maxLen];omega
  repeat(refine sv ?_;intros)
  rename_i b5;refine G.loop (X:=Nat) (fun i=>i≤held.length∧∀j x,j<i→held[j]? =some x→x.1≠⟨f1,f2,f3,f4⟩)
   (fun i=>[(19,Z9 Z8 i),(18,Z9 Z8 held.length),(17,.slice ph held.length aa),(5,pv b5),(10,Z9 Z8 k),(9,Z9 Z8 fs.length),(8,.slice (some ⟨fb,0,none⟩) fs.length cap),(0,pv p.bj)])
   (fun _=>[[(b5,row [Z9 Z8 f1,Z9 Z8 f2,Z9 Z8 f3,Z9 Z8 f4] 42)],[(p.bj,row [pv p.bw,Z9 Z8 J.e,.slice ph held.length aa] 98)],ch,Ab p.bw p.bd p.ba p.bs,cs,[(fb,row b3 42)]]) (fun i=>held.length-i) 0 ⟨AU _,fun j x h=>by omega⟩ (body:=?_)
  rintro i ⟨hi,a9⟩;by_cases bc:i<held.length
  ·obtain⟨vb,rest,rfl,rfl,b6,c6,c7⟩:∃b rest,ph=some ⟨b,0,none⟩∧ch=[(b,row (Ai (held.map (·.1))++rest) 42)]∧aa*4≤(Ai (held.map (·.1))).length+rest.length∧held.length≤aa∧aa≤maxLen:=by
    rcases hV.2 with⟨_,e,_⟩|hh
    ·omega
    ·exact hh
   have az:held[i]? =some held[i]:=AG bc;have be:=Mp (rest:=rest) az;generalize hx:held[i]=x at*;obtain⟨⟨x1,x2,x3,x4⟩,us⟩:=x;dsimp only at be;by_cases bf:x1=f1∧x2=f2∧x3=f3∧x4=f4
   ·obtain⟨rfl,rfl,rfl,rfl⟩:=bf;obtain⟨l1,l2,e1,a0⟩:=uJ az;have b7:W.live.Perm (Az ⟨x1,x2,x3,x4⟩ (Au ((l1++l2).map (·.1)) p.L0)):=by refine hJ.live.trans ((Ot (b:=⟨x1,x2,x3,x4⟩::(l1++l2).map (·.1)) ?_ _).trans (Np _ _ _));rw[e1];simp
    have hF:=Rs p.bw p.bd p.ba p.bs W cd ca cs hW ⟨x1,x2,x3,x4⟩ _ (Bm.add b7);have bg:flv ⟨x1,x2,x3,x4⟩= .agg #[Z9 Z8 x1,Z9 Z8 x2,Z9 Z8 x3,Z9 Z8 x4]:=rfl;rw[bg] at hF;have c8:held.length=i+1+l2.length:=by rw[e1];simp;omega
    have ao:(l1++l2).length=i+(held.length-(i+1)):=by rw[AH];omega
    have bh:held.map (·.1)=l1.map (·.1)++⟨x1,x2,x3,x4⟩::l2.map (·.1):=by rw[e1];simp
    have aq:(l1.map (·.1)).length=i:=by rw[AR];exact a0
    have ai:=uK (l1.map (·.1)) (l2.map (·.1)) ⟨x1,x2,x3,x4⟩ rest;have ad:=uL (l1.map (·.1)) (⟨x1,x2,x3,x4⟩::l2.map (·.1)) rest;rw[←bh] at ai ad;have bi:held.length-(i+1)=(l2.map (·.1)).length:=by rw[AR];omega
    rw[aq,←bi] at ai;have cm:(Ai (l2.map (·.1))).length=(held.length-(i+1))*4:=by rw[Lu,bi]
    have cu:=uM (l2.map (·.1));generalize bk:Ai (held.map (·.1))++rest=cells at*;have c9:aa*4≤cells.length:=by rw[←bk,AH];exact b6
    have b8:Vec 42 4 (some ⟨vb,0,none⟩) i i (Ai (l1.map (·.1))) [(vb,row cells 42)]:=by refine Vec.mk' ad (by rw[Lu,aq]) oM (AI _) oM
    have ei:((i:Int)+1).toNat=i+1:=oM;have a6:∀W',W'.δ=W.δ→W'.α=W.α→W'.σ.n=W.σ.n→big W.σ.free≤big W'.σ.free→W'.live=Au ((l1++l2).map (·.1)) p.L0→Ea p ⟨J.e,J.er,fts.drop (k+1)++G',J.acts,J.took⟩ (l1++l2) W':=by intro W' a1 a2 a3 a4 a5;exact hJ.take1 hW e1 a1 a2 a3 a4 (by rw[a5]) (fun e0=>a7 e0)
    by_cases cv:i+1<held.length
    ·repeat(refine sv ?_;intros)
     rename_i p' cap' bp b9;refine cL hF ?_;rintro _ _ ⟨cs',W',rfl,rfl,aj,ac,ak,al,am⟩;try dsimp only[AA,AB]
     repeat(refine sv ?_;intros)
     have an:Vec 42 4 p' (l1++l2).length cap' (Ai ((l1++l2).map (·.1))) bp:=by rw[ao,A0,Ls];exact b9
     rw[←ao];refine Dn.round ⟨k+1,l1++l2,p',cap',bp,cs',W'⟩ ⟨ag,aj,an,a6 W' ak al ac.n ac.big am⟩ oD
    ·have bq:held.length-(i+1)=0:=oM;obtain rfl:l2=[]:=List.length_eq_zero_iff.1 oM;have an:Vec 42 4 (some ⟨vb,0,none⟩) (l1++[]).length i (Ai ((l1++([]:List (Fl×List T5))).map (·.1))) [(vb,row cells 42)]:=by rw[AQ,a0];exact b8
     have hj:Value.slice (some ⟨vb,0,none⟩) i i= .slice (some ⟨vb,0,none⟩) (l1++([]:List (Fl×List T5))).length i:=by rw[AQ,a0]
     by_cases da:i+1<aa
     ·repeat(first|rw[bq]|(apply R.append0;exact rfl;exact rfl;exact AI _;exact rfl;exact nle rfl)|(refine st ?_;intros)|refine G.draw [] (h:=?_))
      refine cL hF ?_;rintro _ _ ⟨cs',W',rfl,rfl,aj,ac,ak,al,am⟩;try dsimp only[AA,AB]
      repeat(refine sv ?_;intros)
      rw[hj];refine Dn.round ⟨k+1,l1++[],some ⟨vb,0,none⟩,i,[(vb,row cells 42)],cs',W'⟩ ⟨ag,aj,an,a6 W' ak al ac.n ac.big am⟩ oD
     ·repeat(first|rw[bq]|(apply R.append0;exact rfl;exact rfl;exact AI _;exact rfl;exact nle rfl)|(refine st ?_;intros)|refine G.draw [] (h:=?_))
      refine cL hF ?_;rintro _ _ ⟨cs',W',rfl,rfl,aj,ac,ak,al,am⟩;try dsimp only[AA,AB]
      repeat(refine sv ?_;intros)
      rw[hj];refine Dn.round ⟨k+1,l1++[],some ⟨vb,0,none⟩,i,[(vb,row cells 42)],cs',W'⟩ ⟨ag,aj,an,a6 W' ak al ac.n ac.big am⟩ oD
   ·generalize bk:Ai (held.map (·.1))++rest=cells at*;repeat(refine sv ?_;intros)
    refine Dn.round (i+1) ⟨oM,fun j y hj hy=>?_⟩ oM;by_cases cg:j=i
    ·subst cg;rw[az] at hy;simp only[BG] at hy;subst hy;intro h0;simp only[Fl.mk.injEq] at h0;exact bf h0
    ·exact a9 j y oM hy
  ·have ci:J.e≠0:=by intro e0;obtain⟨ts,h1⟩:=a7 e0;have h2:((⟨f1,f2,f3,f4⟩,ts):Fl×List T5)∈held:=(hJ.ok e0).1.mem_iff.2 (h1.mem_iff.2 AE);obtain⟨j,hj,he⟩:=List.getElem_of_mem h2;exact a9 j _ oM (AG hj) (by rw[he])
   repeat(refine sv ?_;intros)
   refine Dn.round ⟨k+1,held,ph,aa,ch,cs,W⟩ ⟨ag,hW,hV,{hJ with ok:=fun e0=>absurd e0 ci}⟩ oD
 ·obtain rfl:k=fs.length:=by omega
  repeat(refine sv ?_;intros)
  (refine dE [[(p.bj,row [pv p.bw,Z9 Z8 J.e,.slice ph held.length aa] 98)],ch,Ab p.bw p.bd p.ba p.bs,cs,cf] ?_;refine⟨held,ph,aa,ch,cs,W,rfl,rfl,hW,hV,{hJ with ok:=fun e0=>?_}⟩);have h2:=congrArg List.length (hG e0).2;rw[AR] at h2;have h3:=hJ.ok e0;dsimp only at h3;rw[h2,List.drop_length,AB] at h3;exact h3
theorem JFree (p:Jp) (hp:p.Ok) (J:Jb) (C:Aa) (hJ:Fm p J C) (fs:List Fl) (fts G':List (Fl×List T5)) (hG:J.e=0→J.G.Perm (fts++G')∧fs=fts.map (·.1)) (ag:fs.length≤1000) (pa:Option Addr) (cap:Nat) (cf:Aa) (ah:Vec 42 4 pa fs.length cap (Ai fs) cf):Ct AC 114 [pv p.bj,.slice pa fs.length cap] [C,cf] fun v H'=>∃C',v= .tuple #[]∧H'=[C',cf]∧Fm p ⟨J.e,J.er,G',J.acts,J.took⟩ C':=by
 obtain⟨W,cd,ca,cs,held,ph,ac,ch,rfl,hW,hV,ai⟩:=hJ;refine Ct.convP (Ct.wide (uN p hp J held W cd ca cs hW ai ph ac ch hV fs fts G' hG ag pa cap cf ah) [cd,ca]) (by unfold Bv;refine Cp fun z=>?_;simp only[AX,A4,AQ,A3,A8];omega) ?_;rintro v H' ⟨H1,⟨aa,ad,ab,ae,cs',W',rfl,rfl,aj,ak,al⟩,rfl⟩;refine⟨[Bv p J.e cd ca cs' ad aa.length ab ae,cf],⟨_,rfl,rfl,W',cd,ca,cs',aa,ad,ab,ae,rfl,aj,ak,al⟩,?_⟩;unfold Bv;refine Cp fun z=>?_;simp only[AX,A4,AQ,A3,A8];omega
def Wg (p:Jp) (W:Wk) (A T:Nat) (er:Option Nat) (ts:List T5) (R:Fl→Int→Hp→Prop) (jr:Aa) (v:Value) (H':Hp):Prop:=∃f e aa ab cs' W' ac,v= .tuple #[flv f,Z9 Z8 e]∧
 H'=jr::Ab p.bw p.bd p.ba p.bs::aa::ab::cs'::ac∧Wc p.bd p.ba p.bs W' aa ab cs'∧Hz p W W' A T er ts f e∧R f e ac
def Er (p:Jp) (J:Jb) (mk:Nat) (us:List Value) (Hx:Hp) (A T:Nat) (er:Option Nat) (ts:List T5) (R:Fl→Int→Hp→Prop):Prop:=
 ∀W cd ca cs held ph cap,Wc p.bd p.ba p.bs W cd ca cs→Ea p J held W→
  Ct AC mk us (Bp p.bj p.bw 0 ph held.length cap::Ab p.bw p.bd p.ba p.bs::cd::ca::cs::Hx) (Wg p W A T er ts R (Bp p.bj p.bw 0 ph held.length cap))
theorem JRun (p:Jp) (hp:p.Ok) (J:Jb) (C:Aa) (hJ:Fm p J C) (mk:Nat) (ak:Callable AC mk) (us:List Value) (Hx:Hp) (A T:Nat) (er:Option Nat) (ts:List T5) (R:Fl→Int→Hp→Prop) (ao:J.e=0→Er p J mk us Hx A T er ts R) (ax:J.G.length≤1000):Ct AC 60 [pv p.bj,.func (.func mk) #[] us.toArray] (C::Hx) fun v H'=>∃f C' e' Hx',v=flv f∧H'=C'::Hx'∧Fm p ⟨e',J.er.or er,(f,ts)::J.G,J.acts+A,J.took+T⟩ C'∧((J.e=0∧R f e' Hx')∨(J.e≠0∧e'=J.e∧f=⟨0,0,0,0⟩∧Hx'=Hx)):=by
 obtain⟨W,cd,ca,cs,held,ph,aa,ch,rfl,hW,ah,ad⟩:=hJ;by_cases he:J.e=0
 ·have hG:=ad.ok he;have hS:=ao he W cd ca cs held ph aa hW ad;have aq:Ct AC mk us [Bp p.bj p.bw 0 ph held.length aa,([Ab p.bw p.bd p.ba p.bs,cd,ca,cs]++Hx).flatten] (StepR (Bp p.bj p.bw 0 ph held.length aa) fun f e al=>∃ab ac cs' W' Hx',al=([Ab p.bw p.bd p.ba p.bs,ab,ac,cs']++Hx').flatten∧
    Wc p.bd p.ba p.bs W' ab ac cs'∧Hz p W W' A T er ts f e∧R f e Hx'):=by
   refine Ct.convP hS oA19 ?_;rintro v H' ⟨f,e,ab,ac,cs',W',Hx',rfl,rfl,ae,ai,hR⟩;exact⟨[Bp p.bj p.bw 0 ph held.length aa,([Ab p.bw p.bd p.ba p.bs,ab,ac,cs']++Hx').flatten],⟨f,e,_,rfl,rfl,ab,ac,cs',W',Hx',rfl,ae,ai,hR⟩,by simp⟩
  have aj:=uF p.bj p.bw ph held.length aa _ ch ah (by have:=ad.len;omega) mk ak us _ _ aq;refine Ct.convP aj (by rw[he];unfold Bv;refine Cp fun z=>?_;simp only[AX,A4,AQ,A3,A8];omega) ?_;rintro v H' ⟨f,e,al,rfl,⟨ab,ac,cs',W',Hx',rfl,ae,ai,hR⟩,hc⟩;have au:held.length<100000:=by have h2:=hG.1.length_eq;omega
  have am:=ad.step he ai au;rcases hc with⟨rfl,p',ag,an,rfl,av⟩|⟨aw,rfl⟩
  ·refine⟨Bv p 0 ab ac cs' p' (held.length+1) ag an::Hx',⟨f,_,0,Hx',rfl,rfl,⟨W',ab,ac,cs',held++[(f,ts)],p',ag,an,by simp,ae,?_,by simpa using am⟩,.inl ⟨he,hR⟩⟩,?_⟩
   ·simpa using av
   ·unfold Bv;refine Cp fun z=>?_;simp only[AX,A4,AQ,A3,A8];omega
  ·refine⟨Bv p e ab ac cs' ph held.length aa ch::Hx',⟨f,_,e,Hx',rfl,rfl,⟨W',ab,ac,cs',held,ph,aa,ch,rfl,ae,ah,by simpa[aw] using am⟩,.inl ⟨he,hR⟩⟩,?_⟩;unfold Bv;refine Cp fun z=>?_;simp only[AX,A4,AQ,A3,A8];omega
 ·have aj:=Ct.wide (Run_no p.bj p.bw J.e he ph held.length aa (.func (.func mk) #[] us.toArray)) ([Ab p.bw p.bd p.ba p.bs,cd,ca,cs,ch]++Hx);refine Ct.convP aj (by unfold Bv;refine Cp fun z=>?_;simp only[AX,A4,AQ,A3,A8];omega) ?_;rintro v H' ⟨H1,⟨rfl,rfl⟩,rfl⟩;refine⟨Bv p J.e cd ca cs ph held.length aa ch::Hx,⟨⟨0,0,0,0⟩,_,J.e,Hx,rfl,rfl,⟨W,cd,ca,cs,held,ph,aa,ch,rfl,hW,ah,ad.idle he _ _ _ _⟩,.inr ⟨he,rfl,rfl,rfl⟩⟩,?_⟩;unfold Bv;refine Cp fun z=>?_;simp only[AX,A4,AQ,A3,A8];omega
structure Sb (p:Jp) (J:Jb) (rs:List Fl) (W:Wk):Prop where
 gs:W.α.gs.Perm p.gs
 room:W.α.room=p.room
 size:W.δ.size=p.size
 n:W.σ.n=p.n
 keep:∀x,inF p.L0 x→W.δ.disk x=p.D0 x
 flt:¬p.fl→W.δ.fault= -1
 acts:W.δ.acts≤J.acts
 tk:p.b0≤big W.σ.free+J.took
 good:J.e=0→∀G1 G2,J.G.Perm (G1++G2)→rs=G1.map (·.1)→W.live.Perm (Au rs p.L0)∧(∀x∈G1,Be W.δ.disk p.size [x.1.ext] x.1 x.2)∧J.er=none
 bad:J.e≠0→W.live.Perm p.L0∧((J.e=6∧p.fl)∨∃m:Nat,J.er=some m∧J.e=(m:Int))
structure ResX where
 k:Nat
 cs:Aa
 W:Wk
def Ju (e:Int) (rs:List Fl) (x:Fl×List T5):Bool:=decide (e=0)&&rs.contains x.1
theorem iN:∀(fs:List Fl) (L:List Ext),(∀f∈fs,f.blocks=0)→Au fs L=L
 |[],_,_=>rfl
 |f::fs,L,h=>by
  have h1:Au (f::fs) L=Au fs (Az f L):=rfl;rw[h1];have h2:Az f L=L:=by unfold Az;rw[if_pos (h f AE)]
  rw[h2];exact iN fs L fun g hg=>h g (AF _ hg)
theorem uO (a b:List Fl) (L:List Ext):Au (a++b) L=Au b (Au a L):=by simp[Au]
theorem uP {α:Type} {q:α→Bool} {l:List α} {k:Nat} {x:α} (h:l[k]? =some x):(l.take (k+1)).filter q=(l.take k).filter q++(if q x then[x] else[]):=by rw[BP,h,CD];simp only[Option.toList_some,List.filter_cons,List.filter_nil]
theorem uQ (p:Jp) (hp:p.Ok) (J:Jb) (held:List (Fl×List T5)) (W0:Wk) (cd ca ak:Aa) (ay:Wc p.bd p.ba p.bs W0 cd ca ak) (ab:Ea p J held W0) (ph:Option Addr) (aa:Nat) (ch:Aa) (hV:Vec 42 4 ph held.length aa (Ai (held.map (·.1))) ch) (rs:List Fl) (bg:rs.length≤1000) (pa:Option Addr) (cap:Nat) (cf:Aa) (a6:Vec 42 4 pa rs.length cap (Ai rs) cf):Ct AC 66 [pv p.bj,.slice pa rs.length cap] [Bp p.bj p.bw J.e ph held.length aa,ch,Ab p.bw p.bd p.ba p.bs,ak,cf] fun v H'=> ∃cs W,v=Z9 Z8 J.e∧H'=[Ab p.bw p.bd p.ba p.bs,cs,cf]∧Wc p.bd p.ba p.bs W cd ca cs∧Sb p J rs W:=by
 unfold Bp;have bf:=ab.len;refine cG func66 fun _=>?_;repeat(refine sA ?_;intros)
 refine G.loop (X:=ResX) (fun x=>x.k≤held.length∧Wc p.bd p.ba p.bs x.W cd ca x.cs∧x.W.δ=W0.δ∧x.W.α=W0.α∧x.W.σ.n=W0.σ.n∧big W0.σ.free≤big x.W.σ.free∧x.W.live.Perm (Au (((held.take x.k).filter (Ju J.e rs)++held.drop x.k).map (·.1)) p.L0))
  (fun x=>[(15,Z9 Z8 x.k),(14,Z9 Z8 held.length),(13,.slice ph held.length aa),(1,.slice pa rs.length cap),(0,pv p.bj)])
  (fun x=>[[(p.bj,row [pv p.bw,Z9 Z8 J.e,.slice ph held.length aa] 98)],ch,Ab p.bw p.bd p.ba p.bs,x.cs,cf]) (fun x=>held.length-x.k) ⟨0,ak,W0⟩
  ⟨AU _,ay,rfl,rfl,rfl,AI _,by simpa using ab.live⟩ (body:=?_)
 rintro⟨k,cs,W⟩ ⟨hk,hW,hδ,hα,hσ,ad,hl⟩;dsimp only at hk hW hδ hα hσ ad hl⊢;by_cases ae:k<held.length
 ·obtain⟨vb,rest,rfl,rfl,bh,bi,bk⟩:∃b rest,ph=some ⟨b,0,none⟩∧ch=[(b,row (Ai (held.map (·.1))++rest) 42)]∧aa*4≤(Ai (held.map (·.1))).length+rest.length∧held.length≤aa∧aa≤maxLen:=by
   rcases hV.2 with⟨_,e,_⟩|hh
   ·omega
   ·exact hh
  have az:held[k]? =some held[k]:=AG ae;have a0:=Mp (rest:=rest) az;have ac:=uP (q:=Ju J.e rs) az;have a1:=BO ae;generalize bp:Ai (held.map (·.1))++rest=cells at*;generalize hx:held[k]=x at*;obtain⟨⟨x1,x2,x3,x4⟩,us⟩:=x;dsimp only at a0;have ag:Ju J.e rs (⟨x1,x2,x3,x4⟩,us)=false→W.live.Perm (Az ⟨x1,x2,x3,x4⟩ (Au (((held.take (k+1)).filter (Ju J.e rs)++held.drop (k+1)).map (·.1)) p.L0)):=by intro hs;rw[hs] at ac;simp only[CE,if_false,AQ] at ac;rw[a1] at hl;refine hl.trans ((Ot (b:=⟨x1,x2,x3,x4⟩::(((held.take (k+1)).filter (Ju J.e rs)++held.drop (k+1)).map (·.1))) ?_ _).trans (Np _ _ _));rw[ac];simp only[A0,List.map_cons];exact B4
  have al:Ju J.e rs (⟨x1,x2,x3,x4⟩,us)=true→W.live.Perm (Au (((held.take (k+1)).filter (Ju J.e rs)++held.drop (k+1)).map (·.1)) p.L0):=by intro hs;rw[hs] at ac;simp only[if_true] at ac;rw[a1] at hl;rw[ac,AT,CA];exact hl
  have hF:=fun Lv hl=>Rs p.bw p.bd p.ba p.bs W cd ca cs hW ⟨x1,x2,x3,x4⟩ Lv hl;have a2:flv ⟨x1,x2,x3,x4⟩= .agg #[Z9 Z8 x1,Z9 Z8 x2,Z9 Z8 x3,Z9 Z8 x4]:=rfl;rw[a2] at hF;repeat(refine sA ?_;intros)
  rename_i b6;refine G.loop (X:=Nat×Bool) (fun y=>y.1≤rs.length∧y.2=dec ((⟨x1,x2,x3,x4⟩:Fl)∈rs.take y.1))
   (fun y=>[(21,Z9 Z8 y.1),(20,Z9 Z8 rs.length),(19,.slice pa rs.length cap),(7,.bool y.2),(6,pv b6),(15,Z9 Z8 k),(14,Z9 Z8 held.length),(13,.slice (some ⟨vb,0,none⟩) held.length aa),(1,.slice pa rs.length cap),(0,pv p.bj)])
   (fun _=>[[(b6,row [Z9 Z8 x1,Z9 Z8 x2,Z9 Z8 x3,Z9 Z8 x4] 42)],[(p.bj,row [pv p.bw,Z9 Z8 J.e,.slice (some ⟨vb,0,none⟩) held.length aa] 98)],[(vb,row cells 42)],Ab p.bw p.bd p.ba p.bs,cs,cf]) (fun y=>rs.length-y.1) (0,false) ⟨AU _,(Jq oA19).symm⟩ (body:=?_)
  rintro⟨m,b⟩ ⟨hm,hb⟩;dsimp only at hm hb⊢;by_cases ah:m<rs.length
  ·obtain⟨fb,ai,rfl,rfl,bq,bu,hfm⟩:∃b rest,pa=some ⟨b,0,none⟩∧cf=[(b,row (Ai rs++rest) 42)]∧cap*4≤(Ai rs).length+rest.length∧rs.length≤cap∧cap≤maxLen:=by
    rcases a6.2 with⟨_,e,_⟩|hh
    ·omega
    ·exact hh
   have a3:rs[m]? =some rs[m]:=AG ah;have am:=Mp (rs:=rs.map fun f=>(f,[])) (rest:=ai) (j:=m) (r:=(rs[m],[])) (by simp[a3]);rw[CH] at am;have a7:(rs.map ((fun x:Fl×List T5=>x.1)∘fun f=>(f,[])))=rs:=by simp[Function.comp_def]
   rw[a7] at am;have a4:(⟨x1,x2,x3,x4⟩:Fl)∈rs.take (m+1)↔(⟨x1,x2,x3,x4⟩:Fl)∈rs.take m∨(⟨x1,x2,x3,x4⟩:Fl)=rs[m]:=by rw[BP,a3,AS];simp
   generalize hf:rs[m]=f at*;generalize a5:Ai rs++ai=bv at*;obtain⟨f1,f2,f3,f4⟩:=f;dsimp only at am;cases b with
   |true=>
    repeat(refine sA ?_;intros)
    refine Dn.round (m+1,true) ⟨ah,(Dt (a4.2 (.inl (Ur.1 hb.symm)))).symm⟩ oD
   |false=>
    have a8:¬(⟨x1,x2,x3,x4⟩:Fl)∈rs.take m:=fun h=>by rw[Dt h] at hb;cases hb
    repeat(refine sA ?_;intros)
    refine Dn.round (m+1,dec ((f1:Int)=(x1:Int)∧(f2:Int)=(x2:Int)∧(f3:Int)=(x3:Int)∧(f4:Int)=(x4:Int))) ⟨ah,nT ?_⟩ oD;rw[a4,Fl.mk.injEq];constructor
    ·intro h;exact .inr oM
    ·rintro(h|h)
     ·exact absurd h a8
     ·omega
  ·obtain rfl:m=rs.length:=by omega
   rw[D4] at hb;have an:Ju J.e rs (⟨x1,x2,x3,x4⟩,us)=(decide (J.e=0)&&b):=by unfold Ju;rw[hb,Gc];congr 1;rw[Bool.eq_iff_iff];simp
   cases b with
   |true=>
    by_cases he:J.e=0
    ·have hs:=al (by rw[an,decide_eq_true he];rfl);repeat(refine sA ?_;intros)
     refine Dn.round ⟨k+1,cs,W⟩ ⟨ae,hW,hδ,hα,hσ,ad,hs⟩ oD
    ·have hs:=hF _ (Bm.add (ag (by rw[an,decide_eq_false he];rfl)));repeat(refine sA ?_;intros)
     refine cL hs ?_;rintro _ _ ⟨cs',W',rfl,rfl,ao,aj,aq,au,av⟩;repeat(refine sA ?_;intros)
     refine Dn.round ⟨k+1,cs',W'⟩ ⟨ae,ao,aq.trans hδ,au.trans hα,aj.n.trans hσ,A5 ad aj.big,by rw[av]⟩ oD
   |false=>
    have hs:=hF _ (Bm.add (ag (by rw[an,Bool.and_false])));repeat(refine sA ?_;intros)
    refine cL hs ?_;rintro _ _ ⟨cs',W',rfl,rfl,ao,aj,aq,au,av⟩;repeat(refine sA ?_;intros)
    refine Dn.round ⟨k+1,cs',W'⟩ ⟨ae,ao,aq.trans hδ,au.trans hα,aj.n.trans hσ,A5 ad aj.big,by rw[av]⟩ oD
 ·obtain rfl:k=held.length:=by omega
  rw[D4,List.drop_length,AQ] at hl;repeat(refine sA ?_;intros)
  (refine dP [Ab p.bw p.bd p.ba p.bs,cs,cf] ?_;refine⟨cs,W,rfl,rfl,hW,?_⟩);refine⟨by rw[hα];exact ab.gs,by rw[hα];exact ab.room,by rw[hδ];exact ab.size,hσ.trans ab.n,by rw[hδ];exact ab.keep,by rw[hδ];exact ab.flt,by rw[hδ];exact ab.acts,A5 ab.tk (DP ad _),?_,?_⟩
  ·rintro e0 G1 G2 hG rfl;obtain⟨g1,g2⟩:=ab.ok e0;have aw:=g1.trans hG;refine⟨?_,fun x hx=>by rw[hδ];exact ab.files x (aw.mem_iff.2 (BN _ hx)),g2⟩;refine hl.trans ((Ot ((aw.filter _).map _) _).trans ?_);have h1:G1.filter (Ju J.e (G1.map (·.1)))=G1:=List.filter_eq_self.2 fun x hx=>by unfold Ju;rw[decide_eq_true e0,Bool.true_and];simp only[List.contains_iff_mem];exact AN.2 ⟨x,hx,rfl⟩
   rw[CD,h1,A0,uO,iN];intro f hf;obtain⟨y,hy,rfl⟩:=AN.1 hf;obtain⟨a9,ax⟩:=List.mem_filter.1 hy;unfold Ju at ax;rw[decide_eq_true e0,Bool.true_and,List.contains_iff_mem] at ax;obtain⟨x,bc,be⟩:=AN.1 ax;by_cases hb:y.1.blocks=0
   ·exact hb
   ·exfalso;obtain⟨a,b,rfl⟩:=List.append_of_mem a9;have h3:W0.live.Perm (y.1.ext::Au ((G1++(a++b)).map (·.1)) p.L0):=by
     refine ab.live.trans ((Ot (b:=y.1::(G1++(a++b)).map (·.1)) ?_ _).trans ((Np _ _ _).trans ?_))
     ·refine(aw.map _).trans ?_;rw[←AT];refine(List.perm_middle.map _).trans ?_;rw[AT];exact .refl _
     ·unfold Az;rw[if_neg hb]
    have h5:=ay.live.perm h3;have h6:y.1.ext∈Au ((G1++(a++b)).map (·.1)) p.L0:=Ru (AN.2 ⟨x,BN _ bc,be⟩) hb;have h7:=List.rel_of_pairwise_cons h5.apart h6;have h8:y.1.ext.2=y.1.blocks:=rfl;omega
  ·intro e0;refine⟨?_,ab.why e0⟩;have h1:held.filter (Ju J.e rs)=[]:=List.filter_eq_nil_iff.2 fun x _=>by unfold Ju;rw[decide_eq_false e0];simp
   rw[h1] at hl;exact hl
theorem iO (p:Jp) (hp:p.Ok) (J:Jb) (C:Aa) (hJ:Fm p J C) (rs:List Fl) (ab:rs.length≤1000) (pa:Option Addr) (cap:Nat) (cf:Aa) (ac:Vec 42 4 pa rs.length cap (Ai rs) cf):Ct AC 66 [pv p.bj,.slice pa rs.length cap] [C,cf] fun v H'=>∃cd ca cs W,v=Z9 Z8 J.e∧H'=[Ab p.bw p.bd p.ba p.bs,cd,ca,cs,cf]∧Wc p.bd p.ba p.bs W cd ca cs∧Sb p J rs W:=by
 obtain⟨W,cd,ca,cs,held,ph,aa,ch,rfl,hW,hV,ad⟩:=hJ;refine Ct.convP (Ct.wide (uQ p hp J held W cd ca cs hW ad ph aa ch hV rs ab pa cap cf ac) [cd,ca]) (by unfold Bv;refine Cp fun z=>?_;simp only[AX,A4,AQ,A3,A8];omega) ?_;rintro v H' ⟨H1,⟨cs',W',rfl,rfl,ae,hD⟩,rfl⟩;refine⟨[Ab p.bw p.bd p.ba p.bs,cd,ca,cs',cf],⟨cd,ca,cs',W',rfl,rfl,ae,hD⟩,?_⟩;refine Cp fun z=>?_;simp only[AX,A4,AQ,A3,A8];omega
structure BegX where
 k:Nat
 ca:Aa
 α:Ar
theorem uR {fs:List Fl} {rest:List Value} {j:Nat} {f:Fl} (h:fs[j]? =some f):((Ai fs++rest).drop (j*4)).take 4=[Z9 Z8 f.first,Z9 Z8 f.blocks,Z9 Z8 f.width,Z9 Z8 f.count]:=by
 have aa:=Mp (rs:=fs.map fun f=>(f,[])) (rest:=rest) (j:=j) (r:=(f,[])) (by simp[h]);rw[CH] at aa;have ab:(fs.map ((fun x:Fl×List T5=>x.1)∘fun f=>(f,[])))=fs:=by simp[Function.comp_def]
 rw[ab] at aa;exact aa
theorem vecpos {E sz:Nat} {p:Option Addr} {m cap:Nat} {xs:List Value} {c:Aa} (h:Vec E sz p m cap xs c) (hm:0<m):∃b rest,p=some ⟨b,0,none⟩∧c=[(b,row (xs++rest) E)]∧cap*sz≤xs.length+rest.length∧m≤cap∧cap≤maxLen:=by
 rcases h.2 with⟨_,e,_⟩|hh
 ·omega
 ·exact hh
theorem aA (bw bd ba bs:Nat) (W:Wk) (cd ca cs:Aa) (h:Wc bd ba bs W cd ca cs) (l:List (Fl×List T5)) (hl:∀x∈l,Ce W x) (a7:l.length≤1000) (pa:Option Addr) (cap:Nat) (cf:Aa) (ao:Vec 42 4 pa l.length cap (Ai (l.map (·.1))) cf):Ct AC 50 [pv bw,.slice pa l.length cap] [Ab bw bd ba bs,cd,ca,cs,cf] fun v H'=>∃ca' α',Wc bd ba bs {W with α:=α'} cd ca' cs∧α'.gs.Perm W.α.gs∧α'.room=W.α.room∧((8*W.δ.size≤W.α.room-W.α.used∧∃bj,v= .tuple #[pv bj,Z9 Z8 0]∧H'=[Bp bj bw 0 none 0 0,Ab bw bd ba bs,cd,ca',cs,cf])∨ (W.α.room-W.α.used<8*W.δ.size∧v= .tuple #[.pointer none,Z9 Z8 7]∧H'=[Ab bw bd ba bs,cd,ca',cs,cf])):=by
 have aa:=Rj bw bd ba bs;have ab:=Tj bw bd ba bs;have ac:=Ml bd W.δ cd h.dev;obtain⟨⟨a8,a9⟩,_⟩:=h.dev.num;have a6:AL .i64 ((8:Int)*(W.δ.size:Int))=((8*W.δ.size:Nat):Int):=by rw[Ah oM];omega
 unfold Bp;refine cG func50 fun _=>?_;repeat(refine sA ?_;intros)
 refine G.loop (X:=BegX) (fun x=>x.k≤l.length∧Wc bd ba bs {W with α:=x.α} cd x.ca cs∧x.α.gs.Perm W.α.gs∧x.α.room=W.α.room)
  (fun x=>[(14,Z9 Z8 x.k),(13,Z9 Z8 l.length),(12,.slice pa l.length cap),(0,pv bw)])
  (fun x=>[Ab bw bd ba bs,cd,x.ca,cs,cf]) (fun x=>l.length-x.k) ⟨0,ca,W.α⟩ ⟨AU _,h,.refl _,rfl⟩ (body:=?_)
 rintro⟨k,ad,α1⟩ ⟨hk,hW,hg,ae⟩;dsimp only at hk hW hg ae⊢;have bc:α1.used=W.α.used:=Lw h hW hg;have al:=hW.ar.num;dsimp only at al;by_cases ai:k<l.length
 ·obtain⟨fb,ag,rfl,rfl,be,bf,hfm⟩:=vecpos ao oM;have aq:(l.map (·.1))[k]? =some (l[k]).1:=by simp[ai]
  have au:=uR (rest:=ag) aq;obtain⟨Lv,ah,_⟩:=hl _ (List.getElem_mem ai);have aj:=Ol bw bd ba bs {W with α:=α1} cd ad cs hW (l[k]).1 (l[k]).2 Lv ah;have ak:=qP bw bd ba bs {W with α:=α1} cd ad cs hW (l[k]).1 ah.w1 ah.w2 ah.cnt ah.blk;generalize (l[k]).2=ts at*;generalize (l[k]).1=f at*;generalize Ai (l.map (·.1))++ag=bg at*;obtain⟨f1,f2,f3,f4⟩:=f;have am:flv ⟨f1,f2,f3,f4⟩= .agg #[Z9 Z8 f1,Z9 Z8 f2,Z9 Z8 f3,Z9 Z8 f4]:=rfl;rw[am] at aj ak;dsimp only at au aj ak;repeat(refine sA ?_;intros)
  by_cases hr:W.δ.size≤α1.room-α1.used
  ·have an:=aj hr;refine cL an ?_;rintro _ _ ⟨bx,g,av,α2,cx,cb,rfl,rfl,aw,ax,ay,bh,az⟩;try dsimp only[AA,AB]
   have a0:=Vh bw bd ba bs {W with α:=α2} cd av cs aw bx ⟨f1,f2,f3,f4⟩ ts g _ ay 0 cx cb az;repeat(refine sA ?_;intros)
   refine cL a0 ?_;rintro _ _ ⟨a1,α5,bi,rfl,rfl,a2,a3,a4,bk⟩;repeat(refine sA ?_;intros)
   refine Dn.round ⟨k+1,a1,α5⟩ ⟨ai,a2,a4.trans hg,(a3.room.trans ax.room).trans ae⟩ oD
  ·have a5:=ak oM;refine cL a5 ?_;rintro _ _ ⟨rfl,rfl⟩;repeat(refine sA ?_;intros)
   refine cL qR ?_;rintro _ _ ⟨rfl,rfl⟩;repeat(refine sA ?_;intros)
   refine Dn.round ⟨k+1,ad,α1⟩ ⟨ai,hW,hg,ae⟩ oD
 ·obtain rfl:k=l.length:=by omega
  have hLf:=Vc ba α1 ad hW.ar;by_cases hr:8*W.δ.size≤W.α.room-W.α.used
  ·repeat(refine sA ?_;intros)
   rename_i bj;(refine dP [[(bj,row [pv bw,Z9 Z8 0,.slice none 0 0] 98)],Ab bw bd ba bs,cd,ad,cs,cf] ?_;exact⟨ad,α1,hW,hg,ae,.inl ⟨hr,bj,rfl,rfl⟩⟩)
  ·repeat(refine sA ?_;intros)
   (refine dP [Ab bw bd ba bs,cd,ad,cs,cf] ?_;exact⟨ad,α1,hW,hg,ae,.inr ⟨oM,rfl,rfl⟩⟩)
theorem uS (x:Value):CtQ AC 50 [.pointer none,x] [] (.tuple #[.pointer none,Z9 Z8 1]):=by
 refine cG func50 fun _=>?_;repeat(refine sA ?_;intros)
 (refine dP [] ?_;exact⟨rfl,rfl⟩)
def Bu (bw bd ba bs bj:Nat) (W:Wk):Jp:=⟨bw,bd,ba,bs,bj,W.δ.size,W.α.room,W.σ.n,W.α.gs,W.live,W.δ.disk,W.δ.fault≠-1,big W.σ.free⟩
theorem aB {bw bd ba bs bj:Nat} {W:Wk} {cd ca cs aa:Aa} {α':Ar} (h:Wc bd ba bs W cd ca cs) (hW:Wc bd ba bs {W with α:=α'} cd aa cs) (hg:α'.gs.Perm W.α.gs) (hr:α'.room=W.α.room) (ab:8*W.δ.size≤W.α.room-W.α.used):(Bu bw bd ba bs bj W).Ok∧Fm (Bu bw bd ba bs bj W) ⟨0,none,[],W.δ.acts,0⟩ (Bv (Bu bw bd ba bs bj W) 0 cd aa cs none 0 0 []):=by
 obtain⟨⟨ac,ad⟩,_⟩:=h.dev.num;have h1:=h.ar.num.2.2.2;have h2:=h.ar.num.1;refine⟨⟨⟨ac,ad⟩,by show(W.α.gs.map (·.n)).sum+8*W.δ.size≤W.α.room;omega⟩,{W with α:=α'},cd,aa,cs,[],none,0,[],rfl,hW,Vec.nil _ _,?_⟩;exact⟨hg,hr,rfl,rfl,.refl _,by simp,AU _,fun _ _=>rfl,fun hf=>by simpa[Bu] using hf,AI _,AI _,fun _=>⟨.refl _,rfl⟩,fun h0=>absurd rfl h0⟩
theorem Sc {bw bd ba bs bj:Nat} {W:Wk} {x:Fl×List T5} (h:Ce W x):In0 (Bu bw bd ba bs bj W) x:=h
namespace Aj
variable {K:Type} {M:Aj K}
theorem bad_none (h:∀k t,M.err k t=none):∀(ts:List T5) (k:K),M.bad k ts=none
 |[],_=>rfl
 |t::ts,k=>by simp only[bad,h];exact bad_none h ts _
theorem oks_of {ok:K→T5→Prop} {I:K→Prop} {Q:T5→Prop} (h:∀k t,I k→Q t→ok k t∧I (M.next k t)):∀(ts:List T5) (k:K),I k→(∀t∈ts,Q t)→M.oks ok k ts
 |[],_,_,_=>trivial
 |t::ts,k,hI,hQ=>by obtain⟨h1,h2⟩:=h k t hI (hQ t AE);exact⟨h1,fun _=>oks_of h ts _ h2 fun u hu=>hQ u (AF _ hu)⟩
end Aj
def Kj (g:T5→T5):Aj Unit:=⟨fun _=>[],fun _ t=>[g t],fun _ _=>(),fun _ _=>none⟩
theorem Tt (g:T5→T5):∀(ts:List T5) (k:Unit),(Kj g).all k ts=ts.map g
 |[],_=>rfl
 |t::ts,k=>by simp only[Aj.all,Tt g ts];rfl
def Wh (R:Value→Aa→Prop) (v:Value) (H':Hp):Prop:=∃X',H'=[X']∧R v X'
def PutC (bx:Nat) (t:T5) (X:Aa) (R:Value→Aa→Prop):Prop:=Ct AC 92 [pv bx,tv t] [X] (Wh R)
theorem Bw.tail {g:T5→T5} {kk mk:Nat} {aa:T5→Prop} (ab:∀bx t X R,PutC bx (g t) X R→Ct AC mk [tv t,Im bx] [X] (Wh R)) (ac:∀t,aa t→okT kk (g t)):Bw (Kj g) kk (fun _ t=>aa t) mk [] []:=by
 intro bx Pst Br bnd hP ps X k t hX hk hb;refine(ab bx t X _ (hP ps X (g t) hX (ac t hk) (by simp[Kj] at hb;omega))).mono ?_;rintro v H' ⟨X',rfl,hR⟩;rcases hR with⟨rfl,ad⟩|⟨rfl,hB⟩
 ·exact⟨X',(),rfl,.inl ⟨rfl,rfl,rfl,ad⟩⟩
 ·exact⟨X',(),rfl,.inr (.inl ⟨rfl,hB⟩)⟩
theorem Mg:Av (-1):=⟨by decide,by decide⟩
theorem Gu:Av 0:=⟨by decide,by decide⟩
theorem Od (x:Int):Av (AL .i64 x):=by
 have h1:(9223372036854775808:Int)=2^(64-1):=by decide
 unfold Av;simp only[AL,IntKind.bits,IntKind.signed,Bool.true_and,decide_eq_true_eq,←h1];split<;>omega
theorem Dp {k:Nat} {t:T5} (h:okT k t):Av t.c0∧Av t.c1∧Av t.c2∧Av t.c3∧Av t.c4:=
 ⟨h.1 _ (by simp[T5.toList]),h.1 _ (by simp[T5.toList]),h.1 _ (by simp[T5.toList]),h.1 _ (by simp[T5.toList]),h.1 _ (by simp[T5.toList])⟩
theorem Mq {k:Nat} {a b c d e:Int} (ha:Av a) (hb:Av b) (hc:Av c) (hd:Av d) (he:Av e) (h0:k≤0→a=0) (h1:k≤1→b=0) (h2:k≤2→c=0) (h3:k≤3→d=0) (h4:k≤4→e=0):okT k ⟨a,b,c,d,e⟩:=by
 refine⟨fun x hx=>?_,fun i hi=>?_⟩
 ·simp only[T5.toList,AM,List.not_mem_nil,or_false] at hx;rcases hx with rfl|rfl|rfl|rfl|rfl<;>assumption
 ·match i with
  |0=>exact h0 hi
  |1=>exact h1 hi
  |2=>exact h2 hi
  |3=>exact h3 hi
  |4=>exact h4 hi
  |n+5=>rfl
theorem okT5 {a b c d e:Int} (ha:Av a) (hb:Av b) (hc:Av c) (hd:Av d) (he:Av e):okT 5 ⟨a,b,c,d,e⟩:=
 Mq ha hb hc hd he oM oM oM oM oM
theorem Ov {a:Int} (ha:Av a):okT 1 ⟨a,0,0,0,0⟩:=Mq ha Gu Gu Gu Gu oM oA19 oA19 oA19 oA19
theorem Hk {a b:Int} (ha:Av a) (hb:Av b):okT 2 ⟨a,b,0,0,0⟩:=Mq ha hb Gu Gu Gu oM oM oA19 oA19 oA19
theorem Iv {a b c:Int} (ha:Av a) (hb:Av b) (hc:Av c):okT 3 ⟨a,b,c,0,0⟩:=Mq ha hb hc Gu Gu oM oM oM oA19 oA19
theorem uT (x:Fl×List T5):cat [x]=x.2:=by simp[cat]
theorem iP (x y:Fl×List T5):cat [x,y]=x.2++y.2:=by simp[cat]
theorem Mr (b:Nat) (f:Fl):Vec 42 4 (some ⟨b,0,none⟩) [f].length 1 (Ai [f]) [(b,row (fl4 f) 42)]:=
 ⟨rfl,.inr ⟨b,[],rfl,by simp[Ai,fl4],by simp[Ai],by simp,by decide⟩⟩
theorem Nq (b:Nat) (f g:Fl):Vec 42 4 (some ⟨b,0,none⟩) [f,g].length 2 (Ai [f,g]) [(b,row (fl4 f++fl4 g) 42)]:=
 ⟨rfl,.inr ⟨b,[],rfl,by simp[Ai,fl4],by simp[Ai],by simp,by decide⟩⟩
theorem Ms (x:Option Nat):x.or none=x:=by cases x<;>rfl
theorem JRunK (p:Jp) (hp:p.Ok) (J:Jb) (C:Aa) (hJ:Fm p J C) (mk:Nat) (aa:Callable AC mk) (us:List Value) (Hx:Hp) (A T:Nat) (er:Option Nat) (ts:List T5) (R:Fl→Int→Prop) (ab:J.e=0→Er p J mk us Hx A T er ts fun f e Hx'=>Hx'=Hx∧R f e) (ac:J.G.length≤1000):Ct AC 60 [pv p.bj,.func (.func mk) #[] us.toArray] (C::Hx) fun v H'=>∃f C' e',v=flv f∧H'=C'::Hx∧Fm p ⟨e',J.er.or er,(f,ts)::J.G,J.acts+A,J.took+T⟩ C'∧((J.e=0∧R f e')∨(J.e≠0∧e'=J.e∧f=⟨0,0,0,0⟩)):=by
 refine(JRun p hp J C hJ mk aa us Hx A T er ts _ ab ac).mono ?_;rintro v H' ⟨f,C',e',Hx',h1,rfl,h3,⟨h4,rfl,h5⟩|⟨h4,h5,h6,rfl⟩⟩
 ·exact⟨f,C',e',h1,rfl,h3,.inl ⟨h4,h5⟩⟩
 ·exact⟨f,C',e',h1,rfl,h3,.inr ⟨h4,h5,h6⟩⟩
def WSt (bw bx first nb k bound:Nat) (g:Gr) (base:List Gr) (Lv:List Ext) (W:Wk) (cx cb:Aa):Prop:=
 (W.α.gs.Perm (g::base)∧Bm first nb Lv W.live∧∃ps,Dh bw bx W first nb k bound g ps cx cb)∨(W.α.gs.Perm base∧W.live.Perm Lv∧Lo bx cx)
theorem Tu (ts:List T5):ts.map (fun t=>t)=ts:=by simp
theorem uU (W0:Wk) (ad ts:List T5) (bw bd ba bs bx first width bound size room:Nat) (g:Gr) (Lv:List Ext) (f:Fl) (ao:∀t∈ts,okT width t) (a4:ad.length+ts.length≤bound) (hh:1≤Ad size width):Zb bw bd ba bs (Ez (Kj fun t=>t) W0 () ad ts bw bx first width bound size 1 g Lv []) size room f ts 92 [pv bx] []:=by
 rintro aq W cd ca cs ⟨rk,aa,au,av,a5⟩ i t hW hg a6 aw ⟨ax,ay,hl,hK,ac,hk,ae,az⟩ ht a7;dsimp only at ax ay hl hK hk ae az;have a8:i<ts.length:=(AK.1 ht).1;have a0:aa.length+1≤bound:=by rw[ae,AH,Tt,AR,List.length_take];omega
 subst ax;simp only[Ez,if_true,CA] at hg;have hP:=gM bw bd ba bs bx first width bound g aq Lv W aa.length 1 (by rw[aw];exact hh) a0 oM
 rw[aw] at hP;have hC:=hP aa ([Ab bw bd ba bs,cd,ca,cs,au,av].flatten) t ⟨cd,ca,cs,au,av,W,rfl,hW,hg,ay,hl,Ap.refl _ _,AI _,oM,by simpa using Ev.refl W⟩ (ao t (AY ht)) oM;refine Ct.convP hC (by simp[Ez,Kj]) ?_;rintro v H' ⟨X',rfl,hc⟩;rcases hc with⟨rfl,ag,ah,cs',ai,aj,W',rfl,ak,al,a1,am,an,h1,h2,ab⟩|⟨rfl,ag,ah,cs',ai,aj,W',rfl,ak,al,am,a2,an,ab,a3⟩
 ·refine⟨_,⟨ag,ah,cs',W',⟨(),aa++[t],ai,aj,true⟩,0,rfl,rfl,ak,ab.weak (by simp[Ez]) (AI _),al,fun _=>⟨rfl,a1,am,hK.trans an,fun e=>ab.fault (ac e),rfl,?_,Aj.bad_none (fun _ _=>rfl) _ _⟩,fun h=>absurd rfl h⟩,by simp[Ez,Kj]⟩;show aa++[t]=ad++(Kj fun t=>t).all () (ts.take (i+1));rw[ae,Aj.take_succ ht,Aj.all_app,AT];rfl
 ·exact⟨_,⟨ag,ah,cs',W',⟨(),[],ai,aj,false⟩,6,rfl,rfl,ak,ab.weak (AI _) (AI _),al,fun h=>by omega,fun _=>⟨hK.trans an,.inr ⟨rfl,a2,am⟩,.inl ⟨rfl,fun e=>a3 (ac e)⟩⟩⟩,by simp[Ez,Kj]⟩
theorem uV (bw bd ba bs:Nat) (aa:List T5) (W:Wk) (cd ca cs:Aa) (h:Wc bd ba bs W cd ca cs) (bx first width bound:Nat) (g:Gr) (ab:List Gr) (Lv:List Ext) (cx cb:Aa) (hg:W.α.gs.Perm (g::ab)) (hw:Dh bw bx W first (Ac W.δ.size width bound) width bound g aa cx cb) (hl:Bm first (Ac W.δ.size width bound) Lv W.live) (f:Fl) (ts:List T5) (LvF:List Ext) (ad:Be W.δ.disk W.δ.size LvF f ts) (ae:∀e∈LvF,e∈Lv) (ah:∀t∈ts,okT width t) (an:aa.length+ts.length≤bound) (al:1≤width) (ag:width≤5) (hr:W.δ.size≤W.α.room-W.α.used) (av:W.δ.acts≤10000000000) (am:f.count≤1000000):Ct AC 91 [pv bw,flv f,.func (.func 92) #[pv bx] #[]] [Ab bw bd ba bs,cd,ca,cs,cx,cb] fun v H'=> ∃cd' ca' cs' W' cx' cb' e,v=Z9 Z8 e∧H'=[Ab bw bd ba bs,cd',ca',cs',cx',cb']∧Wc bd ba bs W' cd' ca' cs'∧Ev W W' (f.blocks+f.count) 0∧Ap Lv W W'∧((e=0∧W'.α.gs.Perm (g::ab)∧Bm first (Ac W.δ.size width bound) Lv W'.live∧Dh bw bx W' first (Ac W.δ.size width bound) width bound g (aa++ts) cx' cb')∨ (e=6∧W.δ.fault≠-1∧WSt bw bx first (Ac W.δ.size width bound) width bound g ab Lv W' cx' cb')):=by
 obtain⟨⟨ai,aw⟩,_⟩:=h.dev.num;have hh:=Bh ai al ag;have ax:=Dl (n:=f.count) (Bh ai ad.w1 ad.w2);have hO:=fM bw bd ba bs (Ez (Kj fun t=>t) W () aa ts bw bx first width bound W.δ.size 1 g Lv []) (gL _ W () aa ts bw bx first width bound W.δ.size 1 g Lv _) f ts Lv 92 inferInstance [pv bx] [] W.δ.size W.α.room
  (uU W aa ts bw bd ba bs bx first width bound W.δ.size W.α.room g Lv f ah an hh) W cd ca cs h ⟨(),aa,cx,cb,true⟩ ab hg rfl rfl
  ⟨rfl,hw,hl,Ap.refl _ _,id,rfl,by simp[Aj.all],by simp[Aj.bad]⟩ (fun W' r i hJ=>⟨(ad.sub ae).keep (fun x hx=>hJ.2.2.2.1 x hx),fun e he=>hJ.2.2.1.mem he⟩) hr (by show _+_+_*1≤_;omega) am
 refine Ct.convP hO (by simp[Ez,Kj]) ?_;rintro v H' ⟨cd',ca',cs',W',⟨rk,ay,aj,ak,az⟩,e,rfl,rfl,ao,aq,ac,hJ,hB⟩;refine⟨[Ab bw bd ba bs,cd',ca',cs',aj,ak],⟨cd',ca',cs',W',aj,ak,e,rfl,rfl,ao,?_,?_⟩,by simp[Ez,Kj]⟩
 ·rw[ad.blk];simpa[Ez] using aq
 by_cases he:e=0
 ·obtain⟨h0,h1,h2,h3,_,h5,h6,h7⟩:=hJ he;dsimp only at h0 h1 h2 h3 h6;subst h0;have au:ts.take f.count=ts:=by rw[←ad.len,D4]
  rw[au,Tt,Tu] at h6;simp only[Ez,if_true,CA] at ac;exact⟨h3,.inl ⟨he,ac,h2,by rw[←h6];exact h1⟩⟩
 ·obtain⟨h1,h2,h3⟩:=hB he;rcases h3 with⟨rfl,hf⟩|⟨n,h3,_⟩
  ·refine⟨h1,.inr ⟨rfl,hf,?_⟩⟩;rcases h2 with⟨a,b,c⟩|⟨a,b,c⟩
   ·dsimp only at a;subst a;simp only[Ez,if_true,CA] at ac;exact .inl ⟨ac,b,c⟩
   ·dsimp only at a;subst a;simp only[Ez,CE,if_false,AB] at ac;exact .inr ⟨ac,c,b⟩
  ·rw[Aj.bad_none (fun _ _=>rfl)] at h3;cases h3
theorem Cd.wide {P:Program} {f:FuncId} {args:List Value} {Hf:Hp} {R:Value→Hp→Prop} (h:Cd P f args Hf R) (F:Hp):Cd P f args (Hf++F) fun v H'=>∃H1,R v H1∧H'=H1++F:=by unfold Cd at h⊢;intro u w hw;refine(h u w hw.self).mono ?_;rintro e u' w' ⟨hu,v,H',h3,h4,h5⟩;exact⟨hu,v,H'++F,h3,⟨H',h4,rfl⟩,hw.framed h5⟩
theorem Mt (bw bd ba bs:Nat) (W:Wk) (cd ca cs:Aa) (h:Wc bd ba bs W cd ca cs) (bx first nb k bound:Nat) (g:Gr) (aa:List Gr) (Lv:List Ext) (cx cb:Aa) (hw:WSt bw bx first nb k bound g aa Lv W cx cb):Cd AC 90 [pv bx] [Ab bw bd ba bs,cd,ca,cs,cx,cb] fun v H'=> ∃cd' ca' cs' W' cx' cb',H'=[Ab bw bd ba bs,cd',ca',cs',cx',cb']∧Wc bd ba bs W' cd' ca' cs'∧Ev W W' 0 0∧W'.δ=W.δ∧W'.α.gs.Perm aa∧W'.live.Perm Lv:=by
 rcases hw with⟨h1,h2,ps,h3⟩|⟨h1,h2,h3⟩
 ·refine Cd.conv (Za bw bd ba bs W cd ca cs h bx first nb k bound g ps cx cb h3 aa h1 Lv h2).2 (.refl _) ?_;rintro v H' ⟨cd',ca',cs',W',cx',cb',_,rfl,a1,a2,a3,a4,a5,_⟩;exact⟨_,⟨cd',ca',cs',W',cx',cb',rfl,a1,a2,a3,a4,a5⟩,.refl _⟩
 ·refine Cd.conv (Cd.wide (Oj bx cx h3).2 [Ab bw bd ba bs,cd,ca,cs,cb]) (Cp fun z=>by simp only[AX,A4,AQ,A3,A8];omega) ?_;rintro v H' ⟨H1,⟨_,rfl⟩,rfl⟩;exact⟨_,⟨cd,ca,cs,W,cx,cb,rfl,h,Ev.refl W,rfl,h1,h2⟩,Cp fun z=>by simp only[AX,A4,AQ,A3,A8];omega⟩
theorem aC (bw bd ba bs:Nat) (W:Wk) (cd ca cs:Aa) (h:Wc bd ba bs W cd ca cs) (bx first nb k bound:Nat) (g:Gr) (ps:List T5) (cx cb:Aa) (hw:Dh bw bx W first nb k bound g ps cx cb) (Gs:List Gr) (hg:W.α.gs.Perm (g::Gs)) (Lv:List Ext) (hl:Bm first nb Lv W.live) (ae:ps.length<bound) (t:T5) (ht:okT k t) (ad:W.δ.acts≤1000000000000) (hh:1≤Ad W.δ.size k):Ct AC 92 [pv bx,tv t] [Ab bw bd ba bs,cd,ca,cs,cx,cb] fun v H'=> ∃cd' ca' cs' W' cx' cb' e,v=Z9 Z8 e∧H'=[Ab bw bd ba bs,cd',ca',cs',cx',cb']∧Wc bd ba bs W' cd' ca' cs'∧Ev W W' 1 0∧Ap Lv W W'∧((e=0∧W'.α.gs.Perm (g::Gs)∧Bm first nb Lv W'.live∧Dh bw bx W' first nb k bound g (ps++[t]) cx' cb')∨(e=6∧W.δ.fault≠-1∧WSt bw bx first nb k bound g Gs Lv W' cx' cb')):=by
 refine(Vg bw bd ba bs W cd ca cs h bx first nb k bound g ps cx cb hw Gs hg Lv hl ae t ht ad).mono ?_;rintro v H' ⟨cd',ca',cs',W',cx',cb',rfl,aa,ag,ab,hc⟩;have ac:Ev W W' 1 0:=ag.weak (by
  have h2:(ps.length+1)/Ad W.δ.size k≤ps.length/Ad W.δ.size k+1:=by
   calc (ps.length+1)/Ad W.δ.size k≤(ps.length+Ad W.δ.size k)/Ad W.δ.size k:=B5 oM
    _=ps.length/Ad W.δ.size k+1:=Nat.add_div_right _ oM
  omega) (AI _)
 rcases hc with⟨rfl,e1,e2,e3,e4⟩|⟨rfl,e1,e2,e3,e4,e5⟩
 ·exact⟨cd',ca',cs',W',cx',cb',0,rfl,rfl,aa,ac,ab,.inl ⟨rfl,by rw[e1];exact hg,by rw[e3];exact hl,e4⟩⟩
 ·exact⟨cd',ca',cs',W',cx',cb',6,rfl,rfl,aa,ac,ab,.inr ⟨rfl,oM,.inr ⟨e3,e4,e5⟩⟩⟩
theorem aD (bw bd ba bs:Nat) (W:Wk) (cd ca cs:Aa) (h:Wc bd ba bs W cd ca cs) (bx first nb k bound:Nat) (g:Gr) (ps:List T5) (cx cb:Aa) (hw:Dh bw bx W first nb k bound g ps cx cb) (Gs:List Gr) (hg:W.α.gs.Perm (g::Gs)) (Lv:List Ext) (hl:Bm first nb Lv W.live) (ag:W.δ.acts≤1000000000000) (hh:1≤Ad W.δ.size k):Ct AC 93 [pv bx] [Ab bw bd ba bs,cd,ca,cs,cx,cb] fun v H'=> ∃cd' ca' cs' W' cx' cb' f e,v= .tuple #[flv f,Z9 Z8 e]∧H'=[Ab bw bd ba bs,cd',ca',cs',cx',cb']∧Wc bd ba bs W' cd' ca' cs'∧Ev W W' 1 0∧Ap Lv W W'∧W'.α.gs.Perm Gs∧Lo bx cx'∧((e=0∧W'.live.Perm (Az f Lv)∧f.width=k∧f.count=ps.length∧Be W'.δ.disk W.δ.size [f.ext] f ps)∨(e=6∧f=⟨0,0,0,0⟩∧W.δ.fault≠-1∧W'.live.Perm Lv)):=by
 refine(Rp bw bd ba bs W cd ca cs h bx first nb k bound g ps cx cb hw Gs hg Lv hl ag).mono ?_;rintro v H' ⟨cd',ca',cs',W',cx',cb',rfl,aa,ah,ab,ac,ad,hc⟩;have ae:Ev W W' 1 0:=ah.weak (by
  unfold Ac;have h1:(ps.length+Ad W.δ.size k-1)/Ad W.δ.size k≤(ps.length+Ad W.δ.size k)/Ad W.δ.size k:=B5 oM;rw[Nat.add_div_right _ oM] at h1;omega) (AI _)
 rcases hc with⟨f,rfl,e1,e2,e3,e4⟩|⟨rfl,e1,e2,e3⟩
 ·exact⟨cd',ca',cs',W',cx',cb',f,0,rfl,rfl,aa,ae,ab,ac,ad,.inl ⟨rfl,by rw[e1];exact .refl _,e2,e3,e4⟩⟩
 ·exact⟨cd',ca',cs',W',cx',cb',⟨0,0,0,0⟩,6,rfl,rfl,aa,ae,ab,ac,ad,.inr ⟨rfl,rfl,oM,e3⟩⟩
def RSt (bw bx:Nat) (f:Fl) (ts:List T5) (g:Gr) (base:List Gr) (W:Wk) (cx cb:Aa):Prop:=
 (W.α.gs.Perm (g::base)∧∃pos,De bw bx W f ts g pos cx cb)∨(W.α.gs.Perm base∧Kv bx cx)
theorem Tv (bw bd ba bs:Nat) (W:Wk) (cd ca cs:Aa) (h:Wc bd ba bs W cd ca cs) (bx:Nat) (f:Fl) (ts:List T5) (g:Gr) (aa:List Gr) (cx cb:Aa) (hr:RSt bw bx f ts g aa W cx cb):Cd AC 96 [pv bx] [Ab bw bd ba bs,ca,cx] fun v H'=> ∃ca' α' cx',H'=[Ab bw bd ba bs,ca',cx']∧Wc bd ba bs {W with α:=α'} cd ca' cs∧Ev W {W with α:=α'} 0 0∧α'.gs.Perm aa:=by
 rcases hr with⟨h1,pos,h2⟩|⟨h1,h2⟩
 ·refine Cd.conv (Lp bw bd ba bs W cd ca cs h bx f ts g aa h1 pos cx cb h2).2 (.refl _) ?_;rintro v H' ⟨ca',α',cx',_,rfl,a1,a2,a3,_⟩;exact⟨_,⟨ca',α',cx',rfl,a1,a2,a3⟩,.refl _⟩
 ·refine Cd.conv (Cd.wide (Vi bx cx h2).2 [Ab bw bd ba bs,ca]) (Cp fun z=>by simp only[AX,A4,AQ,A3,A8];omega) ?_;rintro v H' ⟨H1,⟨_,rfl⟩,rfl⟩;exact⟨_,⟨ca,W.α,cx,rfl,h,Ev.refl W,h1⟩,Cp fun z=>by simp only[AX,A4,AQ,A3,A8];omega⟩
structure Mkr (K:Type) where
 own:K→List Gr
 C:K→Aa
 J:Wk→K→Nat→Prop
 E:Wk→K→Prop
 pot:K→Nat
structure Mkr.Ok {K:Type} (Z:Mkr K) (Lv:List Ext):Prop where
 stay:∀W W' r i,Z.J W r i→W'.δ.size=W.δ.size→Ap Lv W W'→(∀e∈Lv,e∈W'.live)→(W.δ.fault= -1→W'.δ.fault= -1)→Z.J W' r i
 fin:∀W r i,Z.J W r i→Z.E W r
 stayE:∀W W' r,Z.E W r→W'.δ.size=W.δ.size→Z.E W' r
def MkrCt (bw bd ba bs:Nat) {K:Type} (Z:Mkr K) (size room:Nat) (ts:List T5) (out:Nat→T5) (fid:Nat) (fs us:List Value):Prop:=
 ∀(aa:List Gr) (W:Wk) (cd ca cs:Aa) (r:K) (i:Nat) (t:T5),Wc bd ba bs W cd ca cs→W.α.gs.Perm (Z.own r++aa)→W.α.room=room→W.δ.size=size→Z.J W r i→ts[i]? =some t→W.δ.acts≤100000000000→
  Ct AC fid (fs++[tv t]++us) [Ab bw bd ba bs,cd,ca,cs,Z.C r] fun v H'=>
   ∃ab ac W' r' u k e,v= .tuple #[tv u,.bool k,Z9 Z8 e]∧H'=[Ab bw bd ba bs,ab,ac,cs,Z.C r']∧Wc bd ba bs W' ab ac cs∧Ev W W' (Z.pot r'-Z.pot r) 0∧W'.δ.disk=W.δ.disk∧W'.σ=W.σ∧W'.live=W.live∧Z.pot r≤Z.pot r'∧W'.α.gs.Perm (Z.own r'++aa)∧
    ((e=0∧k=true∧u=out i∧Z.J W' r' (i+1))∨(e=6∧W.δ.fault≠-1∧Z.E W' r'))
def Ld (out:Nat→T5) (i:Nat):List T5:=(List.range i).map out
theorem iQ (out:Nat→T5) (i:Nat):(Ld out i).length=i:=by simp[Ld]
theorem uW (out:Nat→T5) (i:Nat):Ld out (i+1)=Ld out i++[out i]:=by simp[Ld,List.range_succ]
structure EachJX (K:Type) where
 i:Nat
 cd:Aa
 ca:Aa
 cs:Aa
 cx:Aa
 cb:Aa
 cy:Aa
 cc:Aa
 W:Wk
 r:K
theorem iR {x y:Gr} {a b:List Gr}:(a++(x::y::b)).Perm (x::y::(a++b)):=B4.trans (List.perm_middle.cons _)
theorem uX (bw bd ba bs:Nat) {K:Type} (Z:Mkr K) (W:Wk) (cd ca cs:Aa) (h:Wc bd ba bs W cd ca cs) (hZ:Z.Ok W.live) (f:Fl) (ts:List T5) (LvF:List Ext) (be:Be W.δ.disk W.δ.size LvF f ts) (cj:∀e∈LvF,e∈W.live) (width:Nat) (db:1≤width) (da:width≤5) (out:Nat→T5) (dw:∀i,i<f.count→okT width (out i)) (b4:Nat) (du:Callable AC b4) (fs us:List Value) (fa:MkrCt bw bd ba bs Z W.δ.size W.α.room ts out b4 fs us) (r:K) (aa:List Gr) (hg:W.α.gs.Perm (Z.own r++aa)) (hJ:Z.J W r 0) (P:Nat) (hP:∀W r,Z.E W r→Z.pot r≤P) (gp:P≤1000000) (hr:2*W.δ.size≤W.α.room-W.α.used) (dx:Ac W.δ.size width f.count≤big W.σ.free) (gl:W.δ.acts≤1000000000) (gm:f.count≤1000000):Ct AC 169 [pv bw,flv f,Z9 Z8 width,.func (.func b4) fs.toArray us.toArray] [Ab bw bd ba bs,cd,ca,cs,Z.C r] fun v H'=> ∃cd' ca' cs' W' r' f' e,v= .tuple #[flv f',Z9 Z8 e]∧H'=[Ab bw bd ba bs,cd',ca',cs',Z.C r']∧Wc bd ba bs W' cd' ca' cs'∧Ev W W' (f.blocks+f.count+1+P) (Ac W.δ.size width f.count)∧Ap W.live W W'∧W'.α.gs.Perm (Z.own r'++aa)∧Z.E W' r'∧((e=0∧W'.live.Perm (Az f' W.live)∧f'.width=width∧f'.count=f.count∧Be W'.δ.disk W.δ.size [f'.ext] f' (Ld out f.count))∨(e=6∧f'=⟨0,0,0,0⟩∧W.δ.fault≠-1∧W'.live.Perm W.live)):=by
 obtain⟨⟨dc,gq⟩,_⟩:=h.dev.num;have gr:=be.len;have fb:=be.w1;have fc:=be.w2;have dy:=be.blk;have hp:=Bh dc fb fc;have dz:=Ol bw bd ba bs W cd ca cs h f ts LvF be oM;have d0:flv f= .agg #[Z9 Z8 f.first,Z9 Z8 f.blocks,Z9 Z8 f.width,Z9 Z8 f.count]:=rfl;have gt:=eQ1;have hz:tv T5.zero= .agg #[Z9 Z8 T5.zero.c0,Z9 Z8 T5.zero.c1,Z9 Z8 T5.zero.c2,Z9 Z8 T5.zero.c3,Z9 Z8 T5.zero.c4]:=rfl;have bi:∀(W':Wk) (cd' ca' cs':Aa) (r':K) (kk:Nat),Wc bd ba bs W' cd' ca' cs'→Ev W W' kk (Ac W.δ.size width f.count)→kk≤f.blocks+f.count+1+P→Ap W.live W W'→W'.α.gs.Perm (Z.own r'++aa)→Z.E W' r'→W.δ.fault≠-1→W'.live.Perm W.live→
   ∃cm cu cv ak dd f' e,Value.tuple #[.agg #[Z9 Z8 0,Z9 Z8 0,Z9 Z8 0,Z9 Z8 0],Z9 Z8 6]= .tuple #[flv f',Z9 Z8 e]∧[Ab bw bd ba bs,cd',ca',cs',Z.C r']=[Ab bw bd ba bs,cm,cu,cv,Z.C dd]∧Wc bd ba bs ak cm cu cv∧Ev W ak (f.blocks+f.count+1+P) (Ac W.δ.size width f.count)∧Ap W.live W ak∧ak.α.gs.Perm (Z.own dd++aa)∧Z.E ak dd∧
    ((e=0∧ak.live.Perm (Az f' W.live)∧f'.width=width∧f'.count=f.count∧Be ak.δ.disk W.δ.size [f'.ext] f' (Ld out f.count))∨(e=6∧f'=⟨0,0,0,0⟩∧W.δ.fault≠-1∧ak.live.Perm W.live)):=
  fun W' cd' ca' cs' r' kk a1 a2 a3 a4 a5 a6 a7 a8=>⟨cd',ca',cs',W',r',⟨0,0,0,0⟩,6,rfl,rfl,a1,a2.weak a3 (AI _),a4,a5,a6,.inr ⟨rfl,rfl,a7,a8⟩⟩
 rw[d0] at dz⊢;refine Ct.introD func169 rfl ntmps169 (nle rfl) fun _=>?_;dsimp only[Cy,AD];repeat(refine sA ?_;intros)
 rename_i b5 b8;refine cL dz ?_;rintro _ _ ⟨bx,g,fd,α1,cx,cb,rfl,rfl,d1,d2,d3,fg,fh⟩;try dsimp only[AA,AB]
 have gu:α1.used=W.α.used+W.δ.size:=by have:=d1.ar.num.2.2.2;dsimp only at this;rw[this,(d3.map (·.n)).sum_nat,h.ar.num.2.2.2];simp[fg];omega
 have gg:α1.room=W.α.room:=d2.room;have d4:=Om bw bd ba bs {W with α:=α1} cd fd cs d1 width f.count db da oM oD;dsimp only at d4;repeat(refine sA ?_;intros)
 refine cL d4 ?_;rintro _ _ (⟨_,aj,first,g2,fi,fj,fk,W2,cy,cc,rfl,rfl,fm,d5,e1,e2,e3,e4,e5⟩|⟨fp,_⟩);rotate_left
 ·exact absurd dx oM
 dsimp only[AA,AB];have bk:=d2.trans d5;have d6:Ap W.live W W2:=fun x _=>by rw[e1]
 have cw:W2.δ.size=W.δ.size:=bk.size;have fq:Z.J W2 r 0:=hZ.stay _ _ _ _ hJ cw d6 (fun e he=>e4.mem he) bk.fault;have d7:W2.α.gs.Perm (g2::g::(Z.own r++aa)):=e2.trans ((d3.trans (hg.cons _)).cons _);repeat(refine sA ?_;intros)
 refine G.loop (X:=EachJX K) (fun x=>x.i≤f.count∧Wc bd ba bs x.W x.cd x.ca x.cs∧Ev W x.W (Ac W.δ.size f.width x.i+x.i+(Z.pot x.r-Z.pot r)) (Ac W.δ.size width f.count)∧Z.pot r≤Z.pot x.r∧x.W.α.gs.Perm (g2::g::(Z.own x.r++aa))∧Z.J x.W x.r x.i∧
   De bw bx x.W f ts g x.i x.cx x.cb∧Dh bw aj x.W first (Ac W.δ.size width f.count) width f.count g2 (Ld out x.i) x.cy x.cc∧Bm first (Ac W.δ.size width f.count) W.live x.W.live∧Ap W.live W x.W)
  (fun _=>[(12,pv aj),(13,.func (.func 97) #[pv bx] #[]),(3,.func (.func b4) fs.toArray us.toArray),(8,pv b8)])
  (fun x=>[[(b8,row [Z9 Z8 0,Z9 Z8 0,Z9 Z8 0,Z9 Z8 0] 42)],Ab bw bd ba bs,x.cd,x.ca,x.cs,Z.C x.r,x.cx,x.cb,x.cy,x.cc]) (fun x=>f.count-x.i) ⟨0,fi,fj,fk,cx,cb,cy,cc,W2,r⟩
  ⟨AU _,fm,bk.weak (AU _) oM,AI _,d7,fq,fh.move d5.size,by rw[←cw] at e5⊢;exact e5,e4,d6⟩ (body:=?_)
 rintro⟨i,d8,d9,bf,de,df,bp,bq,W3,r3⟩ ⟨hi,dg,al,cz,b6,bu,a0,a9,bg,bv⟩;dsimp only at hi dg al cz b6 bu a0 a9 bg bv⊢;have bc:W3.δ.size=W.δ.size:=al.size;have gh:=al.acts.2;have gw:Ac W.δ.size f.width i≤f.blocks:=by rw[dy];exact Da hi
 have gx:=Dl (n:=f.count) hp;have gi:=hP W3 r3 (hZ.fin _ _ _ bu);have ea:Be W3.δ.disk W3.δ.size LvF f ts:=by rw[bc];exact be.keep fun x ⟨e,he,h2⟩=>bv x ⟨e,cj e he,h2⟩
 have dh:∀e∈LvF,e∈W3.live:=fun e he=>bg.mem (cj e he);by_cases b7:i<f.count
 ·have eb:ts[i]? =some ts[i]:=AG oM;have ec:W3.α.gs.Perm (g::(g2::(Z.own r3++aa))):=b6.trans (.swap _ _ _);have ee:=Qe bw bd ba bs W3 d8 d9 bf dg bx f ts LvF ea dh g _ ec i de df a0 _ eb oM;have fr:tv ts[i]= .agg #[Z9 Z8 (ts[i]).c0,Z9 Z8 (ts[i]).c1,Z9 Z8 (ts[i]).c2,Z9 Z8 (ts[i]).c3,Z9 Z8 (ts[i]).c4]:=rfl;rw[fr,hz,bc] at ee;have ft:=fun W cd ca cs=>fa (g2::g::aa) W cd ca cs r3 i ts[i];generalize ht:ts[i]=t at*;have ef:tv t= .agg #[Z9 Z8 t.c0,Z9 Z8 t.c1,Z9 Z8 t.c2,Z9 Z8 t.c3,Z9 Z8 t.c4]:=rfl;have gy:Ac W.δ.size f.width (i+1)≤f.blocks:=by rw[dy];exact Da b7
  have gz:Ac W.δ.size f.width i≤Ac W.δ.size f.width (i+1):=Da oM;repeat(refine sA ?_;intros)
  refine R.callV (fs:=[pv bx]) (vs:=[]) (hf:=inferInstance) (hct:=ee) (h:=?_);rintro _ _ ⟨b9,cg,W4,bz,b1,rfl,ci,ae,b2,g0,aq,⟨rfl,fu,fv⟩|⟨rfl,eg,g1,di,dj⟩⟩<;>dsimp only[AA,AB]
  ·have ag:=al.trans ae;have dk:Ap W.live W3 W4:=fun x _=>by rw[b2]
   have fw:Z.J W4 r3 i:=hZ.stay _ _ _ _ bu ae.size dk (fun e he=>by rw[aq];exact bg.mem he) ae.fault;have gj:=ag.acts.2;have fx:W4.α.gs.Perm (Z.own r3++(g2::g::aa)):=by rw[fu];exact b6.trans iR.symm
   have hS:=ft W4 b9 cg bf ci fx ag.room ag.size fw eb oM;rw[ef] at hS;repeat(refine sA ?_;intros)
   apply R.callV
   ·exact rfl
   ·exact du
   ·exact rfl
   ·exact hS
   ·exact oA4
   ·exact rfl
   ·exact nle rfl
   rintro _ _ ⟨eh,ei,W5,r5,u,k,e,rfl,rfl,ej,dl,ek,g3,fy,el,f0,hc⟩;dsimp only[AA,AB];have am:=ag.trans dl;have f1:W5.δ.size=W.δ.size:=am.size;have b3:De bw bx W5 f ts g (i+1) bz b1:=fv.move dl.size;have c5:Dh bw aj W5 first (Ac W.δ.size width f.count) width f.count g2 (Ld out i) bp bq:=a9.move (ae.trans dl).size (fun x _ _=>by rw[ek,b2])
   have c6:Bm first (Ac W.δ.size width f.count) W.live W5.live:=by rw[fy,aq];exact bg
   have dm:Ap W.live W W5:=fun x hx=>by rw[ek,b2];exact bv x hx
   have c7:W5.α.gs.Perm (g2::g::(Z.own r5++aa)):=f0.trans iR;have em:tv u= .agg #[Z9 Z8 u.c0,Z9 Z8 u.c1,Z9 Z8 u.c2,Z9 Z8 u.c3,Z9 Z8 u.c4]:=rfl;have gk:=am.acts.2;rw[em];rcases hc with⟨rfl,rfl,hu,dp⟩|⟨rfl,f2,c8⟩
   ·have en:=hP W5 r5 (hZ.fin _ _ _ dp);have eo:=aC bw bd ba bs W5 eh ei bf ej aj first (Ac W.δ.size width f.count) width f.count g2 (Ld out i) bp bq c5 (g::(Z.own r5++aa)) c7 W.live c6 (by rw[iQ];exact b7) u (by rw[hu];exact dw i b7) oM (by rw[f1];exact Bh dc db da)
    rw[em] at eo;repeat(refine sA ?_;intros)
    refine cL eo ?_;rintro _ _ ⟨ep,et,eu,W6,ew,ey,e,rfl,rfl,ez,bh,dq,f3⟩;try dsimp only[AA,AB]
    have c9:=am.trans bh;rcases f3 with⟨rfl,f4,e0,f5⟩|⟨rfl,f6,f7⟩
    ·repeat(refine sA ?_;intros)
     refine Dn.round ⟨i+1,ep,et,eu,bz,b1,ew,ey,W6,r5⟩ ⟨b7,ez,c9.weak oD oM,A5 cz el,f4,hZ.stay _ _ _ _ dp bh.size dq (fun e he=>e0.mem he) bh.fault,b3.move bh.size,by rw[uW,←hu];exact f5,e0,dm.trans dq⟩ oD
    ·have hD:=Mt bw bd ba bs W6 ep et eu ez aj first (Ac W.δ.size width f.count) width f.count g2 (g::(Z.own r5++aa)) W.live ew ey f7
     repeat(refine sA ?_;intros)
     refine Go.SL.Lv.call (hc:=hD) (h:=?_);rintro _ _ ⟨ab,au,ac,W7,dr,ds,rfl,av,ad,an,aw,ao⟩;try dsimp only[AA,AB]
     have ax:=Tv bw bd ba bs W7 ab au ac av bx f ts g (Z.own r5++aa) bz b1 (.inl ⟨aw,i+1,b3.move (bh.trans ad).size⟩);refine Go.SL.Lv.call (hc:=ax) (h:=?_);rintro _ _ ⟨ah,α8,dt,rfl,ay,ai,az⟩;try dsimp only[AA,AB]
     (refine lN [Ab bw bd ba bs,ab,ah,ac,Z.C r5] ?_;exact bi {W7 with α:=α8} ab ah ac r5 _ ay ((c9.trans (ad.trans ai)).weak (k':=f.blocks+f.count+1+P) oM oM) (AI _) (fun x hx=>by show W7.δ.disk x=_;rw[an];exact(dm.trans dq) x hx) az (hZ.stayE _ _ _ (hZ.fin _ _ _ dp) ((bh.trans ad).trans ai).size) (Ki am f6) ao)
   ·have en:=hP W5 r5 c8;have hD:=Mt bw bd ba bs W5 eh ei bf ej aj first (Ac W.δ.size width f.count) width f.count g2 (g::(Z.own r5++aa)) W.live bp bq (.inl ⟨c7,c6,_,c5⟩)
    repeat(refine sA ?_;intros)
    refine Go.SL.Lv.call (hc:=hD) (h:=?_);rintro _ _ ⟨ab,au,ac,W7,dr,ds,rfl,av,ad,an,aw,ao⟩;try dsimp only[AA,AB]
    have ax:=Tv bw bd ba bs W7 ab au ac av bx f ts g (Z.own r5++aa) bz b1 (.inl ⟨aw,i+1,b3.move ad.size⟩);refine Go.SL.Lv.call (hc:=ax) (h:=?_);rintro _ _ ⟨ah,α8,dt,rfl,ay,ai,az⟩;try dsimp only[AA,AB]
    (refine lN [Ab bw bd ba bs,ab,ah,ac,Z.C r5] ?_;exact bi {W7 with α:=α8} ab ah ac r5 _ ay ((am.trans (ad.trans ai)).weak (k':=f.blocks+f.count+1+P) oM oM) (AI _) (fun x hx=>by show W7.δ.disk x=_;rw[an];exact dm x hx) az (hZ.stayE _ _ _ c8 (ad.trans ai).size) (Ki ag f2) ao)
  ·have ag:=al.trans ae;have f8:W3.δ.fault≠-1:=oM;have hD:=Mt bw bd ba bs W4 b9 cg bf ci aj first (Ac W.δ.size width f.count) width f.count g2 (Z.own r3++aa) W.live bp bq (.inl ⟨di,by rw[aq];exact bg,_,a9.move ae.size (fun x _ _=>by rw[b2])⟩)
   repeat(refine sA ?_;intros)
   refine Go.SL.Lv.call (hc:=hD) (h:=?_);rintro _ _ ⟨ab,au,ac,W7,dr,ds,rfl,av,ad,an,aw,ao⟩;try dsimp only[AA,AB]
   have ax:=Tv bw bd ba bs W7 ab au ac av bx f ts g (Z.own r3++aa) bz b1 (.inr ⟨aw,dj⟩);refine Go.SL.Lv.call (hc:=ax) (h:=?_);rintro _ _ ⟨ah,α8,dt,rfl,ay,ai,az⟩;try dsimp only[AA,AB]
   (refine lN [Ab bw bd ba bs,ab,ah,ac,Z.C r3] ?_;exact bi {W7 with α:=α8} ab ah ac r3 _ ay ((ag.trans (ad.trans ai)).weak (k':=f.blocks+f.count+1+P) oM oM) (AI _) (fun x hx=>by show W7.δ.disk x=_;rw[an,b2];exact bv x hx) az (hZ.stayE _ _ _ (hZ.fin _ _ _ bu) ((ae.trans ad).trans ai).size) (Ki al f8) ao)
 ·obtain rfl:i=f.count:=by omega
  have e7:=Rq bw bx W3 f ts g de df a0;rw[hz] at e7;have f9:=aD bw bd ba bs W3 d8 d9 bf dg aj first (Ac W.δ.size width f.count) width f.count g2 _ bp bq a9 (g::(Z.own r3++aa)) b6 W.live bg oM (by rw[bc];exact Bh dc db da)
  repeat(refine sA ?_;intros)
  refine R.callVP (fs:=[pv bx]) (vs:=[]) (hf:=inferInstance) (hct:=e7) (h:=?_);repeat(refine sA ?_;intros)
  refine cL f9 ?_;rintro _ _ ⟨b9,cg,ga,W4,gb,gc,f',e,rfl,rfl,ci,ae,dk,di,dj,gd⟩;try dsimp only[AA,AB]
  have ge:flv f'= .agg #[Z9 Z8 f'.first,Z9 Z8 f'.blocks,Z9 Z8 f'.width,Z9 Z8 f'.count]:=rfl;rw[ge];have hD:=Mt bw bd ba bs W4 b9 cg ga ci aj first (Ac W.δ.size width f.count) width f.count g2 (g::(Z.own r3++aa)) W4.live gb gc (.inr ⟨di,.refl _,dj⟩)
  repeat(refine sA ?_;intros)
  refine Go.SL.Lv.call (hc:=hD) (h:=?_);rintro _ _ ⟨ab,au,ac,W7,dr,ds,rfl,av,ad,an,aw,ao⟩;try dsimp only[AA,AB]
  have ax:=Tv bw bd ba bs W7 ab au ac av bx f ts g (Z.own r3++aa) de df (.inl ⟨aw,f.count,a0.move (ae.trans ad).size⟩);refine Go.SL.Lv.call (hc:=ax) (h:=?_);rintro _ _ ⟨ah,α8,dt,rfl,ay,ai,az⟩;try dsimp only[AA,AB]
  (refine lN [Ab bw bd ba bs,ab,ah,ac,Z.C r3] ?_;refine⟨ab,ah,ac,{W7 with α:=α8},r3,f',e,rfl,rfl,ay,((al.trans ae).trans (ad.trans ai)).weak oM oM,fun x hx=>by show W7.δ.disk x=_;rw[an];exact(bv.trans dk) x hx,az,hZ.stayE _ _ _ (hZ.fin _ _ _ bu) ((ae.trans ad).trans ai).size,?_⟩);rcases gd with⟨rfl,aq,gf,e8,e9⟩|⟨rfl,rfl,eg,aq⟩
  ·rw[iQ] at e8;exact .inl ⟨rfl,ao.trans aq,gf,e8,by show Be W7.δ.disk _ _ _ _;rw[an,←bc];exact e9⟩
  ·exact .inr ⟨rfl,rfl,Ki al eg,ao.trans aq⟩
def Dq (t:T5) (j:Nat) (x:Int):T5:=
 match j with
 |0=>{t with c0:=x}
 |1=>{t with c1:=x}
 |2=>{t with c2:=x}
 |3=>{t with c3:=x}
 |_=>{t with c4:=x}
theorem uY (t:T5) {j:Nat} (hj:j<5) (x:Int):(Ak t).set j (Z9 Z8 x)=Ak (Dq t j x):=by
 match j,hj with
 |0,_=>rfl
 |1,_=>rfl
 |2,_=>rfl
 |3,_=>rfl
 |4,_=>rfl
theorem uZ (t:T5) {i:Nat} (h:i<5):(Ak t)[i]? =some (Z9 Z8 (t.col i)):=by
 match i,h with
 |0,_=>rfl
 |1,_=>rfl
 |2,_=>rfl
 |3,_=>rfl
 |4,_=>rfl
def lkV (bs:List T5) (k:Int) (v:Nat):Int:=
 match bs.find? fun t=>decide (t.c0=k) with
 |some t=>t.col v
 |none=> -1
def Bf (bs:List T5) (key value to:Nat) (t:T5):T5:=Dq t to (lkV bs (t.col key) value)
theorem Se {bs:List T5} {k:Int} {v:Nat} (h:∀u∈bs,u.c0≠k):lkV bs k v= -1:=by unfold lkV;rw[DY.2 fun u hu=>by simp[h u hu]]
theorem Ix {bs:List T5} (hr:bs.Pairwise fun a c=>a.c0<c.c0) {k:Int} {v:Nat} {t:T5} (ht:t∈bs) (hk:t.c0=k):lkV bs k v=t.col v:=by
 unfold lkV;cases hf:bs.find? fun t=>decide (t.c0=k) with
 |none=>
  rw[DY] at hf;exact(hf t ht (by simp[hk])).elim
 |some u=>
  have h1:u.c0=k:=by simpa using List.find?_some hf
  have h2:=List.mem_of_find?_eq_some hf;obtain⟨i,hi,rfl⟩:=B3.1 ht;obtain⟨j,hj,rfl⟩:=B3.1 h2;rcases CK i j with h3|h3|h3
  ·have:=A9.1 hr i j hi hj h3;omega
  ·subst h3;rfl
  ·have:=A9.1 hr j i hj hi h3;omega
structure LkS where
 pos:Nat
 ok:Bool
 begun:Bool
 t:T5
 last:Int
 any:Bool
 cx:Aa
 cb:Aa
 op:Bool
structure Gi (bs:List T5) (s:LkS) (k:Int):Prop where
 nb:s.begun=false→s.pos=0
 yes:s.begun=true→s.ok=true→∃p,s.pos=p+1∧bs[p]? =some s.t∧∀j u,j<p→bs[j]? =some u→u.c0<k
 no:s.begun=true→s.ok=false→s.pos=bs.length∧∀u∈bs,u.c0<k
theorem Gi.up {bs:List T5} {s:LkS} {k k':Int} (h:Gi bs s k) (hk:k≤k'):Gi bs s k' where
 nb:=h.nb
 yes a b:=by obtain⟨p,h1,h2,h3⟩:=h.yes a b;exact⟨p,h1,h2,fun j u hj hu=>by have:=h3 j u hj hu;omega⟩
 no a b:=⟨(h.no a b).1,fun u hu=>by have:=(h.no a b).2 u hu;omega⟩
theorem Gi.all {bs:List T5} {s:LkS} {k:Int} (h:Gi bs s k) (hc:s.begun=true→s.ok=true∧s.t.c0<k):∀j u,j<s.pos→bs[j]? =some u→u.c0<k:=by
 intro j u hj hu;cases hb:s.begun with
 |false=>have:=h.nb hb;omega
 |true=>
  obtain⟨h1,h2⟩:=hc hb;obtain⟨p,h3,h4,h5⟩:=h.yes hb h1;rcases Nat.lt_or_ge j p with h6|h6
  ·exact h5 j u h6 hu
  ·obtain rfl:j=p:=by omega
   rw[h4] at hu;rw[←BC hu];exact h2
def Iy (bl bx key value to:Nat) (s:LkS):Aa:=[(bl,row [.func (.func 97) #[pv bx] #[],Z9 Z8 s.t.c0,Z9 Z8 s.t.c1,Z9 Z8 s.t.c2,Z9 Z8 s.t.c3,Z9 Z8 s.t.c4,.bool s.ok,.bool s.begun,Z9 Z8 key,Z9 Z8 value,Z9 Z8 to,Z9 Z8 s.last,.bool s.any] 187)]
theorem vA (bw bd ba bs bl bx key value to:Nat) (W:Wk) (cd ca cs:Aa) (h:Wc bd ba bs W cd ca cs) (fb:Fl) (bts:List T5) (LvB:List Ext) (a0:Be W.δ.disk W.δ.size LvB fb bts) (az:∀e∈LvB,e∈W.live) (am:bts.Pairwise fun a c=>a.c0<c.c0) (g:Gr) (Gs:List Gr) (hg:W.α.gs.Perm (g::Gs)) (s:LkS) (ae:De bw bx W fb bts g s.pos s.cx s.cb) (ay:s.pos≤fb.count) (hs:s.begun=true→s.ok=true∧∃p,s.pos=p+1∧bts[p]? =some s.t) (a1:W.δ.acts≤1000000000000):Ct AC 213 [pv bl] [Iy bl bx key value to s,Ab bw bd ba bs,cd,ca,cs,s.cx,s.cb] fun v H'=> ∃cd' ca' W' s' e,v=Z9 Z8 e∧H'=[Iy bl bx key value to s',Ab bw bd ba bs,cd',ca',cs,s'.cx,s'.cb]∧Wc bd ba bs W' cd' ca' cs∧Ev W W' (Ac W.δ.size fb.width s'.pos-Ac W.δ.size fb.width s.pos) 0∧W'.δ.disk=W.δ.disk∧W'.σ=W.σ∧W'.live=W.live∧s'.last=s.last∧s'.any=s.any∧s'.begun=true∧((e=0∧W'.α.gs.Perm (g::Gs)∧De bw bx W' fb bts g s'.pos s'.cx s'.cb∧((s.pos<fb.count∧s'.pos=s.pos+1∧s'.ok=true∧bts[s.pos]? =some s'.t)∨(s.pos=fb.count∧s'.pos=s.pos∧s'.ok=false)))∨ (e=6∧W.δ.fault≠-1∧W'.α.gs.Perm Gs∧Kv bx s'.cx∧s'.pos≤fb.count∧s.pos≤s'.pos)):=by
 have hz:tv T5.zero= .agg #[Z9 Z8 T5.zero.c0,Z9 Z8 T5.zero.c1,Z9 Z8 T5.zero.c2,Z9 Z8 T5.zero.c3,Z9 Z8 T5.zero.c4]:=rfl;have a6:=a0.len;obtain⟨pos,ok,begun,t,last,any,cx,cb,op⟩:=s;unfold Iy;dsimp only at ae ay hs⊢;by_cases al:pos<fb.count
 ·have an:bts[pos]? =some bts[pos]:=AG oM;have ao:=Qe bw bd ba bs W cd ca cs h bx fb bts LvB a0 az g Gs hg pos cx cb ae _ an a1;have a2:tv bts[pos]= .agg #[Z9 Z8 (bts[pos]).c0,Z9 Z8 (bts[pos]).c1,Z9 Z8 (bts[pos]).c2,Z9 Z8 (bts[pos]).c3,Z9 Z8 (bts[pos]).c4]:=rfl;rw[a2,hz] at ao;have a3:begun=true→¬(bts[pos]).c0≤t.c0:=fun hb=>by obtain⟨_,p,h1,h2⟩:=hs hb;obtain⟨hp,h3⟩:=AK.1 h2;have:=A9.1 am p pos hp oM oM;rw[h3] at this;omega
  generalize hu:bts[pos]=u at*;cases begun with
  |false=>
   refine cG func213 fun _=>?_;repeat(refine sv ?_;intros)
   refine R.callV (fs:=[pv bx]) (vs:=[]) (hf:=inferInstance) (hct:=ao) (h:=?_);rintro _ _ ⟨aa,ab,W4,ac,ad,rfl,ag,ah,ai,aj,ak,⟨rfl,aq,au⟩|⟨rfl,a4,a5,av,aw⟩⟩<;>dsimp only[AA,AB]
   ·repeat(refine sv ?_;intros)
    (refine dP [[(bl,row [.func (.func 97) #[pv bx] #[],Z9 Z8 u.c0,Z9 Z8 u.c1,Z9 Z8 u.c2,Z9 Z8 u.c3,Z9 Z8 u.c4,.bool true,.bool true,Z9 Z8 key,Z9 Z8 value,Z9 Z8 to,Z9 Z8 last,.bool any] 187)],Ab bw bd ba bs,aa,ab,cs,ac,ad] ?_;exact⟨aa,ab,W4,⟨pos+1,true,true,u,last,any,ac,ad,op⟩,0,rfl,rfl,ag,ah,ai,aj,ak,rfl,rfl,rfl,.inl ⟨rfl,by rw[aq];exact hg,au,.inl ⟨al,rfl,rfl,an⟩⟩⟩)
   ·repeat(refine sv ?_;intros)
    (refine dP [[(bl,row [.func (.func 97) #[pv bx] #[],Z9 Z8 T5.zero.c0,Z9 Z8 T5.zero.c1,Z9 Z8 T5.zero.c2,Z9 Z8 T5.zero.c3,Z9 Z8 T5.zero.c4,.bool false,.bool true,Z9 Z8 key,Z9 Z8 value,Z9 Z8 to,Z9 Z8 last,.bool any] 187)],Ab bw bd ba bs,aa,ab,cs,ac,ad] ?_;exact⟨aa,ab,W4,⟨pos+1,false,true,T5.zero,last,any,ac,ad,op⟩,6,rfl,rfl,ag,ah,ai,aj,ak,rfl,rfl,rfl,.inr ⟨rfl,oM,av,aw,al,Nat.le_succ _⟩⟩)
  |true=>
   obtain⟨rfl,_⟩:=hs rfl;have a7:=a3 rfl;refine cG func213 fun _=>?_;repeat(refine sv ?_;intros)
   refine R.callV (fs:=[pv bx]) (vs:=[]) (hf:=inferInstance) (hct:=ao) (h:=?_);rintro _ _ ⟨aa,ab,W4,ac,ad,rfl,ag,ah,ai,aj,ak,⟨rfl,aq,au⟩|⟨rfl,a4,a5,av,aw⟩⟩<;>dsimp only[AA,AB]
   ·repeat(refine sv ?_;intros)
    (refine dP [[(bl,row [.func (.func 97) #[pv bx] #[],Z9 Z8 u.c0,Z9 Z8 u.c1,Z9 Z8 u.c2,Z9 Z8 u.c3,Z9 Z8 u.c4,.bool true,.bool true,Z9 Z8 key,Z9 Z8 value,Z9 Z8 to,Z9 Z8 last,.bool any] 187)],Ab bw bd ba bs,aa,ab,cs,ac,ad] ?_;exact⟨aa,ab,W4,⟨pos+1,true,true,u,last,any,ac,ad,op⟩,0,rfl,rfl,ag,ah,ai,aj,ak,rfl,rfl,rfl,.inl ⟨rfl,by rw[aq];exact hg,au,.inl ⟨al,rfl,rfl,an⟩⟩⟩)
   ·repeat(refine sv ?_;intros)
    (refine dP [[(bl,row [.func (.func 97) #[pv bx] #[],Z9 Z8 T5.zero.c0,Z9 Z8 T5.zero.c1,Z9 Z8 T5.zero.c2,Z9 Z8 T5.zero.c3,Z9 Z8 T5.zero.c4,.bool false,.bool true,Z9 Z8 key,Z9 Z8 value,Z9 Z8 to,Z9 Z8 last,.bool any] 187)],Ab bw bd ba bs,aa,ab,cs,ac,ad] ?_;exact⟨aa,ab,W4,⟨pos+1,false,true,T5.zero,last,any,ac,ad,op⟩,6,rfl,rfl,ag,ah,ai,aj,ak,rfl,rfl,rfl,.inr ⟨rfl,oM,av,aw,al,Nat.le_succ _⟩⟩)
 ·obtain rfl:pos=fb.count:=by omega
  have ax:=Rq bw bx W fb bts g cx cb ae;rw[hz] at ax;cases begun with
  |false=>
   refine cG func213 fun _=>?_;repeat(refine sv ?_;intros)
   refine R.callVP (fs:=[pv bx]) (vs:=[]) (hf:=inferInstance) (hct:=ax) (h:=?_);repeat(refine sv ?_;intros)
   (refine dP [[(bl,row [.func (.func 97) #[pv bx] #[],Z9 Z8 T5.zero.c0,Z9 Z8 T5.zero.c1,Z9 Z8 T5.zero.c2,Z9 Z8 T5.zero.c3,Z9 Z8 T5.zero.c4,.bool false,.bool true,Z9 Z8 key,Z9 Z8 value,Z9 Z8 to,Z9 Z8 last,.bool any] 187)],Ab bw bd ba bs,cd,ca,cs,cx,cb] ?_;exact⟨cd,ca,W,⟨fb.count,false,true,T5.zero,last,any,cx,cb,op⟩,0,rfl,rfl,h,(Ev.refl W).weak (AU _) (AI _),rfl,rfl,rfl,rfl,rfl,rfl,.inl ⟨rfl,hg,ae,.inr ⟨rfl,rfl,rfl⟩⟩⟩)
  |true=>
   obtain⟨rfl,_⟩:=hs rfl;refine cG func213 fun _=>?_;repeat(refine sv ?_;intros)
   refine R.callVP (fs:=[pv bx]) (vs:=[]) (hf:=inferInstance) (hct:=ax) (h:=?_);repeat(refine sv ?_;intros)
   (refine dP [[(bl,row [.func (.func 97) #[pv bx] #[],Z9 Z8 T5.zero.c0,Z9 Z8 T5.zero.c1,Z9 Z8 T5.zero.c2,Z9 Z8 T5.zero.c3,Z9 Z8 T5.zero.c4,.bool false,.bool true,Z9 Z8 key,Z9 Z8 value,Z9 Z8 to,Z9 Z8 last,.bool any] 187)],Ab bw bd ba bs,cd,ca,cs,cx,cb] ?_;exact⟨cd,ca,W,⟨fb.count,false,true,T5.zero,last,any,cx,cb,op⟩,0,rfl,rfl,h,(Ev.refl W).weak (AU _) (AI _),rfl,rfl,rfl,rfl,rfl,rfl,.inl ⟨rfl,hg,ae,.inr ⟨rfl,rfl,rfl⟩⟩⟩)
theorem Wi {c:List Value} (h:c.length=5):Bq [Z9 Z8 0,Z9 Z8 0,Z9 Z8 0,Z9 Z8 0,Z9 Z8 0] 0 c=c:=by rw[Lm _ _ _ (by simp[h]),h];simp
structure LkLX where
 cd:Aa
 ca:Aa
 W:Wk
 s:LkS
theorem Gi.more {bs:List T5} {s s':LkS} {k:Int} (h:Gi bs s k) (hc:s.begun=true→s.ok=true∧s.t.c0<k) (hb:s'.begun=true) (hm:(s'.pos=s.pos+1∧s'.ok=true∧bs[s.pos]? =some s'.t)∨(s.pos=bs.length∧s'.pos=s.pos∧s'.ok=false)):Gi bs s' k:=by
 have ha:=h.all hc;refine⟨fun h1=>(by rw[hb] at h1;cases h1),fun _ ho=>?_,fun _ ho=>?_⟩
 ·rcases hm with⟨h1,_,h3⟩|⟨_,_,h3⟩
  ·exact⟨s.pos,h1,h3,ha⟩
  ·rw[h3] at ho;cases ho
 ·rcases hm with⟨_,h2,_⟩|⟨h1,h2,_⟩
  ·rw[h2] at ho;cases ho
  ·refine⟨h2.trans h1,fun u hu=>?_⟩;obtain⟨j,hj,rfl⟩:=B3.1 hu;exact ha j _ oM (AG hj)
theorem Gi.hit {bs:List T5} {s:LkS} {k:Int} (h:Gi bs s k) (hr:bs.Pairwise fun a c=>a.c0<c.c0) (hb:s.begun=true) (ho:s.ok=true) (hk:s.t.c0=k) (v:Nat):lkV bs k v=s.t.col v:=by obtain⟨p,_,h2,_⟩:=h.yes hb ho;exact Ix hr (AY h2) hk
theorem Gi.over {bs:List T5} {s:LkS} {k:Int} (h:Gi bs s k) (hr:bs.Pairwise fun a c=>a.c0<c.c0) (hb:s.begun=true) (ho:s.ok=true) (hk:k<s.t.c0) (v:Nat):lkV bs k v= -1:=by
 obtain⟨p,_,h2,h3⟩:=h.yes hb ho;obtain⟨hp,h4⟩:=AK.1 h2;refine Se fun u hu=>?_;obtain⟨j,hj,rfl⟩:=B3.1 hu;rcases CK j p with h5|h5|h5
 ·have:=h3 j _ h5 (AG hj);omega
 ·subst h5;rw[h4];omega
 ·have:=A9.1 hr p j hp hj h5;rw[h4] at this;omega
theorem Gi.out {bs:List T5} {s:LkS} {k:Int} (h:Gi bs s k) (hb:s.begun=true) (ho:s.ok=false) (v:Nat):lkV bs k v= -1:=
 Se fun u hu=>by have:=(h.no hb ho).2 u hu;omega
theorem vB (bw bd ba bs bl bx key value to:Nat) (c7:key<5) (c5:value<5) (de:to<5) (W:Wk) (cd ca cs:Aa) (h:Wc bd ba bs W cd ca cs) (fb:Fl) (bts:List T5) (LvB:List Ext) (b6:Be W.δ.disk W.δ.size LvB fb bts) (c8:∀e∈LvB,e∈W.live) (a2:bts.Pairwise fun a c=>a.c0<c.c0) (g:Gr) (Gs:List Gr) (hg:W.α.gs.Perm (g::Gs)) (s:LkS) (c6:De bw bx W fb bts g s.pos s.cx s.cb) (b8:s.pos≤fb.count) (t:T5) (hs:Gi bts s (t.col key)) (b9:s.any=true→s.last≤t.col key) (dy:W.δ.acts≤100000000000) (dz:fb.count≤1000000):Ct AC 170 [pv bl,tv t] [Iy bl bx key value to s,Ab bw bd ba bs,cd,ca,cs,s.cx,s.cb] fun v H'=> ∃cd' ca' W' s' u k e,v= .tuple #[tv u,.bool k,Z9 Z8 e]∧H'=[Iy bl bx key value to s',Ab bw bd ba bs,cd',ca',cs,s'.cx,s'.cb]∧Wc bd ba bs W' cd' ca' cs∧Ev W W' (Ac W.δ.size fb.width s'.pos-Ac W.δ.size fb.width s.pos) 0∧W'.δ.disk=W.δ.disk∧W'.σ=W.σ∧W'.live=W.live∧s.pos≤s'.pos∧s'.pos≤fb.count∧((e=0∧k=true∧u=Bf bts key value to t∧W'.α.gs.Perm (g::Gs)∧De bw bx W' fb bts g s'.pos s'.cx s'.cb∧Gi bts s' (t.col key)∧s'.any=true∧s'.last=t.col key)∨ (e=6∧W.δ.fault≠-1∧W'.α.gs.Perm Gs∧Kv bx s'.cx)):=by
 have dr:=b6.len;have d0:=Dl (n:=fb.count) (Bh h.dev.num.1.1 b6.w1 b6.w2);have df:tv t= .agg #[Z9 Z8 t.c0,Z9 Z8 t.c1,Z9 Z8 t.c2,Z9 Z8 t.c3,Z9 Z8 t.c4]:=rfl;have dg:Ak t=[Z9 Z8 t.c0,Z9 Z8 t.c1,Z9 Z8 t.c2,Z9 Z8 t.c3,Z9 Z8 t.c4]:=rfl;have hq:=uZ t c7;have cg:∀x,(Ak t).set to (Z9 Z8 x)=Ak (Dq t to x):=fun x=>uY t de x;have bi:∀u:T5,u=Dq t to (lkV bts (t.col key) value)→.agg (Ak (Dq t to (lkV bts (t.col key) value))).toArray=tv (Bf bts key value to t):=fun _ _=>rfl;have bi:=bi _ rfl;have cu: .agg (Ak t).toArray=tv t:=rfl;generalize hk:t.col key=k at*;rw[df];rw[dg] at hq cg cu;generalize c9:([Z9 Z8 t.c0,Z9 Z8 t.c1,Z9 Z8 t.c2,Z9 Z8 t.c3,Z9 Z8 t.c4]:List Value)=cc at*;have dh:cc.length=5:=by rw[←c9];rfl
 have ds:(Value.agg cc.toArray).cells=cc.toArray:=rfl;have d1:(cc.drop 0).take 5=cc:=by rw[CX,A6 oM]
 have d2:cc.all Value.oneCell'=true:=by rw[←c9];rfl
 have d3:=Wi dh;obtain⟨pos,ok,begun,tb,last,any,cx,cb,op⟩:=s;unfold Iy;dsimp only at c6 b8 hs b9⊢;have di:any=true→¬k<last:=fun h=>by have:=b9 h;omega
 have dj:Gi bts ⟨pos,ok,begun,tb,k,true,cx,cb,op⟩ k:=⟨hs.nb,hs.yes,hs.no⟩
 cases any
 case' true=>have dt:=di rfl
 all_goals
  refine cG func170 fun _=>?_;repeat(refine sv ?_;intros)
  rename_i b3 b4;refine G.loop (X:=LkLX) (fun x=>Wc bd ba bs x.W x.cd x.ca cs∧Ev W x.W (Ac W.δ.size fb.width x.s.pos-Ac W.δ.size fb.width pos) 0∧x.W.δ.disk=W.δ.disk∧x.W.σ=W.σ∧x.W.live=W.live∧pos≤x.s.pos∧x.s.pos≤fb.count∧x.W.α.gs.Perm (g::Gs)∧De bw bx x.W fb bts g x.s.pos x.s.cx x.s.cb∧Gi bts x.s k∧x.s.any=true∧x.s.last=k)
   (fun _=>[(7,Z9 Z8 k),(4,pv b4),(3,pv b3),(0,pv bl)])
   (fun x=>[[(b4,row [Z9 Z8 0,Z9 Z8 0,Z9 Z8 0,Z9 Z8 0,Z9 Z8 0] 33)],[(b3,row cc 33)],[(bl,row [.func (.func 97) #[pv bx] #[],Z9 Z8 x.s.t.c0,Z9 Z8 x.s.t.c1,Z9 Z8 x.s.t.c2,Z9 Z8 x.s.t.c3,Z9 Z8 x.s.t.c4,.bool x.s.ok,.bool x.s.begun,Z9 Z8 key,Z9 Z8 value,Z9 Z8 to,Z9 Z8 x.s.last,.bool x.s.any] 187)],Ab bw bd ba bs,x.cd,x.ca,cs,x.s.cx,x.s.cb])
   (fun x=>(fb.count-x.s.pos)+(if x.s.begun=true∧x.s.ok=false then 0 else 1)) ⟨cd,ca,W,⟨pos,ok,begun,tb,k,true,cx,cb,op⟩⟩
   ⟨h,(Ev.refl W).weak (AU _) (AI _),rfl,rfl,rfl,AI _,b8,hg,c6,dj,rfl,rfl⟩ (body:=?_)
  rintro⟨ao,aq,W2,⟨ah,ok2,aj,ab,aa,du,au,av,b7⟩⟩ ⟨bk,am,bg,bp,bh,aw,ai,bq,ax,an,da,ci⟩;dsimp only at bk am bg bp bh aw ai bq ax an da ci⊢;subst da ci;have dw:=am.acts.2;have d4:Ac W.δ.size fb.width pos≤Ac W.δ.size fb.width ah:=Da aw;have d5:Ac W.δ.size fb.width ah≤Ac W.δ.size fb.width fb.count:=Da ai;have db:(aj=true→ok2=true∧ab.c0<aa)→Ct AC 213 [pv bl] [[(bl,row [.func (.func 97) #[pv bx] #[],Z9 Z8 ab.c0,Z9 Z8 ab.c1,Z9 Z8 ab.c2,Z9 Z8 ab.c3,Z9 Z8 ab.c4,.bool ok2,.bool aj,Z9 Z8 key,Z9 Z8 value,Z9 Z8 to,Z9 Z8 aa,.bool true] 187)],Ab bw bd ba bs,ao,aq,cs,au,av] fun v H'=>
    ∃cd' ca' W' s' e,v=Z9 Z8 e∧H'=[[(bl,row [.func (.func 97) #[pv bx] #[],Z9 Z8 s'.t.c0,Z9 Z8 s'.t.c1,Z9 Z8 s'.t.c2,Z9 Z8 s'.t.c3,Z9 Z8 s'.t.c4,.bool s'.ok,.bool s'.begun,Z9 Z8 key,Z9 Z8 value,Z9 Z8 to,Z9 Z8 s'.last,.bool s'.any] 187)],Ab bw bd ba bs,cd',ca',cs,s'.cx,s'.cb]∧Wc bd ba bs W' cd' ca' cs∧Ev W W' (Ac W.δ.size fb.width s'.pos-Ac W.δ.size fb.width pos) 0∧W'.δ.disk=W.δ.disk∧W'.σ=W.σ∧W'.live=W.live∧
     s'.last=aa∧s'.any=true∧s'.begun=true∧pos≤s'.pos∧s'.pos≤fb.count∧
     ((e=0∧W'.α.gs.Perm (g::Gs)∧De bw bx W' fb bts g s'.pos s'.cx s'.cb∧Gi bts s' aa∧(fb.count-s'.pos)+(if s'.begun=true∧s'.ok=false then 0 else 1)<(fb.count-ah)+1)∨
      (e=6∧W.δ.fault≠-1∧W'.α.gs.Perm Gs∧Kv bx s'.cx)):=by
   intro hc;have hM:=vA bw bd ba bs bl bx key value to W2 ao aq cs bk fb bts LvB (by rw[bg,am.size];exact b6) (fun e he=>by rw[bh];exact c8 e he) a2 g Gs bq ⟨ah,ok2,aj,ab,aa,true,au,av,b7⟩ ax ai (fun hb=>by
    obtain⟨h1,_⟩:=hc hb;obtain⟨p,h2,h3,_⟩:=an.yes hb h1;exact⟨h1,p,h2,h3⟩) oM
   refine hM.mono ?_;rintro v H' ⟨cd',ca',W',s',e,rfl,rfl,dk,cv,dl,dm,dp,e1,e2,e3,cw⟩;rw[am.size] at cv;dsimp only at cv e1 e2 cw;have dc:ah≤s'.pos∧s'.pos≤fb.count:=by
    rcases cw with⟨_,_,_,⟨h1,h2,_⟩|⟨h1,h2,_⟩⟩|⟨_,_,_,_,h5,h6⟩
    ·omega
    ·omega
    ·exact⟨h6,h5⟩
   have d6:Ac W.δ.size fb.width ah≤Ac W.δ.size fb.width s'.pos:=Da dc.1;refine⟨cd',ca',W',s',e,rfl,rfl,dk,(am.trans cv).weak oM (AI _),dl.trans bg,dm.trans bp,dp.trans bh,e1,e2,e3,oM,dc.2,?_⟩;rcases cw with⟨rfl,g1,g2,g3⟩|⟨rfl,f1,f2,f3,_⟩
   ·refine .inl ⟨rfl,g1,g2,an.more hc e3 (by
     rcases g3 with⟨_,q1,q2,q3⟩|⟨q0,q1,q2⟩
     ·exact .inl ⟨q1,q2,q3⟩
     ·exact .inr ⟨oD,q1,q2⟩),?_⟩
    rcases g3 with⟨q0,q1,q2,q3⟩|⟨q0,q1,q2⟩
    ·split<;>omega
    ·rw[if_pos ⟨e3,q2⟩];omega
   ·exact .inr ⟨rfl,Ki am f1,f2,f3⟩
  have bu:∀x:Int,lkV bts aa value=x→cc.set to (Z9 Z8 x)=Ak (Dq t to (lkV bts aa value)):=fun x hx=>by rw[cg,hx]
  cases aj with
  |false=>
   have hM:=db (fun h=>by cases h);have cz:(if(false:Bool)=true∧ok2=false then 0 else 1)=1:=if_neg oA19;repeat(refine sv ?_;intros)
   refine cL hM ?_;rintro _ _ ⟨a3,a4,W3,⟨ay,a5,ac,ad,ae,ak,a6,a7,bv⟩,e,rfl,rfl,a8,a9,bc,be,bf,az,a0,bz,al,ag,b1⟩;try dsimp only[AA,AB]
   dsimp only at a8 a9 bc be bf az a0 bz al ag b1⊢;rcases b1 with⟨rfl,g1,g2,g3,g4⟩|⟨rfl,f1,f2,f3⟩
   ·repeat(refine sv ?_;intros)
    refine Dn.round ⟨a3,a4,W3,⟨ay,a5,ac,ad,ae,ak,a6,a7,bv⟩⟩ ⟨a8,a9,bc,be,bf,al,ag,g1,g2,g3,a0,az⟩ (by dsimp only;rw[cz];exact g4)
   ·repeat(refine sv ?_;intros)
    (refine dP [[(bl,row [.func (.func 97) #[pv bx] #[],Z9 Z8 ad.c0,Z9 Z8 ad.c1,Z9 Z8 ad.c2,Z9 Z8 ad.c3,Z9 Z8 ad.c4,.bool a5,.bool ac,Z9 Z8 key,Z9 Z8 value,Z9 Z8 to,Z9 Z8 ae,.bool ak] 187)],Ab bw bd ba bs,a3,a4,cs,a6,a7] ?_;exact⟨a3,a4,W3,⟨ay,a5,ac,ad,ae,ak,a6,a7,bv⟩,t,false,6,by rw[←cu];rfl,rfl,a8,a9,bc,be,bf,al,ag,.inr ⟨rfl,f1,f2,f3⟩⟩)
  |true=>
   cases ok2 with
   |false=>
    have hv:=an.out rfl rfl value;have b2:=bu _ hv;have a1:=bi;have b5:(Ak (Dq t to (lkV bts aa value))).length=5:=rfl;have dd:(Ak (Dq t to (lkV bts aa value))).all Value.oneCell'=true:=rfl;generalize Ak (Dq t to (lkV bts aa value))=c2 at*;have cj:(c2.drop 0).take 5=c2:=by rw[CX,A6 oM]
    have cm:=Wi b5;repeat(refine sv ?_;intros)
    (refine dP [[(bl,row [.func (.func 97) #[pv bx] #[],Z9 Z8 ab.c0,Z9 Z8 ab.c1,Z9 Z8 ab.c2,Z9 Z8 ab.c3,Z9 Z8 ab.c4,.bool false,.bool true,Z9 Z8 key,Z9 Z8 value,Z9 Z8 to,Z9 Z8 aa,.bool true] 187)],Ab bw bd ba bs,ao,aq,cs,au,av] ?_;exact⟨ao,aq,W2,⟨ah,false,true,ab,aa,true,au,av,b7⟩,Bf bts key value to t,true,0,by rw[←a1];rfl,rfl,bk,am,bg,bp,bh,aw,ai,.inl ⟨rfl,rfl,rfl,bq,ax,an,rfl,rfl⟩⟩)
   |true=>
    by_cases dq:ab.c0<aa
    ·have hM:=db (fun _=>⟨rfl,dq⟩);have cz:(if(true:Bool)=true∧(true:Bool)=false then 0 else 1)=1:=if_neg oA19;repeat(refine sv ?_;intros)
     refine cL hM ?_;rintro _ _ ⟨a3,a4,W3,⟨ay,a5,ac,ad,ae,ak,a6,a7,bv⟩,e,rfl,rfl,a8,a9,bc,be,bf,az,a0,bz,al,ag,b1⟩;try dsimp only[AA,AB]
     dsimp only at a8 a9 bc be bf az a0 bz al ag b1⊢;rcases b1 with⟨rfl,g1,g2,g3,g4⟩|⟨rfl,f1,f2,f3⟩
     ·repeat(refine sv ?_;intros)
      refine Dn.round ⟨a3,a4,W3,⟨ay,a5,ac,ad,ae,ak,a6,a7,bv⟩⟩ ⟨a8,a9,bc,be,bf,al,ag,g1,g2,g3,a0,az⟩ (by dsimp only;rw[cz];exact g4)
     ·repeat(refine sv ?_;intros)
      (refine dP [[(bl,row [.func (.func 97) #[pv bx] #[],Z9 Z8 ad.c0,Z9 Z8 ad.c1,Z9 Z8 ad.c2,Z9 Z8 ad.c3,Z9 Z8 ad.c4,.bool a5,.bool ac,Z9 Z8 key,Z9 Z8 value,Z9 Z8 to,Z9 Z8 ae,.bool ak] 187)],Ab bw bd ba bs,a3,a4,cs,a6,a7] ?_;exact⟨a3,a4,W3,⟨ay,a5,ac,ad,ae,ak,a6,a7,bv⟩,t,false,6,by rw[←cu];rfl,rfl,a8,a9,bc,be,bf,al,ag,.inr ⟨rfl,f1,f2,f3⟩⟩)
    ·by_cases heq:ab.c0=aa
     ·have hv:=an.hit a2 rfl rfl heq value;dsimp only at hv;have b2:=bu _ hv;have a1:=bi;have dx:([.func (.func 97) #[pv bx] #[],Z9 Z8 ab.c0,Z9 Z8 ab.c1,Z9 Z8 ab.c2,Z9 Z8 ab.c3,Z9 Z8 ab.c4,.bool true,.bool true,Z9 Z8 key,Z9 Z8 value,Z9 Z8 to,Z9 Z8 aa,.bool true]:List Value)[1+value]? =some (Z9 Z8 (ab.col value)):=by
       match value,c5 with
       |0,_=>rfl
       |1,_=>rfl
       |2,_=>rfl
       |3,_=>rfl
       |4,_=>rfl
      have b5:(Ak (Dq t to (lkV bts aa value))).length=5:=rfl;have dd:(Ak (Dq t to (lkV bts aa value))).all Value.oneCell'=true:=rfl;generalize Ak (Dq t to (lkV bts aa value))=c2 at*;have cj:(c2.drop 0).take 5=c2:=by rw[CX,A6 oM]
      have cm:=Wi b5;generalize ab.col value=y at*;repeat(refine sv ?_;intros)
      (refine dP [[(bl,row [.func (.func 97) #[pv bx] #[],Z9 Z8 ab.c0,Z9 Z8 ab.c1,Z9 Z8 ab.c2,Z9 Z8 ab.c3,Z9 Z8 ab.c4,.bool true,.bool true,Z9 Z8 key,Z9 Z8 value,Z9 Z8 to,Z9 Z8 aa,.bool true] 187)],Ab bw bd ba bs,ao,aq,cs,au,av] ?_;exact⟨ao,aq,W2,⟨ah,true,true,ab,aa,true,au,av,b7⟩,Bf bts key value to t,true,0,by rw[←a1];rfl,rfl,bk,am,bg,bp,bh,aw,ai,.inl ⟨rfl,rfl,rfl,bq,ax,an,rfl,rfl⟩⟩)
     ·have hv:=an.over a2 rfl rfl oD value;have b2:=bu _ hv;have a1:=bi;have b5:(Ak (Dq t to (lkV bts aa value))).length=5:=rfl;have dd:(Ak (Dq t to (lkV bts aa value))).all Value.oneCell'=true:=rfl;generalize Ak (Dq t to (lkV bts aa value))=c2 at*;have cj:(c2.drop 0).take 5=c2:=by rw[CX,A6 oM]
      have cm:=Wi b5;repeat(refine sv ?_;intros)
      (refine dP [[(bl,row [.func (.func 97) #[pv bx] #[],Z9 Z8 ab.c0,Z9 Z8 ab.c1,Z9 Z8 ab.c2,Z9 Z8 ab.c3,Z9 Z8 ab.c4,.bool true,.bool true,Z9 Z8 key,Z9 Z8 value,Z9 Z8 to,Z9 Z8 aa,.bool true] 187)],Ab bw bd ba bs,ao,aq,cs,au,av] ?_;exact⟨ao,aq,W2,⟨ah,true,true,ab,aa,true,au,av,b7⟩,Bf bts key value to t,true,0,by rw[←a1];rfl,rfl,bk,am,bg,bp,bh,aw,ai,.inl ⟨rfl,rfl,rfl,bq,ax,an,rfl,rfl⟩⟩)
end Go.Proofs.YtaofijjjheiknaaGreat
