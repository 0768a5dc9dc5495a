/-
  Parts of the proof, put together: JobB, JobM, OverPut, Tree1, Tree2, Tree3, Tree4, JobL, Tree5, LayK, Join, Look. No condition.
-/
import Derived.Test.YtlnehgklibbjiaaGreatE20
set_option linter.unusedVariables false
set_option linter.unusedSimpArgs false
set_option linter.unnecessarySimpa false
set_option maxHeartbeats 4000000
namespace Go.Proofs.YtlnehgklibbjiaaGreat
open Go.SL Go.Spc Go.Tup Go.Srt
structure BegX where
 k:Nat
 ca:Chunk
 α:Ar
theorem fcells_get {fs:List Fl} {rest:List Value} {j:Nat} {f:Fl} (h:fs[j]? =some f):
  ((fcells fs++rest).drop (j*4)).take 4=[.int .i64 (f.first:Int),.int .i64 (f.blocks:Int),.int .i64 (f.width:Int),.int .i64 (f.count:Int)]:=by
 have hgf:=fc_get (rs:=fs.map fun f=>(f,[])) (rest:=rest) (j:=j) (r:=(f,[])) (by simp[h])
 rw[List.map_map] at hgf
 have hid:(fs.map ((fun x:Fl×List T5=>x.1)∘fun f=>(f,[])))=fs:=by simp[Function.comp_def]
 rw[hid] at hgf
 exact hgf
theorem vecpos {E sz:Nat} {p:Option Addr} {m cap:Nat} {xs:List Value} {c:Chunk} (h:Vec E sz p m cap xs c) (hm:0<m):∃b rest,p=some ⟨b,0,none⟩∧c=[(b,row (xs++rest) E)]∧cap*sz≤xs.length+rest.length∧m≤cap∧cap≤maxLen:=by
 rcases h.2 with⟨_,e,_⟩|hh
 ·omega
 ·exact hh
theorem Begin_ct (bw bd ba bs:Nat) (W:Wk) (cd ca cs:Chunk) (h:Wc bd ba bs W cd ca cs) (l:List (Fl×List T5)) (hl:∀x∈l,FileIn W x) (hll:l.length≤1000) (pa:Option Addr) (cap:Nat) (cf:Chunk) (hVf:Vec 27 4 pa l.length cap (fcells (l.map (·.1))) cf):
  Ct Tryz.prog 44 [pv bw,.slice pa l.length cap] [wrow bw bd ba bs,cd,ca,cs,cf] fun v H'=>∃ca' α',Wc bd ba bs {W with α:=α'} cd ca' cs∧α'.gs.Perm W.α.gs∧α'.room=W.α.room∧
   ((8*W.δ.size≤W.α.room-W.α.used∧∃bj,v= .tuple #[pv bj,.int .i64 0]∧H'=[jrow bj bw 0 none 0 0,wrow bw bd ba bs,cd,ca',cs,cf])∨
    (W.α.room-W.α.used<8*W.δ.size∧v= .tuple #[.pointer none,.int .i64 7]∧H'=[wrow bw bd ba bs,cd,ca',cs,cf])):=by
 have hWA:=WArena_ct bw bd ba bs
 have hWD:=WDevice_ct bw bd ba bs
 have hSz:=Size_ct bd W.δ cd h.dev
 obtain⟨⟨hs1,hs2⟩,_⟩:=h.dev.num
 have hmul:IntKind.wrap .i64 ((8:Int)*(W.δ.size:Int))=((8*W.δ.size:Nat):Int):=by rw[wrap_i64 (by omega)];omega
 unfold jrow
 refine Ct.intro Tryz.func44 rfl Tryz.ntmps44 (nle rfl) fun w0=> ?_;dsimp only[argSlots,Nat.reduceAdd]
 repeat(first|(refine st ?_;intros)|(refine cq hWA ?_)|(refine cq hWD ?_)|(refine cq hLf ?_)|(refine cq hSz ?_))
 refine G.loop (X:=BegX) (fun x=>x.k≤l.length∧Wc bd ba bs {W with α:=x.α} cd x.ca cs∧x.α.gs.Perm W.α.gs∧x.α.room=W.α.room)
  (fun x=>[(14,.int .i64 (x.k:Int)),(13,.int .i64 (l.length:Int)),(12,.slice pa l.length cap),(0,pv bw)])
  (fun x=>[wrow bw bd ba bs,cd,x.ca,cs,cf]) (fun x=>l.length-x.k) ⟨0,ca,W.α⟩ ⟨Nat.zero_le _,h,.refl _,rfl⟩ (body:= ?_)
 rintro⟨k,ca1,α1⟩ ⟨hk,hW,hg,hrm⟩
 dsimp only at hk hW hg hrm⊢
 have hus:α1.used=W.α.used:=used_eq h hW hg
 have hnum:=hW.ar.num
 dsimp only at hnum
 by_cases hlt:k<l.length
 ·obtain⟨fb,frest,rfl,rfl,hfr,hfc,hfm⟩:=vecpos hVf (by omega)
  have hfk:(l.map (·.1))[k]? =some (l[k]).1:=by simp[hlt]
  have hgf:=fcells_get (rest:=frest) hfk
  obtain⟨Lv,hfo,_⟩:=hl _ (List.getElem_mem hlt)
  have hRd:=Read_u bw bd ba bs {W with α:=α1} cd ca1 cs hW (l[k]).1 (l[k]).2 Lv hfo
  have hRm:=Read_room bw bd ba bs {W with α:=α1} cd ca1 cs hW (l[k]).1 hfo.w1 hfo.w2 hfo.cnt hfo.blk
  generalize (l[k]).2=ts at*
  generalize (l[k]).1=f at*
  generalize fcells (l.map (·.1))++frest=fcs at*
  obtain⟨f1,f2,f3,f4⟩:=f
  have hflv:flv ⟨f1,f2,f3,f4⟩= .agg #[.int .i64 (f1:Int),.int .i64 (f2:Int),.int .i64 (f3:Int),.int .i64 (f4:Int)]:=rfl
  rw[hflv] at hRd hRm
  dsimp only at hgf hRd hRm
  repeat(first|(refine st ?_;intros)|(refine cq hWA ?_)|(refine cq hWD ?_)|(refine cq hLf ?_)|(refine cq hSz ?_))
  by_cases hr:W.δ.size≤α1.room-α1.used
  ·have hRd2:=hRd hr
   refine R.call (hct:=hRd2) (h:= ?_)
   rintro _ _ ⟨bx,g,ca2,α2,cx,cb,rfl,rfl,hW2,hE2,hg2,hgn,hr2⟩
   try dsimp only[List.cons_append,List.nil_append]
   have hRc:=RClose_u bw bd ba bs {W with α:=α2} cd ca2 cs hW2 bx ⟨f1,f2,f3,f4⟩ ts g _ hg2 0 cx cb hr2
   repeat(first|(refine st ?_;intros)|(refine cq hWA ?_)|(refine cq hWD ?_)|(refine cq hLf ?_)|(refine cq hSz ?_))
   refine R.call (hct:=hRc) (h:= ?_)
   rintro _ _ ⟨ca5,α5,cx5,rfl,rfl,hW5,hE5,hg6,hx5⟩
   try dsimp only[List.cons_append,List.nil_append]
   repeat(first|(refine st ?_;intros)|(refine cq hWA ?_)|(refine cq hWD ?_)|(refine cq hLf ?_)|(refine cq hSz ?_))
   refine Dn.round ⟨k+1,ca5,α5⟩ ⟨hlt,hW5,hg6.trans hg,(hE5.room.trans hE2.room).trans hrm⟩ (by dsimp only;omega)
  ·have hR2:=hRm (by omega)
   refine R.call (hct:=hR2) (h:= ?_)
   rintro _ _ ⟨rfl,rfl⟩
   try dsimp only[List.cons_append,List.nil_append]
   repeat(first|(refine st ?_;intros)|(refine cq hWA ?_)|(refine cq hWD ?_)|(refine cq hLf ?_)|(refine cq hSz ?_))
   refine R.call (hct:=RClose_nil) (h:= ?_)
   rintro _ _ ⟨rfl,rfl⟩
   try dsimp only[List.cons_append,List.nil_append]
   repeat(first|(refine st ?_;intros)|(refine cq hWA ?_)|(refine cq hWD ?_)|(refine cq hLf ?_)|(refine cq hSz ?_))
   refine Dn.round ⟨k+1,ca1,α1⟩ ⟨hlt,hW,hg,hrm⟩ (by dsimp only;omega)
 ·obtain rfl:k=l.length:=by omega
  have hLf:=aLeft ba α1 ca1 hW.ar
  by_cases hr:8*W.δ.size≤W.α.room-W.α.used
  ·repeat(first|(refine st ?_;intros)|(refine cq hWA ?_)|(refine cq hWD ?_)|(refine cq hLf ?_)|(refine cq hSz ?_))
   rename_i bj
   (refine Dn.post (Hr:=[[(bj,row [pv bw,.int .i64 0,.slice none 0 0] 108)],wrow bw bd ba bs,cd,ca1,cs,cf]) Tryz.results44 (hR:= ?_);exact⟨ca1,α1,hW,hg,hrm,.inl ⟨hr,bj,rfl,rfl⟩⟩)
  ·repeat(first|(refine st ?_;intros)|(refine cq hWA ?_)|(refine cq hWD ?_)|(refine cq hLf ?_)|(refine cq hSz ?_))
   (refine Dn.post (Hr:=[wrow bw bd ba bs,cd,ca1,cs,cf]) Tryz.results44 (hR:= ?_);exact⟨ca1,α1,hW,hg,hrm,.inr ⟨by omega,rfl,rfl⟩⟩)
theorem Begin_nil (x:Value):CtQ Tryz.prog 44 [.pointer none,x] [] (.tuple #[.pointer none,.int .i64 1]):=by
 refine Ct.intro Tryz.func44 rfl Tryz.ntmps44 (nle rfl) fun w0=> ?_;dsimp only[argSlots,Nat.reduceAdd]
 repeat(refine st ?_;intros)
 (refine Dn.post (Hr:=[]) Tryz.results44 (hR:= ?_);exact⟨rfl,rfl⟩)
theorem Begin_arg (bw bd ba bs:Nat) (cd ca cs:Chunk) (fb n cap:Nat) (v0 v1 v2 v3:Int) (cells:List Value) (hg':(cells.drop (0*4)).take 4=[.int .i64 v0,.int .i64 v1,.int .i64 v2,.int .i64 v3]) (hn:0<n) (hn2:n≤1000) (hR:CtQ Tryz.prog 50 [pv bw,.agg #[.int .i64 v0,.int .i64 v1,.int .i64 v2,.int .i64 v3]] [wrow bw bd ba bs,cd,ca,cs] (.tuple #[.pointer none,.int .i64 1])):
  CtQ Tryz.prog 44 [pv bw,.slice (some ⟨fb,0,none⟩) n cap] [wrow bw bd ba bs,cd,ca,cs,[(fb,row cells 27)]] (.tuple #[.pointer none,.int .i64 1]):=by
 refine Ct.intro Tryz.func44 rfl Tryz.ntmps44 (nle rfl) fun w0=> ?_;dsimp only[argSlots,Nat.reduceAdd]
 repeat(refine st ?_;intros)
 refine G.loop (X:=Nat) (fun x=>x=0)
  (fun x=>[(14,.int .i64 (x:Int)),(13,.int .i64 (n:Int)),(12,.slice (some ⟨fb,0,none⟩) n cap),(0,pv bw)])
  (fun x=>[wrow bw bd ba bs,cd,ca,cs,[(fb,row cells 27)]]) (fun x=>0) 0 rfl (body:= ?_)
 rintro _ rfl
 repeat(refine st ?_;intros)
 refine R.call (hct:=hR) (h:= ?_)
 rintro _ _ ⟨rfl,rfl⟩
 try dsimp only[List.cons_append,List.nil_append]
 repeat(refine st ?_;intros)
 (refine Dn.post (Hr:=[wrow bw bd ba bs,cd,ca,cs,[(fb,row cells 27)]]) Tryz.results44 (hR:= ?_);exact⟨rfl,rfl⟩)
def begP (bw bd ba bs bj:Nat) (W:Wk):Jp:=⟨bw,bd,ba,bs,bj,W.δ.size,W.α.room,W.σ.n,W.α.gs,W.live,W.δ.disk,W.δ.fault≠-1,big W.σ.free⟩
theorem begun_job {bw bd ba bs bj:Nat} {W:Wk} {cd ca cs ca':Chunk} {α':Ar} (h:Wc bd ba bs W cd ca cs) (hW:Wc bd ba bs {W with α:=α'} cd ca' cs) (hg:α'.gs.Perm W.α.gs) (hr:α'.room=W.α.room) (hroom:8*W.δ.size≤W.α.room-W.α.used):
  (begP bw bd ba bs bj W).Ok∧JobC (begP bw bd ba bs bj W) ⟨0,none,[],W.δ.acts,0⟩ (jobC (begP bw bd ba bs bj W) 0 cd ca' cs none 0 0 []):=by
 obtain⟨⟨hs1,hs2⟩,_⟩:=h.dev.num
 have h1:=h.ar.num.2.2.2
 have h2:=h.ar.num.1
 refine⟨⟨⟨hs1,hs2⟩,by show(W.α.gs.map (·.n)).sum+8*W.δ.size≤W.α.room;omega⟩,{W with α:=α'},cd,ca',cs,[],none,0,[],rfl,hW,Vec.nil _ _,?_⟩
 exact⟨hg,hr,rfl,rfl,.refl _,by simp,Nat.zero_le _,fun _ _=>rfl,fun hf=>by simpa[begP] using hf,Nat.le_refl _,Nat.le_refl _,fun _=>⟨.refl _,rfl⟩,fun h0=>absurd rfl h0⟩
theorem begun_in0 {bw bd ba bs bj:Nat} {W:Wk} {x:Fl×List T5} (h:FileIn W x):In0 (begP bw bd ba bs bj W) x:=h
namespace Maker
variable {K:Type} {M:Maker K}
theorem bad_none (h:∀k t,M.err k t=none):∀(ts:List T5) (k:K),M.bad k ts=none
 |[],_=>rfl
 |t::ts,k=>by simp only[bad,h];exact bad_none h ts _
theorem oks_of {ok:K→T5→Prop} {I:K→Prop} {Q:T5→Prop} (h:∀k t,I k→Q t→ok k t∧I (M.next k t)):∀(ts:List T5) (k:K),I k→(∀t∈ts,Q t)→M.oks ok k ts
 |[],_,_,_=>trivial
 |t::ts,k,hI,hQ=>by
  obtain⟨h1,h2⟩:=h k t hI (hQ t List.mem_cons_self)
  exact⟨h1,fun _=>oks_of h ts _ h2 fun u hu=>hQ u (List.mem_cons_of_mem _ hu)⟩
end Maker
def mOpt (g:T5→Option T5):Maker Unit:=⟨fun _=>[],fun _ t=>(g t).toList,fun _ _=>(),fun _ _=>none⟩
theorem mOpt_all (g:T5→Option T5):∀(ts:List T5) (k:Unit),(mOpt g).all k ts=ts.filterMap g
 |[],_=>rfl
 |t::ts,k=>by
  simp only[Maker.all,mOpt_all g ts,List.filterMap_cons]
  show(g t).toList++_=_
  cases g t<;>rfl
theorem in_m1:inI64 (-1):=⟨by decide,by decide⟩
theorem in_0:inI64 0:=⟨by decide,by decide⟩
theorem okT_cols {k:Nat} {t:T5} (h:okT k t):inI64 t.c0∧inI64 t.c1∧inI64 t.c2∧inI64 t.c3∧inI64 t.c4:=
 ⟨h.1 _ (by simp[T5.toList]),h.1 _ (by simp[T5.toList]),h.1 _ (by simp[T5.toList]),h.1 _ (by simp[T5.toList]),h.1 _ (by simp[T5.toList])⟩
theorem okTk {k:Nat} {a b c d e:Int} (ha:inI64 a) (hb:inI64 b) (hc:inI64 c) (hd:inI64 d) (he:inI64 e) (h0:k≤0→a=0) (h1:k≤1→b=0) (h2:k≤2→c=0) (h3:k≤3→d=0) (h4:k≤4→e=0):okT k ⟨a,b,c,d,e⟩:=by
 refine⟨fun x hx=> ?_,fun i hi=> ?_⟩
 ·simp only[T5.toList,List.mem_cons,List.not_mem_nil,or_false] at hx
  rcases hx with rfl|rfl|rfl|rfl|rfl<;>assumption
 ·match i with
  |0=>exact h0 hi
  |1=>exact h1 hi
  |2=>exact h2 hi
  |3=>exact h3 hi
  |4=>exact h4 hi
  |n+5=>rfl
theorem okT2 {a b:Int} (ha:inI64 a) (hb:inI64 b):okT 2 ⟨a,b,0,0,0⟩:=okTk ha hb in_0 in_0 in_0 (by omega) (by omega) (by simp) (by simp) (by simp)
theorem okT3 {a b c:Int} (ha:inI64 a) (hb:inI64 b) (hc:inI64 c):okT 3 ⟨a,b,c,0,0⟩:=okTk ha hb hc in_0 in_0 (by omega) (by omega) (by omega) (by simp) (by simp)
theorem cat_one (x:Fl×List T5):cat [x]=x.2:=by simp[cat]
theorem JMake0 (p:Jp) (hp:p.Ok) (J:Jb) (C:Chunk) (hJ:JobC p J C) {K:Type} (M:Maker K) (k0:K) (hne:∀k t,M.err k t=none) (width bound κ A T:Nat) (hwd:1≤width) (hwd2:width≤5) (hbn:bound≤100000000)
  (mk:Nat) (hcal:Callable Tryz.prog mk) (fs us:List Value) (ok:K→T5→Prop) (hM:MakeU M width ok mk fs us) (hκ:∀k t,ok k t→(M.outs k t).length≤κ) (hκb:κ≤10000)
  (l:List (Fl×List T5)) (hl:∀x∈l,(x∈J.G∨In0 p x)) (hcn:∀x∈l,x.1.count≤1000000) (pa:Option Addr) (cap:Nat) (cf:Chunk) (hV:Vec 27 4 pa l.length cap (fcells (l.map (·.1))) cf)
  (hok:M.oks ok k0 (cat l)) (hbd:J.e=0→(M.all k0 (cat l)).length≤bound) (hT:nblocks p.size width bound≤T) (hroom:J.e=0→Fits p J T) (hA:actsOf κ l+1≤A) (hac:J.acts+A≤10000000000) (hGl:J.G.length≤1000):
  Ct Tryz.prog 45 [pv p.bj,.int .i64 (width:Int),.int .i64 (bound:Int),.func (.func mk) fs.toArray us.toArray,.slice pa l.length cap] (C::cf::M.C k0) fun v H'=>
   ∃f C' e' k',v=flv f∧H'=C'::cf::M.C k'∧JobC p ⟨e',J.er,(f,M.all k0 (cat l))::J.G,J.acts+A,J.took+T⟩ C'∧
    (e'=0→J.e=0∧k'=M.st k0 (cat l)∧f.width=width∧f.count=(M.all k0 (cat l)).length)∧f.count≤bound∧f.blocks≤nblocks p.size width bound:=by
 refine(JMake p hp J C hJ M k0 width bound κ A T hwd hwd2 hbn mk hcal fs us ok hM hκ hκb l hl hcn pa cap cf hV hok hbd hT hroom hA hac hGl).mono ?_
 rintro v H' ⟨f,C',e',k',h1,h2,h3,h4,h5⟩
 rw[Maker.bad_none hne] at h3
 have h6:J.er.or none=J.er:=by cases J.er<;>rfl
 rw[h6] at h3
 exact⟨f,C',e',k',h1,h2,h3,fun h=>let ⟨a,b,c,d,_⟩:=h4 h;⟨a,b,c,d⟩,h5⟩
theorem vec1 (b:Nat) (f:Fl):Vec 27 4 (some ⟨b,0,none⟩) [f].length 1 (fcells [f]) [(b,row (fl4 f) 27)]:=
 ⟨rfl,.inr ⟨b,[],rfl,by simp[fcells,fl4],by simp[fcells],by simp,by decide⟩⟩
theorem vec2 (b:Nat) (f g:Fl):Vec 27 4 (some ⟨b,0,none⟩) [f,g].length 2 (fcells [f,g]) [(b,row (fl4 f++fl4 g) 27)]:=
 ⟨rfl,.inr ⟨b,[],rfl,by simp[fcells,fl4],by simp[fcells],by simp,by decide⟩⟩
theorem JRunK (p:Jp) (hp:p.Ok) (J:Jb) (C:Chunk) (hJ:JobC p J C) (mk:Nat) (hcal:Callable Tryz.prog mk) (us:List Value) (Hx:Hp) (A T:Nat) (er:Option Nat) (ts:List T5) (R:Fl→Int→Prop) (hst:J.e=0→StepCt p J mk us Hx A T er ts fun f e Hx'=>Hx'=Hx∧R f e) (hGl:J.G.length≤1000):
  Ct Tryz.prog 57 [pv p.bj,.func (.func mk) #[] us.toArray] (C::Hx) fun v H'=>∃f C' e',v=flv f∧H'=C'::Hx∧JobC p ⟨e',J.er.or er,(f,ts)::J.G,J.acts+A,J.took+T⟩ C'∧
   ((J.e=0∧R f e')∨(J.e≠0∧e'=J.e∧f=⟨0,0,0,0⟩)):=by
 refine(JRun p hp J C hJ mk hcal us Hx A T er ts _ hst hGl).mono ?_
 rintro v H' ⟨f,C',e',Hx',h1,rfl,h3,⟨h4,rfl,h5⟩|⟨h4,h5,h6,rfl⟩⟩
 ·exact⟨f,C',e',h1,rfl,h3,.inl ⟨h4,h5⟩⟩
 ·exact⟨f,C',e',h1,rfl,h3,.inr ⟨h4,h5,h6⟩⟩
theorem JMake1 (p:Jp) (hp:p.Ok) (J:Jb) (C:Chunk) (hJ:JobC p J C) {K:Type} (M:Maker K) (k0:K) (hne:∀k t,M.err k t=none) (width bound κ A T:Nat) (hwd:1≤width) (hwd2:width≤5) (hbn:bound≤100000000)
  (mk:Nat) (hcal:Callable Tryz.prog mk) (us:List Value) (ok:K→T5→Prop) (hM:MakeU M width ok mk [] us) (hκ:∀k t,ok k t→(M.outs k t).length≤κ) (hκb:κ≤10000)
  (f0:Fl) (ts:List T5) (hl:(f0,ts)∈J.G∨In0 p (f0,ts)) (hcn:f0.count≤1000000)
  (hok:M.oks ok k0 ts) (hbd:J.e=0→(M.all k0 ts).length≤bound) (hT:nblocks p.size width bound≤T) (hroom:J.e=0→Fits p J T) (hA:f0.blocks+f0.count*κ+1≤A) (hac:J.acts+A≤10000000000) (hGl:J.G.length≤1000) (b:Nat):
  Ct Tryz.prog 45 [pv p.bj,.int .i64 (width:Int),.int .i64 (bound:Int),.func (.func mk) #[] us.toArray,.slice (some ⟨b,0,none⟩) 1 1] (C::[(b,row (fl4 f0) 27)]::M.C k0) fun v H'=>
   ∃f C' e' k',v=flv f∧H'=C'::[(b,row (fl4 f0) 27)]::M.C k'∧JobC p ⟨e',J.er,(f,M.all k0 ts)::J.G,J.acts+A,J.took+T⟩ C'∧
    (e'=0→J.e=0∧k'=M.st k0 ts∧f.width=width∧f.count=(M.all k0 ts).length)∧f.count≤bound∧f.blocks≤nblocks p.size width bound:=by
 have h:=JMake0 p hp J C hJ M k0 hne width bound κ A T hwd hwd2 hbn mk hcal [] us ok hM hκ hκb [(f0,ts)] (by simpa using hl) (by simpa using hcn) _ 1 _ (vec1 b f0)
 rw[cat_one] at h
 exact h hok hbd hT hroom (by simpa[actsOf] using hA) hac hGl
def WSt (bw bx first nb k bound:Nat) (g:Gr) (base:List Gr) (Lv:List Ext) (W:Wk) (cx cb:Chunk):Prop:=
 (W.α.gs.Perm (g::base)∧LvOf first nb Lv W.live∧∃ps,IsWr bw bx W first nb k bound g ps cx cb)∨(W.α.gs.Perm base∧W.live.Perm Lv∧ClosedWr bx cx)
theorem Cd.wide {P:Program} {f:FuncId} {args:List Value} {Hf:Hp} {R:Value→Hp→Prop} (h:Cd P f args Hf R) (F:Hp):Cd P f args (Hf++F) fun v H'=>∃H1,R v H1∧H'=H1++F:=by
 unfold Cd at h⊢
 intro u w hw
 refine(h u w hw.self).mono ?_
 rintro e u' w' ⟨hu,v,H',h3,h4,h5⟩
 exact⟨hu,v,H'++F,h3,⟨H',h4,rfl⟩,hw.framed h5⟩
theorem DropAny (bw bd ba bs:Nat) (W:Wk) (cd ca cs:Chunk) (h:Wc bd ba bs W cd ca cs) (bx first nb k bound:Nat) (g:Gr) (base:List Gr) (Lv:List Ext) (cx cb:Chunk) (hw:WSt bw bx first nb k bound g base Lv W cx cb):
  Cd Tryz.prog 73 [pv bx] [wrow bw bd ba bs,cd,ca,cs,cx,cb] fun v H'=>
   ∃cd' ca' cs' W' cx' cb',H'=[wrow bw bd ba bs,cd',ca',cs',cx',cb']∧Wc bd ba bs W' cd' ca' cs'∧Ev W W' 0 0∧W'.δ=W.δ∧W'.α.gs.Perm base∧W'.live.Perm Lv:=by
 rcases hw with⟨h1,h2,ps,h3⟩|⟨h1,h2,h3⟩
 ·refine Cd.conv (Drop_uB bw bd ba bs W cd ca cs h bx first nb k bound g ps cx cb h3 base h1 Lv h2).2 (.refl _) ?_
  rintro v H' ⟨cd',ca',cs',W',cx',cb',_,rfl,a1,a2,a3,a4,a5,_⟩
  exact⟨_,⟨cd',ca',cs',W',cx',cb',rfl,a1,a2,a3,a4,a5⟩,.refl _⟩
 ·refine Cd.conv (Cd.wide (Dropped_uB bx cx h3).2 [wrow bw bd ba bs,cd,ca,cs,cb]) (permC fun z=>by simp only[List.flatten_cons,List.flatten_nil,List.append_nil,List.flatten_append,List.count_append];omega) ?_
  rintro v H' ⟨H1,⟨_,rfl⟩,rfl⟩
  exact⟨_,⟨cd,ca,cs,W,cx,cb,rfl,h,Ev.refl W,rfl,h1,h2⟩,permC fun z=>by simp only[List.flatten_cons,List.flatten_nil,List.append_nil,List.flatten_append,List.count_append];omega⟩
theorem Put_w (bw bd ba bs:Nat) (W:Wk) (cd ca cs:Chunk) (h:Wc bd ba bs W cd ca cs) (bx first nb k bound:Nat) (g:Gr) (ps:List T5) (cx cb:Chunk) (hw:IsWr bw bx W first nb k bound g ps cx cb) (Gs:List Gr) (hg:W.α.gs.Perm (g::Gs))
  (Lv:List Ext) (hl:LvOf first nb Lv W.live) (hlt:ps.length<bound) (t:T5) (ht:okT k t) (hac:W.δ.acts≤1000000000000) (hh:1≤holds W.δ.size k):
  Ct Tryz.prog 72 [pv bx,tv t] [wrow bw bd ba bs,cd,ca,cs,cx,cb] fun v H'=>
   ∃cd' ca' cs' W' cx' cb' e,v= .int .i64 e∧H'=[wrow bw bd ba bs,cd',ca',cs',cx',cb']∧Wc bd ba bs W' cd' ca' cs'∧Ev W W' 1 0∧Keep Lv W W'∧
    ((e=0∧W'.α.gs.Perm (g::Gs)∧LvOf first nb Lv W'.live∧IsWr bw bx W' first nb k bound g (ps++[t]) cx' cb')∨(e=6∧W.δ.fault≠-1∧WSt bw bx first nb k bound g Gs Lv W' cx' cb')):=by
 refine(Put_u bw bd ba bs W cd ca cs h bx first nb k bound g ps cx cb hw Gs hg Lv hl hlt t ht hac).mono ?_
 rintro v H' ⟨cd',ca',cs',W',cx',cb',rfl,hW',hE',hK',hc⟩
 have hE1:Ev W W' 1 0:=hE'.weak (by
  have h2:(ps.length+1)/holds W.δ.size k≤ps.length/holds W.δ.size k+1:=by
   calc (ps.length+1)/holds W.δ.size k≤(ps.length+holds W.δ.size k)/holds W.δ.size k:=Nat.div_le_div_right (by omega)
    _=ps.length/holds W.δ.size k+1:=Nat.add_div_right _ (by omega)
  omega) (Nat.le_refl _)
 rcases hc with⟨rfl,e1,e2,e3,e4⟩|⟨rfl,e1,e2,e3,e4,e5⟩
 ·exact⟨cd',ca',cs',W',cx',cb',0,rfl,rfl,hW',hE1,hK',.inl ⟨rfl,by rw[e1];exact hg,by rw[e3];exact hl,e4⟩⟩
 ·exact⟨cd',ca',cs',W',cx',cb',6,rfl,rfl,hW',hE1,hK',.inr ⟨rfl,by omega,.inr ⟨e3,e4,e5⟩⟩⟩
theorem Close_w (bw bd ba bs:Nat) (W:Wk) (cd ca cs:Chunk) (h:Wc bd ba bs W cd ca cs) (bx first nb k bound:Nat) (g:Gr) (ps:List T5) (cx cb:Chunk) (hw:IsWr bw bx W first nb k bound g ps cx cb) (Gs:List Gr) (hg:W.α.gs.Perm (g::Gs))
  (Lv:List Ext) (hl:LvOf first nb Lv W.live) (hac:W.δ.acts≤1000000000000) (hh:1≤holds W.δ.size k):
  Ct Tryz.prog 74 [pv bx] [wrow bw bd ba bs,cd,ca,cs,cx,cb] fun v H'=>
   ∃cd' ca' cs' W' cx' cb' f e,v= .tuple #[flv f,.int .i64 e]∧H'=[wrow bw bd ba bs,cd',ca',cs',cx',cb']∧Wc bd ba bs W' cd' ca' cs'∧Ev W W' 1 0∧Keep Lv W W'∧W'.α.gs.Perm Gs∧ClosedWr bx cx'∧
    ((e=0∧W'.live.Perm (addF f Lv)∧f.width=k∧f.count=ps.length∧FileOk W'.δ.disk W.δ.size [f.ext] f ps)∨(e=6∧f=⟨0,0,0,0⟩∧W.δ.fault≠-1∧W'.live.Perm Lv)):=by
 refine(Close_u bw bd ba bs W cd ca cs h bx first nb k bound g ps cx cb hw Gs hg Lv hl hac).mono ?_
 rintro v H' ⟨cd',ca',cs',W',cx',cb',rfl,hW',hE',hK',hg',hx',hc⟩
 have hE1:Ev W W' 1 0:=hE'.weak (by
  unfold nblocks
  have h1:(ps.length+holds W.δ.size k-1)/holds W.δ.size k≤(ps.length+holds W.δ.size k)/holds W.δ.size k:=Nat.div_le_div_right (by omega)
  rw[Nat.add_div_right _ (by omega)] at h1
  omega) (Nat.le_refl _)
 rcases hc with⟨f,rfl,e1,e2,e3,e4⟩|⟨rfl,e1,e2,e3⟩
 ·exact⟨cd',ca',cs',W',cx',cb',f,0,rfl,rfl,hW',hE1,hK',hg',hx',.inl ⟨rfl,by rw[e1];exact .refl _,e2,e3,e4⟩⟩
 ·exact⟨cd',ca',cs',W',cx',cb',⟨0,0,0,0⟩,6,rfl,rfl,hW',hE1,hK',hg',hx',.inr ⟨rfl,rfl,by omega,e3⟩⟩
abbrev o12:T5:=⟨1,2,0,0,0⟩
theorem in0file {p:Jp} {x:Fl×List T5} (h:In0 p x):x.2.length=x.1.count∧(∀t∈x.2,okT x.1.width t)∧x.1.blocks=nblocks p.size x.1.width x.1.count∧1≤x.1.width∧x.1.width≤5:=by
 obtain⟨Lv,h,_⟩:=h
 exact⟨h.len,h.fit,h.blk,h.w1,h.w2⟩
theorem in_1:inI64 1:=⟨by decide,by decide⟩
theorem sortT_mono {a b:Nat} (h:a≤b):sortT a≤sortT b:=by
 unfold sortT
 exact Nat.mul_le_mul (by omega) (Nat.add_le_add_left (lgq_mono (by omega)) _)
def LayerR (bw bd ba bs:Nat) (W:Wk) (A T:Nat) (er:Option Nat) (ts:List T5) (wd:Nat) (v:Value) (H':Hp):Prop:=
 ∃f e cd' ca' cs' W',v= .tuple #[flv f,.int .i64 e]∧H'=[wrow bw bd ba bs,cd',ca',cs']∧Wc bd ba bs W' cd' ca' cs'∧Stepped (begP bw bd ba bs 0 W) W W' A T er ts f e∧(e=0→f.width=wd)
def LayerQ (bw bd ba bs:Nat) (W:Wk) (cd cs:Chunk) (A T:Nat) (er:Option Nat) (ts:List T5) (wd:Nat) (v:Value) (H':Hp):Prop:=
 (8*W.δ.size≤W.α.room-W.α.used∧LayerR bw bd ba bs W A T er ts wd v H')∨
 (W.α.room-W.α.used<8*W.δ.size∧v= .tuple #[flv ⟨0,0,0,0⟩,.int .i64 7]∧∃ca' α',H'=[wrow bw bd ba bs,cd,ca',cs]∧Wc bd ba bs {W with α:=α'} cd ca' cs∧α'.gs.Perm W.α.gs∧α'.room=W.α.room)
theorem done_stepped {bw bd ba bs bj:Nat} {W W':Wk} {J:Jb} {f:Fl} {ts:List T5} {G2:List (Fl×List T5)} {A T:Nat} (h:DoneW (begP bw bd ba bs bj W) J [f] W') (hG:J.G=(f,ts)::G2) (hA:J.acts≤W.δ.acts+A) (hT:J.took≤T):
  Stepped (begP bw bd ba bs 0 W) W W' A T J.er ts (if J.e=0 then f else⟨0,0,0,0⟩) J.e:=by
 refine⟨h.gs,h.room,h.size,h.n,Nat.le_trans h.acts hA,?_,?_,fun x hx=>h.keep x hx,?_⟩
 ·have:=h.tk
  have h2:(begP bw bd ba bs bj W).b0=big W.σ.free:=rfl
  omega
 ·intro hf
  exact h.flt (fun h2=>h2 hf)
 ·by_cases he:J.e=0
  ·obtain⟨h1,h2,h3⟩:=h.good he [(f,ts)] G2 (by rw[hG];exact .refl _) rfl
   rw[if_pos he]
   exact .inl ⟨he,h3,h1,h2 _ List.mem_cons_self⟩
  ·obtain⟨h1,h2⟩:=h.bad he
   rw[if_neg he]
   exact .inr ⟨he,rfl,h1,h2⟩
theorem JResult1 (p:Jp) (hp:p.Ok) (J:Jb) (C:Chunk) (hJ:JobC p J C) (f:Fl) (b:Nat):
  Ct Tryz.prog 49 [pv p.bj,.slice (some ⟨b,0,none⟩) 1 1] [C,[(b,row (fl4 f) 27)]] fun v H'=>∃cd ca cs W,v= .int .i64 J.e∧H'=[wrow p.bw p.bd p.ba p.bs,cd,ca,cs,[(b,row (fl4 f) 27)]]∧Wc p.bd p.ba p.bs W cd ca cs∧DoneW p J [f] W:=
 JResult p hp J C hJ [f] (by simp) _ 1 _ (vec1 b f)
theorem jobC_open {p:Jp} {e:Int} {cd ca cs:Chunk}:([jrow p.bj p.bw e none 0 0,wrow p.bw p.bd p.ba p.bs,cd,ca,cs]:Hp).flatten.Perm ([jobC p e cd ca cs none 0 0 []]:Hp).flatten:=by
 unfold jobC;refine permC fun z=> ?_;simp only[List.flatten_cons,List.flatten_nil,List.append_nil,List.count_append];omega
theorem big0 (s n room:Nat):big (wk0 s n room).σ.free=n:=by simp[wk0,big]
theorem Lay_k (bw bd ba bs:Nat) (W:Wk) (cd ca cs:Chunk) (h:Wc bd ba bs W cd ca cs) (k:Nat) (h1:1≤k) (h2:k≤5) (p:Option Addr) (n cap:Nat) (ts:List T5) (c:Chunk) (hv:RV p n ts c) (hn:n≤100000000) (hok:∀t∈ts,okT k t)
  (hr:W.δ.size≤W.α.room-W.α.used) (hf:W.δ.fault= -1) (hac:W.δ.acts≤100000000000) (hb:nblocks W.δ.size k n≤big W.σ.free):
  Ct Tryz.prog 39 [pv bw,.int .i64 (k:Int),.slice p n cap] [wrow bw bd ba bs,cd,ca,cs,c] fun v H'=>
   ∃cd' ca' cs' W' f,v= .tuple #[flv f,.int .i64 0]∧H'=[wrow bw bd ba bs,cd',ca',cs',c]∧Wc bd ba bs W' cd' ca' cs'∧Ev W W' (nblocks W.δ.size k n) (nblocks W.δ.size k n)∧Keep W.live W W'∧W'.α.gs.Perm W.α.gs∧
    W'.live.Perm (addF f W.live)∧f.width=k∧f.count=n∧f.blocks=nblocks W.δ.size k n∧FileOk W'.δ.disk W.δ.size [f.ext] f ts:=by
 refine(Lay_ct bw bd ba bs W cd ca cs h k h1 h2 p n cap ts c hv hn hok hr hf hac).mono ?_
 rintro v H' ⟨cd',ca',cs',W',rfl,hW,hE,hK,hg,⟨_,f,rfl,hl,hw,hc,hfo⟩|⟨hx,_⟩⟩
 ·exact⟨cd',ca',cs',W',f,rfl,rfl,hW,hE,hK,hg,by rw[hl];exact .refl _,hw,hc,by rw[hfo.blk,hw,hc],hfo⟩
 ·omega
theorem FileIn.stay {W W':Wk} {x:Fl×List T5} (h:FileIn W x) (hs:W'.δ.size=W.δ.size) (hk:Keep W.live W W') (hl:∀e∈W.live,e∈W'.live):FileIn W' x:=by
 obtain⟨Lv,h1,h2⟩:=h
 refine⟨Lv,?_,fun e he=>hl e (h2 e he)⟩
 rw[hs]
 exact h1.keep fun y ⟨e,he,h3⟩=>hk y ⟨e,h2 e he,h3⟩
theorem FileIn.new {W':Wk} {s:Nat} {f:Fl} {ts:List T5} {l:List Ext} (h:FileOk W'.δ.disk s [f.ext] f ts) (hs:W'.δ.size=s) (hl:W'.live.Perm (addF f l)):FileIn W' (f,ts):=by
 subst hs
 exact fo_sub h hl
theorem mem_addF {f:Fl} {l l':List Ext} (h:l'.Perm (addF f l)):∀e∈l,e∈l':=fun _ he=>h.mem_iff.2 (addF_mem he)
theorem stepped_ok {p:Jp} {W W':Wk} {A T:Nat} {ts:List T5} {f:Fl} {e:Int} (h:Stepped p W W' A T none ts f e) (hf:W.δ.fault= -1):e=0∧W'.live.Perm (addF f W.live)∧FileOk W'.δ.disk W.δ.size [f.ext] f ts∧W'.δ.fault= -1:=by
 rcases h.res with⟨h1,_,h2,h3⟩|⟨_,_,_,⟨_,h1⟩|⟨m,h1,_⟩⟩
 ·exact⟨h1,h2,h3,h.fault hf⟩
 ·exact absurd hf h1
 ·cases h1
def RSt (bw bx:Nat) (f:Fl) (ts:List T5) (g:Gr) (base:List Gr) (W:Wk) (cx cb:Chunk):Prop:=
 (W.α.gs.Perm (g::base)∧∃pos,IsRd bw bx W f ts g pos cx cb)∨(W.α.gs.Perm base∧ClosedRd bx cx)
theorem RCloseAny (bw bd ba bs:Nat) (W:Wk) (cd ca cs:Chunk) (h:Wc bd ba bs W cd ca cs) (bx:Nat) (f:Fl) (ts:List T5) (g:Gr) (base:List Gr) (cx cb:Chunk) (hr:RSt bw bx f ts g base W cx cb):
  Cd Tryz.prog 51 [pv bx] [wrow bw bd ba bs,ca,cx] fun v H'=>
   ∃ca' α' cx',H'=[wrow bw bd ba bs,ca',cx']∧Wc bd ba bs {W with α:=α'} cd ca' cs∧Ev W {W with α:=α'} 0 0∧α'.gs.Perm base:=by
 rcases hr with⟨h1,pos,h2⟩|⟨h1,h2⟩
 ·refine Cd.conv (RClose_uB bw bd ba bs W cd ca cs h bx f ts g base h1 pos cx cb h2).2 (.refl _) ?_
  rintro v H' ⟨ca',α',cx',_,rfl,a1,a2,a3,_⟩
  exact⟨_,⟨ca',α',cx',rfl,a1,a2,a3⟩,.refl _⟩
 ·refine Cd.conv (Cd.wide (RClosed_uB bx cx h2).2 [wrow bw bd ba bs,ca]) (permC fun z=>by simp only[List.flatten_cons,List.flatten_nil,List.append_nil,List.flatten_append,List.count_append];omega) ?_
  rintro v H' ⟨H1,⟨_,rfl⟩,rfl⟩
  exact⟨_,⟨ca,W.α,cx,rfl,h,Ev.refl W,h1⟩,permC fun z=>by simp only[List.flatten_cons,List.flatten_nil,List.append_nil,List.flatten_append,List.count_append];omega⟩
structure Mkr (K:Type) where
 own:K→List Gr
 C:K→Chunk
 J:Wk→K→Nat→Prop
 E:Wk→K→Prop
 pot:K→Nat
structure Mkr.Ok {K:Type} (Z:Mkr K) (Lv:List Ext):Prop where
 stay:∀W W' r i,Z.J W r i→W'.δ.size=W.δ.size→Keep Lv W W'→(∀e∈Lv,e∈W'.live)→(W.δ.fault= -1→W'.δ.fault= -1)→Z.J W' r i
 fin:∀W r i,Z.J W r i→Z.E W r
 stayE:∀W W' r,Z.E W r→W'.δ.size=W.δ.size→Z.E W' r
def MkrCt (bw bd ba bs:Nat) {K:Type} (Z:Mkr K) (size room:Nat) (ts:List T5) (out:Nat→T5) (fid:Nat) (fs us:List Value):Prop:=
 ∀(base:List Gr) (W:Wk) (cd ca cs:Chunk) (r:K) (i:Nat) (t:T5),Wc bd ba bs W cd ca cs→W.α.gs.Perm (Z.own r++base)→W.α.room=room→W.δ.size=size→Z.J W r i→ts[i]? =some t→W.δ.acts≤100000000000→
  Ct Tryz.prog fid (fs++[tv t]++us) [wrow bw bd ba bs,cd,ca,cs,Z.C r] fun v H'=>
   ∃cd' ca' W' r' u k e,v= .tuple #[tv u,.bool k,.int .i64 e]∧H'=[wrow bw bd ba bs,cd',ca',cs,Z.C r']∧Wc bd ba bs W' cd' ca' cs∧Ev W W' (Z.pot r'-Z.pot r) 0∧W'.δ.disk=W.δ.disk∧W'.σ=W.σ∧W'.live=W.live∧Z.pot r≤Z.pot r'∧W'.α.gs.Perm (Z.own r'++base)∧
    ((e=0∧k=true∧u=out i∧Z.J W' r' (i+1))∨(e=6∧W.δ.fault≠-1∧Z.E W' r'))
def rangeT (out:Nat→T5) (i:Nat):List T5:=(List.range i).map out
theorem rangeT_len (out:Nat→T5) (i:Nat):(rangeT out i).length=i:=by simp[rangeT]
theorem rangeT_succ (out:Nat→T5) (i:Nat):rangeT out (i+1)=rangeT out i++[out i]:=by simp[rangeT,List.range_succ]
structure EachJX (K:Type) where
 i:Nat
 cd:Chunk
 ca:Chunk
 cs:Chunk
 cx:Chunk
 cb:Chunk
 cy:Chunk
 cc:Chunk
 W:Wk
 r:K
theorem perm_two_up {x y:Gr} {a b:List Gr}:(a++(x::y::b)).Perm (x::y::(a++b)):=List.perm_middle.trans (List.perm_middle.cons _)
theorem each_ct (bw bd ba bs:Nat) {K:Type} (Z:Mkr K) (W:Wk) (cd ca cs:Chunk) (h:Wc bd ba bs W cd ca cs) (hZ:Z.Ok W.live) (f:Fl) (ts:List T5) (LvF:List Ext) (hfo:FileOk W.δ.disk W.δ.size LvF f ts) (hsub:∀e∈LvF,e∈W.live)
  (width:Nat) (hw1:1≤width) (hw5:width≤5) (out:Nat→T5) (hout:∀i,i<f.count→okT width (out i)) (fid:Nat) (hcal:Callable Tryz.prog fid) (fs us:List Value) (hmk:MkrCt bw bd ba bs Z W.δ.size W.α.room ts out fid fs us)
  (r:K) (base:List Gr) (hg:W.α.gs.Perm (Z.own r++base)) (hJ:Z.J W r 0) (P:Nat) (hP:∀W r,Z.E W r→Z.pot r≤P) (hPb:P≤1000000)
  (hr:2*W.δ.size≤W.α.room-W.α.used) (hfit:nblocks W.δ.size width f.count≤big W.σ.free) (hac:W.δ.acts≤1000000000) (hcn:f.count≤1000000):
  Ct Tryz.prog 94 [pv bw,flv f,.int .i64 (width:Int),.func (.func fid) fs.toArray us.toArray] [wrow bw bd ba bs,cd,ca,cs,Z.C r] fun v H'=>
   ∃cd' ca' cs' W' r' f' e,v= .tuple #[flv f',.int .i64 e]∧H'=[wrow bw bd ba bs,cd',ca',cs',Z.C r']∧Wc bd ba bs W' cd' ca' cs'∧Ev W W' (f.blocks+f.count+1+P) (nblocks W.δ.size width f.count)∧Keep W.live W W'∧W'.α.gs.Perm (Z.own r'++base)∧Z.E W' r'∧
    ((e=0∧W'.live.Perm (addF f' W.live)∧f'.width=width∧f'.count=f.count∧FileOk W'.δ.disk W.δ.size [f'.ext] f' (rangeT out f.count))∨(e=6∧f'=⟨0,0,0,0⟩∧W.δ.fault≠-1∧W'.live.Perm W.live)):=by
 obtain⟨⟨hs1,hs2⟩,_⟩:=h.dev.num
 have htl:=hfo.len
 have hk1:=hfo.w1
 have hk5:=hfo.w2
 have hfb:=hfo.blk
 have hp:=holds_pos hs1 hk1 hk5
 have hRd:=Read_u bw bd ba bs W cd ca cs h f ts LvF hfo (by omega)
 have hflv:flv f= .agg #[.int .i64 (f.first:Int),.int .i64 (f.blocks:Int),.int .i64 (f.width:Int),.int .i64 (f.count:Int)]:=rfl
 have hz0:flv ⟨0,0,0,0⟩= .agg #[.int .i64 0,.int .i64 0,.int .i64 0,.int .i64 0]:=rfl
 have hz:tv T5.zero= .agg #[.int .i64 T5.zero.c0,.int .i64 T5.zero.c1,.int .i64 T5.zero.c2,.int .i64 T5.zero.c3,.int .i64 T5.zero.c4]:=rfl
 have hbad:∀(W':Wk) (cd' ca' cs':Chunk) (r':K) (kk:Nat),Wc bd ba bs W' cd' ca' cs'→Ev W W' kk (nblocks W.δ.size width f.count)→kk≤f.blocks+f.count+1+P→Keep W.live W W'→W'.α.gs.Perm (Z.own r'++base)→Z.E W' r'→W.δ.fault≠-1→W'.live.Perm W.live→
   ∃cd'' ca'' cs'' W'' r'' f' e,Value.tuple #[.agg #[.int .i64 0,.int .i64 0,.int .i64 0,.int .i64 0],.int .i64 6]= .tuple #[flv f',.int .i64 e]∧[wrow bw bd ba bs,cd',ca',cs',Z.C r']=[wrow bw bd ba bs,cd'',ca'',cs'',Z.C r'']∧Wc bd ba bs W'' cd'' ca'' cs''∧Ev W W'' (f.blocks+f.count+1+P) (nblocks W.δ.size width f.count)∧Keep W.live W W''∧W''.α.gs.Perm (Z.own r''++base)∧Z.E W'' r''∧
    ((e=0∧W''.live.Perm (addF f' W.live)∧f'.width=width∧f'.count=f.count∧FileOk W''.δ.disk W.δ.size [f'.ext] f' (rangeT out f.count))∨(e=6∧f'=⟨0,0,0,0⟩∧W.δ.fault≠-1∧W''.live.Perm W.live)):=
  fun W' cd' ca' cs' r' kk a1 a2 a3 a4 a5 a6 a7 a8=>⟨cd',ca',cs',W',r',⟨0,0,0,0⟩,6,rfl,rfl,a1,a2.weak a3 (Nat.le_refl _),a4,a5,a6,.inr ⟨rfl,rfl,a7,a8⟩⟩
 rw[hflv] at hRd⊢
 refine Ct.introD Tryz.func94 rfl Tryz.ntmps94 (nle rfl) fun w0=> ?_;dsimp only[argSlots,Nat.reduceAdd]
 repeat(refine st ?_;intros)
 rename_i b5 b8
 refine R.call (hct:=hRd) (h:= ?_)
 rintro _ _ ⟨bx,g,ca1,α1,cx,cb,rfl,rfl,hW1,hE1,hg1,hgn,hr1⟩
 try dsimp only[List.cons_append,List.nil_append]
 have hu1:α1.used=W.α.used+W.δ.size:=by
  have:=hW1.ar.num.2.2.2
  dsimp only at this
  rw[this,(hg1.map (·.n)).sum_nat,h.ar.num.2.2.2];simp[hgn];omega
 have hrm1:α1.room=W.α.room:=hE1.room
 have hWr:=Write_u bw bd ba bs {W with α:=α1} cd ca1 cs hW1 width f.count hw1 hw5 (by omega) (by dsimp only;omega)
 dsimp only at hWr
 repeat(refine st ?_;intros)
 refine R.call (hct:=hWr) (h:= ?_)
 rintro _ _ (⟨_,bx2,first,g2,cd2,ca2,cs2,W2,cy,cc,rfl,rfl,hW2,hE2,e1,e2,e3,e4,e5⟩|⟨hfull,_⟩)
 rotate_left
 ·exact absurd hfit (by omega)
 dsimp only[List.cons_append,List.nil_append]
 have hE12:=hE1.trans hE2
 have hK2:Keep W.live W W2:=fun x _=>by rw[e1]
 have hs2z:W2.δ.size=W.δ.size:=hE12.size
 have hJ2:Z.J W2 r 0:=hZ.stay _ _ _ _ hJ hs2z hK2 (fun e he=>e4.mem he) hE12.fault
 have hg2':W2.α.gs.Perm (g2::g::(Z.own r++base)):=e2.trans ((hg1.trans (hg.cons _)).cons _)
 repeat(refine st ?_;intros)
 refine G.loop (X:=EachJX K) (fun x=>x.i≤f.count∧Wc bd ba bs x.W x.cd x.ca x.cs∧Ev W x.W (nblocks W.δ.size f.width x.i+x.i+(Z.pot x.r-Z.pot r)) (nblocks W.δ.size width f.count)∧Z.pot r≤Z.pot x.r∧x.W.α.gs.Perm (g2::g::(Z.own x.r++base))∧Z.J x.W x.r x.i∧
   IsRd bw bx x.W f ts g x.i x.cx x.cb∧IsWr bw bx2 x.W first (nblocks W.δ.size width f.count) width f.count g2 (rangeT out x.i) x.cy x.cc∧LvOf first (nblocks W.δ.size width f.count) W.live x.W.live∧Keep W.live W x.W)
  (fun _=>[(12,pv bx2),(13,.func (.func 52) #[pv bx] #[]),(3,.func (.func fid) fs.toArray us.toArray),(8,pv b8)])
  (fun x=>[[(b8,row [.int .i64 0,.int .i64 0,.int .i64 0,.int .i64 0] 27)],wrow bw bd ba bs,x.cd,x.ca,x.cs,Z.C x.r,x.cx,x.cb,x.cy,x.cc]) (fun x=>f.count-x.i) ⟨0,cd2,ca2,cs2,cx,cb,cy,cc,W2,r⟩
  ⟨Nat.zero_le _,hW2,hE12.weak (Nat.zero_le _) (by omega),Nat.le_refl _,hg2',hJ2,hr1.move hE2.size,by rw[←hs2z] at e5⊢;exact e5,e4,hK2⟩ (body:= ?_)
 rintro⟨i,cd3,ca3,cs3,cx3,cb3,cy3,cc3,W3,r3⟩ ⟨hi,hW3,hE3,hpo3,hg3,hJ3,hrd3,hwr3,hl3,hK3⟩
 dsimp only at hi hW3 hE3 hpo3 hg3 hJ3 hrd3 hwr3 hl3 hK3⊢
 have hsz3:W3.δ.size=W.δ.size:=hE3.size
 have hac3:=hE3.acts.2
 have hmi:nblocks W.δ.size f.width i≤f.blocks:=by rw[hfb];exact nblocks_mono hi
 have hbn:=nblocks_le (n:=f.count) hp
 have hpr3:=hP W3 r3 (hZ.fin _ _ _ hJ3)
 have hfo3:FileOk W3.δ.disk W3.δ.size LvF f ts:=by rw[hsz3];exact hfo.keep fun x ⟨e,he,h2⟩=>hK3 x ⟨e,hsub e he,h2⟩
 have hsub3:∀e∈LvF,e∈W3.live:=fun e he=>hl3.mem (hsub e he)
 by_cases hlt:i<f.count
 ·have htg:ts[i]? =some ts[i]:=List.getElem?_eq_getElem (by omega)
  have hgn3:W3.α.gs.Perm (g::(g2::(Z.own r3++base))):=hg3.trans (.swap _ _ _)
  have hNx:=Next_u bw bd ba bs W3 cd3 ca3 cs3 hW3 bx f ts LvF hfo3 hsub3 g _ hgn3 i cx3 cb3 hrd3 _ htg (by omega)
  have htv:tv ts[i]= .agg #[.int .i64 (ts[i]).c0,.int .i64 (ts[i]).c1,.int .i64 (ts[i]).c2,.int .i64 (ts[i]).c3,.int .i64 (ts[i]).c4]:=rfl
  rw[htv,hz,hsz3] at hNx
  have hS0:=fun W cd ca cs=>hmk (g2::g::base) W cd ca cs r3 i ts[i]
  generalize ht:ts[i]=t at*
  have htv2:tv t= .agg #[.int .i64 t.c0,.int .i64 t.c1,.int .i64 t.c2,.int .i64 t.c3,.int .i64 t.c4]:=rfl
  have hm1:nblocks W.δ.size f.width (i+1)≤f.blocks:=by rw[hfb];exact nblocks_mono hlt
  have hm2:nblocks W.δ.size f.width i≤nblocks W.δ.size f.width (i+1):=nblocks_mono (by omega)
  repeat(refine st ?_;intros)
  refine R.callV (fs:=[pv bx]) (vs:=[]) (hf:=inferInstance) (hct:=hNx) (h:= ?_)
  rintro _ _ ⟨cd4,ca4,W4,cx4,cb4,rfl,hW4,hE4,hd4,hσ4,hl4,⟨rfl,hα4,hr4⟩|⟨rfl,hf4,hδ4,hg4,hx4⟩⟩<;>dsimp only[List.cons_append,List.nil_append]
  ·have hE34:=hE3.trans hE4
   have hK4:Keep W.live W3 W4:=fun x _=>by rw[hd4]
   have hJ4:Z.J W4 r3 i:=hZ.stay _ _ _ _ hJ3 hE4.size hK4 (fun e he=>by rw[hl4];exact hl3.mem he) hE4.fault
   have hac4:=hE34.acts.2
   have hgp:W4.α.gs.Perm (Z.own r3++(g2::g::base)):=by rw[hα4];exact hg3.trans perm_two_up.symm
   have hS:=hS0 W4 cd4 ca4 cs3 hW4 hgp hE34.room hE34.size hJ4 htg (by omega)
   rw[htv2] at hS
   repeat(refine st ?_;intros)
   apply R.callV
   ·exact rfl
   ·exact hcal
   ·exact rfl
   ·exact hS
   ·exact(by repeat(first|exact Split.nil|(apply Split.cons;·(repeat(first|exact Take.here|apply Take.there|exact Take.nil)))))
   ·exact rfl
   ·exact nle rfl
   rintro _ _ ⟨cd5,ca5,W5,r5,u,k,e,rfl,rfl,hW5,hE5,hd5,hσ5,hl5,hpo5,hg5,hc⟩
   dsimp only[List.cons_append,List.nil_append]
   have hE35:=hE34.trans hE5
   have hs5:W5.δ.size=W.δ.size:=hE35.size
   have hrd5:IsRd bw bx W5 f ts g (i+1) cx4 cb4:=hr4.move hE5.size
   have hwr5:IsWr bw bx2 W5 first (nblocks W.δ.size width f.count) width f.count g2 (rangeT out i) cy3 cc3:=hwr3.move (hE4.trans hE5).size (fun x _ _=>by rw[hd5,hd4])
   have hl5':LvOf first (nblocks W.δ.size width f.count) W.live W5.live:=by rw[hl5,hl4];exact hl3
   have hK5:Keep W.live W W5:=fun x hx=>by rw[hd5,hd4];exact hK3 x hx
   have hg5':W5.α.gs.Perm (g2::g::(Z.own r5++base)):=hg5.trans perm_two_up
   have htu:tv u= .agg #[.int .i64 u.c0,.int .i64 u.c1,.int .i64 u.c2,.int .i64 u.c3,.int .i64 u.c4]:=rfl
   have hac5:=hE35.acts.2
   rw[htu]
   rcases hc with⟨rfl,rfl,hu,hJ5⟩|⟨rfl,hf5,hE5'⟩
   ·have hpr5:=hP W5 r5 (hZ.fin _ _ _ hJ5)
    have hPt:=Put_w bw bd ba bs W5 cd5 ca5 cs3 hW5 bx2 first (nblocks W.δ.size width f.count) width f.count g2 (rangeT out i) cy3 cc3 hwr5 (g::(Z.own r5++base)) hg5' W.live hl5' (by rw[rangeT_len];exact hlt) u (by rw[hu];exact hout i hlt) (by omega) (by rw[hs5];exact holds_pos hs1 hw1 hw5)
    rw[htu] at hPt
    repeat(refine st ?_;intros)
    refine R.call (hct:=hPt) (h:= ?_)
    rintro _ _ ⟨cd6,ca6,cs6,W6,cy6,cc6,e,rfl,rfl,hW6,hE6,hK6,hc6⟩
    try dsimp only[List.cons_append,List.nil_append]
    have hE36:=hE35.trans hE6
    rcases hc6 with⟨rfl,hg6,hl6,hw6⟩|⟨rfl,hf6,hS6⟩
    ·repeat(refine st ?_;intros)
     refine Dn.round ⟨i+1,cd6,ca6,cs6,cx4,cb4,cy6,cc6,W6,r5⟩ ⟨hlt,hW6,hE36.weak (by dsimp only;omega) (by omega),Nat.le_trans hpo3 hpo5,hg6,hZ.stay _ _ _ _ hJ5 hE6.size hK6 (fun e he=>hl6.mem he) hE6.fault,hrd5.move hE6.size,by rw[rangeT_succ,←hu];exact hw6,hl6,hK5.trans hK6⟩ (by dsimp only;omega)
    ·have hD:=DropAny bw bd ba bs W6 cd6 ca6 cs6 hW6 bx2 first (nblocks W.δ.size width f.count) width f.count g2 (g::(Z.own r5++base)) W.live cy6 cc6 hS6
     repeat(refine st ?_;intros)
     refine Go.SL.Lv.call (hc:=hD) (h:= ?_)
     rintro _ _ ⟨cd7,ca7,cs7,W7,cy7,cc7,rfl,hW7,hE7,hd7,hg7,hl7⟩
     try dsimp only[List.cons_append,List.nil_append]
     have hRc:=RCloseAny bw bd ba bs W7 cd7 ca7 cs7 hW7 bx f ts g (Z.own r5++base) cx4 cb4 (.inl ⟨hg7,i+1,hrd5.move (hE6.trans hE7).size⟩)
     refine Go.SL.Lv.call (hc:=hRc) (h:= ?_)
     rintro _ _ ⟨ca8,α8,cx8,rfl,hW8,hE8,hg8⟩
     try dsimp only[List.cons_append,List.nil_append]
     (refine Go.SL.Lv.nil (Hr:=[wrow bw bd ba bs,cd7,ca8,cs7,Z.C r5]) Tryz.results94 (hR:= ?_);exact hbad {W7 with α:=α8} cd7 ca8 cs7 r5 _ hW8 ((hE36.trans (hE7.trans hE8)).weak (k':=f.blocks+f.count+1+P) (by omega) (by omega)) (Nat.le_refl _) (fun x hx=>by show W7.δ.disk x=_;rw[hd7];exact(hK5.trans hK6) x hx) hg8 (hZ.stayE _ _ _ (hZ.fin _ _ _ hJ5) ((hE6.trans hE7).trans hE8).size) (fault_keep hE35 hf6) hl7)
   ·have hpr5:=hP W5 r5 hE5'
    have hD:=DropAny bw bd ba bs W5 cd5 ca5 cs3 hW5 bx2 first (nblocks W.δ.size width f.count) width f.count g2 (g::(Z.own r5++base)) W.live cy3 cc3 (.inl ⟨hg5',hl5',_,hwr5⟩)
    repeat(refine st ?_;intros)
    refine Go.SL.Lv.call (hc:=hD) (h:= ?_)
    rintro _ _ ⟨cd7,ca7,cs7,W7,cy7,cc7,rfl,hW7,hE7,hd7,hg7,hl7⟩
    try dsimp only[List.cons_append,List.nil_append]
    have hRc:=RCloseAny bw bd ba bs W7 cd7 ca7 cs7 hW7 bx f ts g (Z.own r5++base) cx4 cb4 (.inl ⟨hg7,i+1,hrd5.move hE7.size⟩)
    refine Go.SL.Lv.call (hc:=hRc) (h:= ?_)
    rintro _ _ ⟨ca8,α8,cx8,rfl,hW8,hE8,hg8⟩
    try dsimp only[List.cons_append,List.nil_append]
    (refine Go.SL.Lv.nil (Hr:=[wrow bw bd ba bs,cd7,ca8,cs7,Z.C r5]) Tryz.results94 (hR:= ?_);exact hbad {W7 with α:=α8} cd7 ca8 cs7 r5 _ hW8 ((hE35.trans (hE7.trans hE8)).weak (k':=f.blocks+f.count+1+P) (by omega) (by omega)) (Nat.le_refl _) (fun x hx=>by show W7.δ.disk x=_;rw[hd7];exact hK5 x hx) hg8 (hZ.stayE _ _ _ hE5' (hE7.trans hE8).size) (fault_keep hE34 hf5) hl7)
  ·have hE34:=hE3.trans hE4
   have hf3:W3.δ.fault≠-1:=by omega
   have hD:=DropAny bw bd ba bs W4 cd4 ca4 cs3 hW4 bx2 first (nblocks W.δ.size width f.count) width f.count g2 (Z.own r3++base) W.live cy3 cc3 (.inl ⟨hg4,by rw[hl4];exact hl3,_,hwr3.move hE4.size (fun x _ _=>by rw[hd4])⟩)
   repeat(refine st ?_;intros)
   refine Go.SL.Lv.call (hc:=hD) (h:= ?_)
   rintro _ _ ⟨cd7,ca7,cs7,W7,cy7,cc7,rfl,hW7,hE7,hd7,hg7,hl7⟩
   try dsimp only[List.cons_append,List.nil_append]
   have hRc:=RCloseAny bw bd ba bs W7 cd7 ca7 cs7 hW7 bx f ts g (Z.own r3++base) cx4 cb4 (.inr ⟨hg7,hx4⟩)
   refine Go.SL.Lv.call (hc:=hRc) (h:= ?_)
   rintro _ _ ⟨ca8,α8,cx8,rfl,hW8,hE8,hg8⟩
   try dsimp only[List.cons_append,List.nil_append]
   (refine Go.SL.Lv.nil (Hr:=[wrow bw bd ba bs,cd7,ca8,cs7,Z.C r3]) Tryz.results94 (hR:= ?_);exact hbad {W7 with α:=α8} cd7 ca8 cs7 r3 _ hW8 ((hE34.trans (hE7.trans hE8)).weak (k':=f.blocks+f.count+1+P) (by omega) (by omega)) (Nat.le_refl _) (fun x hx=>by show W7.δ.disk x=_;rw[hd7,hd4];exact hK3 x hx) hg8 (hZ.stayE _ _ _ (hZ.fin _ _ _ hJ3) ((hE4.trans hE7).trans hE8).size) (fault_keep hE3 hf3) hl7)
 ·obtain rfl:i=f.count:=by omega
  have hNe:=NextEnd_u bw bx W3 f ts g cx3 cb3 hrd3
  rw[hz] at hNe
  have hCl:=Close_w bw bd ba bs W3 cd3 ca3 cs3 hW3 bx2 first (nblocks W.δ.size width f.count) width f.count g2 _ cy3 cc3 hwr3 (g::(Z.own r3++base)) hg3 W.live hl3 (by omega) (by rw[hsz3];exact holds_pos hs1 hw1 hw5)
  repeat(refine st ?_;intros)
  refine R.callVP (fs:=[pv bx]) (vs:=[]) (hf:=inferInstance) (hct:=hNe) (h:= ?_)
  repeat(refine st ?_;intros)
  refine R.call (hct:=hCl) (h:= ?_)
  rintro _ _ ⟨cd4,ca4,cs4,W4,cy4,cc4,f',e,rfl,rfl,hW4,hE4,hK4,hg4,hx4,hc4⟩
  try dsimp only[List.cons_append,List.nil_append]
  have hfv:flv f'= .agg #[.int .i64 (f'.first:Int),.int .i64 (f'.blocks:Int),.int .i64 (f'.width:Int),.int .i64 (f'.count:Int)]:=rfl
  rw[hfv]
  have hD:=DropAny bw bd ba bs W4 cd4 ca4 cs4 hW4 bx2 first (nblocks W.δ.size width f.count) width f.count g2 (g::(Z.own r3++base)) W4.live cy4 cc4 (.inr ⟨hg4,.refl _,hx4⟩)
  repeat(refine st ?_;intros)
  refine Go.SL.Lv.call (hc:=hD) (h:= ?_)
  rintro _ _ ⟨cd7,ca7,cs7,W7,cy7,cc7,rfl,hW7,hE7,hd7,hg7,hl7⟩
  try dsimp only[List.cons_append,List.nil_append]
  have hRc:=RCloseAny bw bd ba bs W7 cd7 ca7 cs7 hW7 bx f ts g (Z.own r3++base) cx3 cb3 (.inl ⟨hg7,f.count,hrd3.move (hE4.trans hE7).size⟩)
  refine Go.SL.Lv.call (hc:=hRc) (h:= ?_)
  rintro _ _ ⟨ca8,α8,cx8,rfl,hW8,hE8,hg8⟩
  try dsimp only[List.cons_append,List.nil_append]
  (refine Go.SL.Lv.nil (Hr:=[wrow bw bd ba bs,cd7,ca8,cs7,Z.C r3]) Tryz.results94 (hR:= ?_);refine⟨cd7,ca8,cs7,{W7 with α:=α8},r3,f',e,rfl,rfl,hW8,((hE3.trans hE4).trans (hE7.trans hE8)).weak (by omega) (by omega),fun x hx=>by show W7.δ.disk x=_;rw[hd7];exact(hK3.trans hK4) x hx,hg8,hZ.stayE _ _ _ (hZ.fin _ _ _ hJ3) ((hE4.trans hE7).trans hE8).size,?_⟩)
  rcases hc4 with⟨rfl,hl4,hfw,hfc,hfo4⟩|⟨rfl,rfl,hf4,hl4⟩
  ·rw[rangeT_len] at hfc
   exact .inl ⟨rfl,hl7.trans hl4,hfw,hfc,by show FileOk W7.δ.disk _ _ _ _;rw[hd7,←hsz3];exact hfo4⟩
  ·exact .inr ⟨rfl,rfl,fault_keep hE3 hf4,hl7.trans hl4⟩
def setc (t:T5) (j:Nat) (x:Int):T5:=
 match j with
 |0=>{t with c0:=x}
 |1=>{t with c1:=x}
 |2=>{t with c2:=x}
 |3=>{t with c3:=x}
 |_=>{t with c4:=x}
theorem setc_cells (t:T5) {j:Nat} (hj:j<5) (x:Int):(tcells t).set j (.int .i64 x)=tcells (setc t j x):=by
 match j,hj with
 |0,_=>rfl
 |1,_=>rfl
 |2,_=>rfl
 |3,_=>rfl
 |4,_=>rfl
theorem tcol_cell (t:T5) {i:Nat} (h:i<5):(tcells t)[i]? =some (.int .i64 (t.col i)):=by
 match i,h with
 |0,_=>rfl
 |1,_=>rfl
 |2,_=>rfl
 |3,_=>rfl
 |4,_=>rfl
def lkV (bs:List T5) (k:Int) (v:Nat):Int:=
 match bs.find? fun t=>decide (t.c0=k) with
 |some t=>t.col v
 |none=> -1
def lookF (bs:List T5) (key value to:Nat) (t:T5):T5:=setc t to (lkV bs (t.col key) value)
theorem lkV_none {bs:List T5} {k:Int} {v:Nat} (h:∀u∈bs,u.c0≠k):lkV bs k v= -1:=by
 unfold lkV
 rw[List.find?_eq_none.2 fun u hu=>by simp[h u hu]]
theorem lkV_some {bs:List T5} (hr:bs.Pairwise fun a c=>a.c0<c.c0) {k:Int} {v:Nat} {t:T5} (ht:t∈bs) (hk:t.c0=k):lkV bs k v=t.col v:=by
 unfold lkV
 cases hf:bs.find? fun t=>decide (t.c0=k) with
 |none=>
  rw[List.find?_eq_none] at hf
  exact(hf t ht (by simp[hk])).elim
 |some u=>
  have h1:u.c0=k:=by simpa using List.find?_some hf
  have h2:=List.mem_of_find?_eq_some hf
  obtain⟨i,hi,rfl⟩:=List.mem_iff_getElem.1 ht
  obtain⟨j,hj,rfl⟩:=List.mem_iff_getElem.1 h2
  rcases Nat.lt_trichotomy i j with h3|h3|h3
  ·have:=List.pairwise_iff_getElem.1 hr i j hi hj h3;omega
  ·subst h3;rfl
  ·have:=List.pairwise_iff_getElem.1 hr j i hj hi h3;omega
structure LkS where
 pos:Nat
 ok:Bool
 begun:Bool
 t:T5
 last:Int
 any:Bool
 cx:Chunk
 cb:Chunk
 op:Bool
structure LkOk (bs:List T5) (s:LkS) (k:Int):Prop where
 nb:s.begun=false→s.pos=0
 yes:s.begun=true→s.ok=true→∃p,s.pos=p+1∧bs[p]? =some s.t∧∀j u,j<p→bs[j]? =some u→u.c0<k
 no:s.begun=true→s.ok=false→s.pos=bs.length∧∀u∈bs,u.c0<k
theorem LkOk.up {bs:List T5} {s:LkS} {k k':Int} (h:LkOk bs s k) (hk:k≤k'):LkOk bs s k' where
 nb:=h.nb
 yes a b:=by
  obtain⟨p,h1,h2,h3⟩:=h.yes a b
  exact⟨p,h1,h2,fun j u hj hu=>by have:=h3 j u hj hu;omega⟩
 no a b:=⟨(h.no a b).1,fun u hu=>by have:=(h.no a b).2 u hu;omega⟩
theorem LkOk.all {bs:List T5} {s:LkS} {k:Int} (h:LkOk bs s k) (hc:s.begun=true→s.ok=true∧s.t.c0<k):∀j u,j<s.pos→bs[j]? =some u→u.c0<k:=by
 intro j u hj hu
 cases hb:s.begun with
 |false=>have:=h.nb hb;omega
 |true=>
  obtain⟨h1,h2⟩:=hc hb
  obtain⟨p,h3,h4,h5⟩:=h.yes hb h1
  rcases Nat.lt_or_ge j p with h6|h6
  ·exact h5 j u h6 hu
  ·obtain rfl:j=p:=by omega
   rw[h4] at hu
   rw[←Option.some.inj hu];exact h2
def lkRow (bl bx key value to:Nat) (s:LkS):Chunk:=[(bl,row [.func (.func 52) #[pv bx] #[],.int .i64 s.t.c0,.int .i64 s.t.c1,.int .i64 s.t.c2,.int .i64 s.t.c3,.int .i64 s.t.c4,.bool s.ok,.bool s.begun,.int .i64 (key:Int),.int .i64 (value:Int),.int .i64 (to:Int),.int .i64 s.last,.bool s.any] 149)]
theorem more_ct (bw bd ba bs bl bx key value to:Nat) (W:Wk) (cd ca cs:Chunk) (h:Wc bd ba bs W cd ca cs) (fb:Fl) (bts:List T5) (LvB:List Ext) (hfo:FileOk W.δ.disk W.δ.size LvB fb bts) (hsub:∀e∈LvB,e∈W.live) (hrise:bts.Pairwise fun a c=>a.c0<c.c0)
  (g:Gr) (Gs:List Gr) (hg:W.α.gs.Perm (g::Gs)) (s:LkS) (hrd:IsRd bw bx W fb bts g s.pos s.cx s.cb) (hpos:s.pos≤fb.count) (hs:s.begun=true→s.ok=true∧∃p,s.pos=p+1∧bts[p]? =some s.t) (hac:W.δ.acts≤1000000000000):
  Ct Tryz.prog 120 [pv bl] [lkRow bl bx key value to s,wrow bw bd ba bs,cd,ca,cs,s.cx,s.cb] fun v H'=>
   ∃cd' ca' W' s' e,v= .int .i64 e∧H'=[lkRow bl bx key value to s',wrow bw bd ba bs,cd',ca',cs,s'.cx,s'.cb]∧Wc bd ba bs W' cd' ca' cs∧Ev W W' (nblocks W.δ.size fb.width s'.pos-nblocks W.δ.size fb.width s.pos) 0∧W'.δ.disk=W.δ.disk∧W'.σ=W.σ∧W'.live=W.live∧
    s'.last=s.last∧s'.any=s.any∧s'.begun=true∧
    ((e=0∧W'.α.gs.Perm (g::Gs)∧IsRd bw bx W' fb bts g s'.pos s'.cx s'.cb∧((s.pos<fb.count∧s'.pos=s.pos+1∧s'.ok=true∧bts[s.pos]? =some s'.t)∨(s.pos=fb.count∧s'.pos=s.pos∧s'.ok=false)))∨
     (e=6∧W.δ.fault≠-1∧W'.α.gs.Perm Gs∧ClosedRd bx s'.cx∧s'.pos≤fb.count∧s.pos≤s'.pos)):=by
 have hz:tv T5.zero= .agg #[.int .i64 T5.zero.c0,.int .i64 T5.zero.c1,.int .i64 T5.zero.c2,.int .i64 T5.zero.c3,.int .i64 T5.zero.c4]:=rfl
 have hlen:=hfo.len
 obtain⟨pos,ok,begun,t,last,any,cx,cb,op⟩:=s
 unfold lkRow
 dsimp only at hrd hpos hs⊢
 by_cases hlt:pos<fb.count
 ·have htg:bts[pos]? =some bts[pos]:=List.getElem?_eq_getElem (by omega)
  have hNx:=Next_u bw bd ba bs W cd ca cs h bx fb bts LvB hfo hsub g Gs hg pos cx cb hrd _ htg hac
  have htv:tv bts[pos]= .agg #[.int .i64 (bts[pos]).c0,.int .i64 (bts[pos]).c1,.int .i64 (bts[pos]).c2,.int .i64 (bts[pos]).c3,.int .i64 (bts[pos]).c4]:=rfl
  rw[htv,hz] at hNx
  have hup:begun=true→¬(bts[pos]).c0≤t.c0:=fun hb=>by
   obtain⟨_,p,h1,h2⟩:=hs hb
   obtain⟨hp,h3⟩:=List.getElem?_eq_some_iff.1 h2
   have:=List.pairwise_iff_getElem.1 hrise p pos hp (by omega) (by omega)
   rw[h3] at this;omega
  generalize hu:bts[pos]=u at*
  cases begun with
  |false=>
   refine Ct.intro Tryz.func120 rfl Tryz.ntmps120 (nle rfl) fun w0=> ?_;dsimp only[argSlots,Nat.reduceAdd]
   repeat(first|(refine st ?_;intros)|refine G.draw [] (h:= ?_))
   refine R.callV (fs:=[pv bx]) (vs:=[]) (hf:=inferInstance) (hct:=hNx) (h:= ?_)
   rintro _ _ ⟨cd4,ca4,W4,cx4,cb4,rfl,hW4,hE4,hd4,hσ4,hl4,⟨rfl,hα4,hr4⟩|⟨rfl,hf4,hδ4,hg4,hx4⟩⟩<;>dsimp only[List.cons_append,List.nil_append]
   ·repeat(first|(refine st ?_;intros)|refine G.draw [] (h:= ?_))
    (refine Dn.post (Hr:=[[(bl,row [.func (.func 52) #[pv bx] #[],.int .i64 u.c0,.int .i64 u.c1,.int .i64 u.c2,.int .i64 u.c3,.int .i64 u.c4,.bool true,.bool true,.int .i64 (key:Int),.int .i64 (value:Int),.int .i64 (to:Int),.int .i64 last,.bool any] 149)],wrow bw bd ba bs,cd4,ca4,cs,cx4,cb4]) Tryz.results120 (hR:= ?_);exact⟨cd4,ca4,W4,⟨pos+1,true,true,u,last,any,cx4,cb4,op⟩,0,rfl,rfl,hW4,hE4,hd4,hσ4,hl4,rfl,rfl,rfl,.inl ⟨rfl,by rw[hα4];exact hg,hr4,.inl ⟨hlt,rfl,rfl,htg⟩⟩⟩)
   ·repeat(first|(refine st ?_;intros)|refine G.draw [] (h:= ?_))
    (refine Dn.post (Hr:=[[(bl,row [.func (.func 52) #[pv bx] #[],.int .i64 T5.zero.c0,.int .i64 T5.zero.c1,.int .i64 T5.zero.c2,.int .i64 T5.zero.c3,.int .i64 T5.zero.c4,.bool false,.bool true,.int .i64 (key:Int),.int .i64 (value:Int),.int .i64 (to:Int),.int .i64 last,.bool any] 149)],wrow bw bd ba bs,cd4,ca4,cs,cx4,cb4]) Tryz.results120 (hR:= ?_);exact⟨cd4,ca4,W4,⟨pos+1,false,true,T5.zero,last,any,cx4,cb4,op⟩,6,rfl,rfl,hW4,hE4,hd4,hσ4,hl4,rfl,rfl,rfl,.inr ⟨rfl,by omega,hg4,hx4,hlt,Nat.le_succ _⟩⟩)
  |true=>
   obtain⟨rfl,_⟩:=hs rfl
   have hup1:=hup rfl
   refine Ct.intro Tryz.func120 rfl Tryz.ntmps120 (nle rfl) fun w0=> ?_;dsimp only[argSlots,Nat.reduceAdd]
   repeat(first|(refine st ?_;intros)|refine G.draw [] (h:= ?_))
   refine R.callV (fs:=[pv bx]) (vs:=[]) (hf:=inferInstance) (hct:=hNx) (h:= ?_)
   rintro _ _ ⟨cd4,ca4,W4,cx4,cb4,rfl,hW4,hE4,hd4,hσ4,hl4,⟨rfl,hα4,hr4⟩|⟨rfl,hf4,hδ4,hg4,hx4⟩⟩<;>dsimp only[List.cons_append,List.nil_append]
   ·repeat(first|(refine st ?_;intros)|refine G.draw [] (h:= ?_))
    (refine Dn.post (Hr:=[[(bl,row [.func (.func 52) #[pv bx] #[],.int .i64 u.c0,.int .i64 u.c1,.int .i64 u.c2,.int .i64 u.c3,.int .i64 u.c4,.bool true,.bool true,.int .i64 (key:Int),.int .i64 (value:Int),.int .i64 (to:Int),.int .i64 last,.bool any] 149)],wrow bw bd ba bs,cd4,ca4,cs,cx4,cb4]) Tryz.results120 (hR:= ?_);exact⟨cd4,ca4,W4,⟨pos+1,true,true,u,last,any,cx4,cb4,op⟩,0,rfl,rfl,hW4,hE4,hd4,hσ4,hl4,rfl,rfl,rfl,.inl ⟨rfl,by rw[hα4];exact hg,hr4,.inl ⟨hlt,rfl,rfl,htg⟩⟩⟩)
   ·repeat(first|(refine st ?_;intros)|refine G.draw [] (h:= ?_))
    (refine Dn.post (Hr:=[[(bl,row [.func (.func 52) #[pv bx] #[],.int .i64 T5.zero.c0,.int .i64 T5.zero.c1,.int .i64 T5.zero.c2,.int .i64 T5.zero.c3,.int .i64 T5.zero.c4,.bool false,.bool true,.int .i64 (key:Int),.int .i64 (value:Int),.int .i64 (to:Int),.int .i64 last,.bool any] 149)],wrow bw bd ba bs,cd4,ca4,cs,cx4,cb4]) Tryz.results120 (hR:= ?_);exact⟨cd4,ca4,W4,⟨pos+1,false,true,T5.zero,last,any,cx4,cb4,op⟩,6,rfl,rfl,hW4,hE4,hd4,hσ4,hl4,rfl,rfl,rfl,.inr ⟨rfl,by omega,hg4,hx4,hlt,Nat.le_succ _⟩⟩)
 ·obtain rfl:pos=fb.count:=by omega
  have hNe:=NextEnd_u bw bx W fb bts g cx cb hrd
  rw[hz] at hNe
  cases begun with
  |false=>
   refine Ct.intro Tryz.func120 rfl Tryz.ntmps120 (nle rfl) fun w0=> ?_;dsimp only[argSlots,Nat.reduceAdd]
   repeat(first|(refine st ?_;intros)|refine G.draw [] (h:= ?_))
   refine R.callVP (fs:=[pv bx]) (vs:=[]) (hf:=inferInstance) (hct:=hNe) (h:= ?_)
   repeat(first|(refine st ?_;intros)|refine G.draw [] (h:= ?_))
   (refine Dn.post (Hr:=[[(bl,row [.func (.func 52) #[pv bx] #[],.int .i64 T5.zero.c0,.int .i64 T5.zero.c1,.int .i64 T5.zero.c2,.int .i64 T5.zero.c3,.int .i64 T5.zero.c4,.bool false,.bool true,.int .i64 (key:Int),.int .i64 (value:Int),.int .i64 (to:Int),.int .i64 last,.bool any] 149)],wrow bw bd ba bs,cd,ca,cs,cx,cb]) Tryz.results120 (hR:= ?_);exact⟨cd,ca,W,⟨fb.count,false,true,T5.zero,last,any,cx,cb,op⟩,0,rfl,rfl,h,(Ev.refl W).weak (Nat.zero_le _) (Nat.le_refl _),rfl,rfl,rfl,rfl,rfl,rfl,.inl ⟨rfl,hg,hrd,.inr ⟨rfl,rfl,rfl⟩⟩⟩)
  |true=>
   obtain⟨rfl,_⟩:=hs rfl
   refine Ct.intro Tryz.func120 rfl Tryz.ntmps120 (nle rfl) fun w0=> ?_;dsimp only[argSlots,Nat.reduceAdd]
   repeat(first|(refine st ?_;intros)|refine G.draw [] (h:= ?_))
   refine R.callVP (fs:=[pv bx]) (vs:=[]) (hf:=inferInstance) (hct:=hNe) (h:= ?_)
   repeat(first|(refine st ?_;intros)|refine G.draw [] (h:= ?_))
   (refine Dn.post (Hr:=[[(bl,row [.func (.func 52) #[pv bx] #[],.int .i64 T5.zero.c0,.int .i64 T5.zero.c1,.int .i64 T5.zero.c2,.int .i64 T5.zero.c3,.int .i64 T5.zero.c4,.bool false,.bool true,.int .i64 (key:Int),.int .i64 (value:Int),.int .i64 (to:Int),.int .i64 last,.bool any] 149)],wrow bw bd ba bs,cd,ca,cs,cx,cb]) Tryz.results120 (hR:= ?_);exact⟨cd,ca,W,⟨fb.count,false,true,T5.zero,last,any,cx,cb,op⟩,0,rfl,rfl,h,(Ev.refl W).weak (Nat.zero_le _) (Nat.le_refl _),rfl,rfl,rfl,rfl,rfl,rfl,.inl ⟨rfl,hg,hrd,.inr ⟨rfl,rfl,rfl⟩⟩⟩)
end Go.Proofs.YtlnehgklibbjiaaGreat
