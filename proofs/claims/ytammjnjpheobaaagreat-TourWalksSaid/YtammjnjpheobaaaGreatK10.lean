/-
  Parts of the proof, put together: Wr, Wr2, WrPlain, TupMore, TupSl, Put. No condition.
-/
import Derived.Test.YtammjnjpheobaaaGreatK9
set_option linter.unusedVariables false
set_option linter.unusedSimpArgs false
set_option linter.unnecessarySimpa false
set_option maxHeartbeats 4000000
namespace Go.Proofs.YtammjnjpheobaaaGreat
open Go.SL Go.Spc Go.Tup
def wrCells (bw first blocks k count bound bb n at_:Nat) (closed:Bool):List Value:=
 [pv bw,.int .i64 (first:Int),.int .i64 (blocks:Int),.int .i64 (k:Int),.int .i64 (count:Int),.int .i64 (bound:Int),pv bb,.int .i64 (n:Int),.int .i64 (at_:Int),.bool closed]
def WrMade (bw bd ba bs:Nat) (W:Wk) (k bound:Nat) (v:Value) (H':Hp):Prop:=
 (nblocks W.δ.size k bound≤big W.σ.free∧∃(bx first:Nat) (g:Gr) (cd ca cs:Chunk) (W':Wk),v= .tuple #[pv bx,.int .i64 0]∧
  H'=[wrow bw bd ba bs,cd,ca,cs,[(bx,row (wrCells bw first (nblocks W.δ.size k bound) k 0 bound g.bb 0 0 false) 178)],[(g.br,row (wcells (List.replicate W.δ.size 0)) 158)]]∧
  Wc bd ba bs W' cd ca cs∧Ev W W' 0 (nblocks W.δ.size k bound)∧W'.δ=W.δ∧g.n=W.δ.size∧W'.α.gs.Perm (g::W.α.gs)∧
  (if nblocks W.δ.size k bound=0 then W'.live=W.live∧W'.σ=W.σ else W'.live=(first,nblocks W.δ.size k bound)::W.live))∨
 (big W.σ.free<nblocks W.δ.size k bound∧v= .tuple #[.pointer none,.int .i64 5]∧∃(cd ca cs:Chunk) (W':Wk),H'=[wrow bw bd ba bs,cd,ca,cs]∧Wc bd ba bs W' cd ca cs∧Ev W W' 0 0∧W'.δ=W.δ∧W'.σ=W.σ∧W'.live=W.live∧W'.α.gs.Perm W.α.gs)
theorem live_take {σ σ':Sp} {live:List Ext} {f m:Nat} (h:Live σ live) (hm:1≤m) (hn:σ'.n=σ.n) (h1:∀x,f≤x→x<f+m→inF σ.free x) (h2:f+m≤σ.n)
  (h3:∀x,inF σ'.free x↔inF σ.free x∧¬(f≤x∧x<f+m)) (h4:total σ'.free+m=total σ.free):Live σ' ((f,m)::live):=by
 refine⟨?_,?_,?_,?_⟩
 ·intro e he
  rw[hn]
  rcases List.mem_cons.1 he with rfl|he
  ·exact⟨hm,h2⟩
  ·exact h.fit e he
 ·refine List.pairwise_cons.2 ⟨fun e he=> ?_,h.apart⟩
  dsimp only
  by_cases hh:f+m≤e.1∨e.1+e.2≤f
  ·exact hh
  ·exfalso
   have hf:=h.fit e he
   have hx:inF σ.free (max f e.1):=h1 _ (by omega) (by omega)
   exact(h.free _ (by omega)).1 hx ⟨e,he,by omega,by omega⟩
 ·intro x hx
  rw[hn] at hx
  rw[h3,h.free x hx,inF_cons]
  dsimp only
  constructor
  ·rintro⟨a,b⟩ (c|c)
   ·exact b c
   ·exact a c
  ·intro a
   exact⟨fun c=>a (.inr c),fun c=>a (.inl c)⟩
 ·rw[hn,total_cons]
  have:=h.sum
  dsimp only
  omega
theorem live_give {σ σ':Sp} {live:List Ext} {f m:Nat} (h:Live σ ((f,m)::live)) (hn:σ'.n=σ.n)
  (h3:∀x,inF σ'.free x↔inF σ.free x∨(f≤x∧x<f+m)) (h4:total σ'.free=total σ.free+m):Live σ' live:=by
 refine⟨fun e he=> ?_,(List.pairwise_cons.1 h.apart).2,fun x hx=> ?_,?_⟩
 ·rw[hn];exact h.fit e (List.mem_cons_of_mem _ he)
 ·rw[hn] at hx
  rw[h3,h.free x hx,inF_cons]
  dsimp only
  constructor
  ·rintro(a|a) hb
   ·exact a (.inr hb)
   ·exact h.other (e:=(f,m)) a.1 a.2 hb
  ·intro a
   by_cases hf:f≤x∧x<f+m
   ·exact .inr hf
   ·left
    rintro(c|c)
    ·exact hf c
    ·exact a c
 ·have:=h.sum
  rw[total_cons] at this
  rw[hn]
  dsimp only at this
  omega
theorem live_free {σ:Sp} {live:List Ext} {f m:Nat} (h:Live σ ((f,m)::live)):(1≤m∧f+m≤σ.n)∧∀x,f≤x→x<f+m→¬inF σ.free x:=by
 refine⟨h.fit _ List.mem_cons_self,fun x h1 h2 h3=> ?_⟩
 have:=h.fit _ List.mem_cons_self
 dsimp only at this
 exact(h.free x (by omega)).1 h3 (by rw[inF_cons];exact .inl ⟨h1,h2⟩)
theorem Write_ct (bw bd ba bs:Nat) (W:Wk) (cd ca cs:Chunk) (h:Wc bd ba bs W cd ca cs) (k bound:Nat) (h1:1≤k) (h2:k≤5) (hb:bound≤100000000) (hr:W.δ.size≤W.α.room-W.α.used):
  Ct Tryz.prog 73 [pv bw,.int .i64 (k:Int),.int .i64 (bound:Int)] [wrow bw bd ba bs,cd,ca,cs] (WrMade bw bd ba bs W k bound):=by
 have hH:=Holds_ct bw bd ba bs W.δ cd h.dev k h1 h2
 have hB:=blocks_ct bw bd ba bs W.δ cd h.dev k bound h1 h2 hb
 obtain⟨hs,_⟩:=h.dev.num
 have hp:=holds_pos hs.1 h1 h2
 have hS:=Size_ct bd W.δ cd h.dev
 have hn:=h.ar.num
 have hG:=aGrant ba W.α ca h.ar W.δ.size (by omega)
 unfold WrMade
 have hh6:holds W.δ.size k≤256:=Nat.le_trans (Nat.div_le_self _ _) (by omega)
 have hnb:nblocks W.δ.size k bound≤1000000000:=Nat.le_trans (Nat.div_le_self _ _) (by omega)
 generalize hnbe:nblocks W.δ.size k bound=nb at*
 generalize holds W.δ.size k=hk at*
 unfold wrow at hH hB⊢
 refine Ct.intro Tryz.func73 rfl Tryz.ntmps73 (nle rfl) fun w0=> ?_;dsimp only[argSlots,Nat.reduceAdd]
 repeat(first|(refine st ?_;intros)|refine G.draw (id:=3) [(8,.quiet)] (h:= ?_)|refine G.draw [] (h:= ?_)|(refine cq hH ?_)|(refine cq hS ?_)|(refine cq hB ?_))
 refine R.call (hct:=hG) (h:= ?_)
 rintro _ _ ⟨g,ca',α',hgn,rfl,hA',hgs,hro,rfl⟩
 try dsimp only[List.cons_append,List.nil_append]
 repeat(first|(refine st ?_;intros)|refine G.draw (id:=3) [(8,.quiet)] (h:= ?_)|refine G.draw [] (h:= ?_)|(refine cq hH ?_)|(refine cq hS ?_)|(refine cq hB ?_))
 by_cases h0:nb=0
 ·subst h0
  repeat(first|(refine st ?_;intros)|refine G.draw (id:=3) [(8,.quiet)] (h:= ?_)|refine G.draw [] (h:= ?_)|(refine cq hH ?_)|(refine cq hS ?_)|(refine cq hB ?_))
  rename_i bx
  (refine Dn.post (Hr:=[[(bw,row [pv bd,pv ba,pv bs] 101)],cd,ca',cs,[(bx,row (wrCells bw 0 0 k 0 bound g.bb 0 0 false) 178)],[(g.br,row (wcells (List.replicate W.δ.size 0)) 158)]]) Tryz.results73 (hR:= ?_);left)
  refine⟨Nat.zero_le _,bx,0,g,cd,ca',cs,{W with α:=α'},rfl,rfl,⟨h.dev,hA',h.sp,h.nn,h.live⟩,⟨rfl,rfl,⟨Nat.le_refl _,Nat.le_refl _⟩,id,hro,Nat.le_refl _⟩,rfl,hgn,hgs,?_⟩
  simp
 ·by_cases hfit:nb≤big W.σ.free
  ·have hT:=Take_ok bs W.σ cs h.sp nb (by omega) hfit
   repeat(first|(refine st ?_;intros)|refine G.draw (id:=3) [(8,.quiet)] (h:= ?_)|refine G.draw [] (h:= ?_)|(refine cq hH ?_)|(refine cq hS ?_)|(refine cq hB ?_))
   refine R.call (hct:=hT) (h:= ?_)
   rintro _ _ ⟨f,cs',σ',rfl,hS',e1,e2,e3,e4,e5,e6,rfl⟩
   try dsimp only[List.cons_append,List.nil_append]
   repeat(first|(refine st ?_;intros)|refine G.draw (id:=3) [(8,.quiet)] (h:= ?_)|refine G.draw [] (h:= ?_)|(refine cq hH ?_)|(refine cq hS ?_)|(refine cq hB ?_))
   rename_i bx
   (refine Dn.post (Hr:=[[(bw,row [pv bd,pv ba,pv bs] 101)],cd,ca',cs',[(bx,row (wrCells bw f nb k 0 bound g.bb 0 0 false) 178)],[(g.br,row (wcells (List.replicate W.δ.size 0)) 158)]]) Tryz.results73 (hR:= ?_);left)
   refine⟨hfit,bx,f,g,cd,ca',cs',{W with α:=α',σ:=σ',live:=(f,nb)::W.live},rfl,rfl,⟨h.dev,hA',hS',h.nn.trans e1.symm,live_take h.live (by omega) e1 e2 e3 e4 e5⟩,⟨rfl,e1,⟨Nat.le_refl _,Nat.le_refl _⟩,id,hro,e6⟩,rfl,hgn,hgs,?_⟩
   rw[if_neg h0]
  ·have hT:=Take_full bs W.σ cs h.sp nb (by omega) (by omega) hnb
   have hR:=aRelease ba α' ca' hA' g W.α.gs hgs
   repeat(first|(refine st ?_;intros)|refine G.draw (id:=3) [(8,.quiet)] (h:= ?_)|refine G.draw [] (h:= ?_)|(refine cq hH ?_)|(refine cq hS ?_)|(refine cq hB ?_))
   refine R.call (hct:=hT) (h:= ?_)
   rintro _ _ ⟨rfl,rfl⟩
   try dsimp only[List.cons_append,List.nil_append]
   repeat(first|(refine st ?_;intros)|refine G.draw (id:=3) [(8,.quiet)] (h:= ?_)|refine G.draw [] (h:= ?_)|(refine cq hH ?_)|(refine cq hS ?_)|(refine cq hB ?_))
   refine R.call (hct:=hR) (h:= ?_)
   rintro _ _ ⟨ca2,α2,rfl,hA2,hg2,hr2,rfl⟩
   try dsimp only[List.cons_append,List.nil_append]
   repeat(first|(refine st ?_;intros)|refine G.draw (id:=3) [(8,.quiet)] (h:= ?_)|refine G.draw [] (h:= ?_)|(refine cq hH ?_)|(refine cq hS ?_)|(refine cq hB ?_))
   (refine Dn.post (Hr:=[[(bw,row [pv bd,pv ba,pv bs] 101)],cd,ca2,cs]) Tryz.results73 (hR:= ?_);right)
   exact⟨by omega,rfl,cd,ca2,cs,{W with α:=α2},rfl,⟨h.dev,hA2,h.sp,h.nn,h.live⟩,⟨rfl,rfl,⟨Nat.le_refl _,Nat.le_refl _⟩,id,hr2.trans hro,Nat.le_refl _⟩,rfl,rfl,rfl,hg2⟩
def LvOf (first nb:Nat) (Lv live:List Ext):Prop:=if nb=0 then live.Perm Lv else live.Perm ((first,nb)::Lv)
def WrGone (bw bd ba bs bx:Nat) (W:Wk) (Gs:List Gr) (Lv:List Ext) (first nb k bound bb:Nat) (cb:Chunk) (kk:Nat) (δ':Dv) (H':Hp):Prop:=
 ∃(cd ca cs:Chunk) (W':Wk) (cnt n a:Nat),H'=[wrow bw bd ba bs,cd,ca,cs,[(bx,row (wrCells bw first nb k cnt bound bb n a true) 178)],cb]∧
  Wc bd ba bs W' cd ca cs∧Ev W W' kk 0∧W'.δ=δ'∧W'.α.gs.Perm Gs∧W'.live.Perm Lv
theorem Drop_closedB (bw first nb k cnt bound bb n a bx:Nat):Cb Tryz.prog 75 [pv bx] [[(bx,row (wrCells bw first nb k cnt bound bb n a true) 178)]] (fun v' H'=>v'= .tuple #[]∧H'=[[(bx,row (wrCells bw first nb k cnt bound bb n a true) 178)]]):=by
 unfold wrCells
 refine Cb.intro Tryz.func75 rfl Tryz.ntmps75 (nle rfl) fun w0=> ?_;dsimp only[argSlots,Nat.reduceAdd]
 repeat(first|(refine st ?_;intros)|refine G.draw [] (h:= ?_))
 (refine Dn.post (Hr:=[[(bx,row [pv bw,.int .i64 (first:Int),.int .i64 (nb:Int),.int .i64 (k:Int),.int .i64 (cnt:Int),.int .i64 (bound:Int),pv bb,.int .i64 (n:Int),.int .i64 (a:Int),.bool true] 178)]]) Tryz.results75 (hR:= ?_);exact⟨rfl,rfl⟩)
theorem Drop_cb (bw bd ba bs:Nat) (W:Wk) (cd ca cs:Chunk) (h:Wc bd ba bs W cd ca cs) (bx first nb k cnt bound n a:Nat) (g:Gr) (Gs:List Gr) (hg:W.α.gs.Perm (g::Gs)) (Lv:List Ext) (hl:LvOf first nb Lv W.live) (cb:Chunk):
  Cb Tryz.prog 75 [pv bx] [wrow bw bd ba bs,cd,ca,cs,[(bx,row (wrCells bw first nb k cnt bound g.bb n a false) 178)],cb] fun v H'=>
   v= .tuple #[]∧WrGone bw bd ba bs bx W Gs Lv first nb k bound g.bb cb 0 W.δ H':=by
 have hR:=aRelease ba W.α ca h.ar g Gs hg
 unfold wrow wrCells
 by_cases h0:nb=0
 ·subst h0
  refine Cb.intro Tryz.func75 rfl Tryz.ntmps75 (nle rfl) fun w0=> ?_;dsimp only[argSlots,Nat.reduceAdd]
  repeat(first|(refine st ?_;intros)|refine G.draw [] (h:= ?_))
  refine R.call (hct:=hR) (h:= ?_)
  rintro _ _ ⟨ca',α',rfl,hA',hgs,hro,rfl⟩
  try dsimp only[List.cons_append,List.nil_append]
  repeat(first|(refine st ?_;intros)|refine G.draw [] (h:= ?_))
  (refine Dn.postEnd (Hr:=[[(bw,row [pv bd,pv ba,pv bs] 101)],cd,ca',cs,[(bx,row [pv bw,.int .i64 (first:Int),.int .i64 ((0:Nat):Int),.int .i64 (k:Int),.int .i64 (cnt:Int),.int .i64 (bound:Int),pv g.bb,.int .i64 (n:Int),.int .i64 (a:Int),.bool true] 178)],cb]) Tryz.results75 (hR:= ?_);refine⟨rfl,?_⟩)
  refine⟨cd,ca',cs,{W with α:=α'},cnt,n,a,rfl,⟨h.dev,hA',h.sp,h.nn,h.live⟩,⟨rfl,rfl,⟨Nat.le_refl _,Nat.le_refl _⟩,id,hro,Nat.le_refl _⟩,rfl,hgs,?_⟩
  simpa[LvOf] using hl
 ·unfold LvOf at hl
  rw[if_neg h0] at hl
  have hlv:=h.live.perm hl
  obtain⟨⟨f1,f2⟩,f3⟩:=live_free hlv
  have hGv:=Give_ct bs W.σ cs h.sp first nb f1 f2 f3
  refine Cb.intro Tryz.func75 rfl Tryz.ntmps75 (nle rfl) fun w0=> ?_;dsimp only[argSlots,Nat.reduceAdd]
  repeat(first|(refine st ?_;intros)|refine G.draw [] (h:= ?_))
  refine R.call (hct:=hR) (h:= ?_)
  rintro _ _ ⟨ca',α',rfl,hA',hgs,hro,rfl⟩
  try dsimp only[List.cons_append,List.nil_append]
  repeat(first|(refine st ?_;intros)|refine G.draw [] (h:= ?_))
  refine R.call (hct:=hGv) (h:= ?_)
  rintro _ _ ⟨cs',σ',rfl,hS',e1,e3,e4,e5,rfl⟩
  try dsimp only[List.cons_append,List.nil_append]
  repeat(first|(refine st ?_;intros)|refine G.draw [] (h:= ?_))
  (refine Dn.postEnd (Hr:=[[(bw,row [pv bd,pv ba,pv bs] 101)],cd,ca',cs',[(bx,row [pv bw,.int .i64 (first:Int),.int .i64 (nb:Int),.int .i64 (k:Int),.int .i64 (cnt:Int),.int .i64 (bound:Int),pv g.bb,.int .i64 (n:Int),.int .i64 (a:Int),.bool true] 178)],cb]) Tryz.results75 (hR:= ?_);refine⟨rfl,?_⟩)
  exact⟨cd,ca',cs',{W with α:=α',σ:=σ',live:=Lv},cnt,n,a,rfl,⟨h.dev,hA',hS',h.nn.trans e1.symm,live_give hlv e1 e3 e4⟩,⟨rfl,e1,⟨Nat.le_refl _,Nat.le_refl _⟩,id,hro,by show _≤big σ'.free+0;omega⟩,rfl,hgs,.refl _⟩
theorem Drop_ct (bw bd ba bs:Nat) (W:Wk) (cd ca cs:Chunk) (h:Wc bd ba bs W cd ca cs) (bx first nb k cnt bound n a:Nat) (g:Gr) (Gs:List Gr) (hg:W.α.gs.Perm (g::Gs)) (Lv:List Ext) (hl:LvOf first nb Lv W.live) (cb:Chunk):
  Ct Tryz.prog 75 [pv bx] [wrow bw bd ba bs,cd,ca,cs,[(bx,row (wrCells bw first nb k cnt bound g.bb n a false) 178)],cb] fun v H'=>
   v= .tuple #[]∧WrGone bw bd ba bs bx W Gs Lv first nb k bound g.bb cb 0 W.δ H':=(Drop_cb bw bd ba bs W cd ca cs h bx first nb k cnt bound n a g Gs hg Lv hl cb).1
def WrFlushed (bw bd ba bs bx:Nat) (W:Wk) (ca cs:Chunk) (first nb k cnt bound:Nat) (g:Gr) (a:Nat) (pw:List Int) (cb:Chunk) (H':Hp):Prop:=
 ∃cd ca',H'=[wrow bw bd ba bs,cd,ca',cs,[(bx,row (wrCells bw first nb k cnt bound g.bb 0 (a+1) false) 178)],cb]∧ca'.Perm ca∧
  IsDev bd (W.δ.wrote (first+a) (sealW W.δ.size ((first+a:Nat):Int) (k:Int) pw)) cd
theorem flush_ok (bw bd ba bs:Nat) (W:Wk) (cd ca cs:Chunk) (h:Wc bd ba bs W cd ca cs) (bx first nb k cnt bound n a:Nat) (g:Gr) (hg:g∈W.α.gs) (hgn:g.n=W.δ.size) (buf pw:List Int) (hbl:buf.length=W.δ.size) (hpw:buf.take n=pw) (hpl:pw.length=n)
  (hn:n≤W.δ.size-2) (ha:first+a<W.δ.blocks) (hk:k≤5) (hf:W.δ.fault≠0) (hac:W.δ.acts≤1000000000000):
  Ct Tryz.prog 124 [pv bx] [wrow bw bd ba bs,cd,ca,cs,[(bx,row (wrCells bw first nb k cnt bound g.bb n a false) 178)],[(g.br,row (wcells buf) 158)]] fun v H'=>
   v= .int .i64 0∧WrFlushed bw bd ba bs bx W ca cs first nb k cnt bound g a pw [(g.br,row (wcells buf) 158)] H':=by
 obtain⟨⟨hs1,hs2⟩,hbk,hfr⟩:=h.dev.num
 have hS:=Size_ct bd W.δ cd h.dev
 obtain⟨c1,hc1⟩:=h.ar.open_ hg
 have hadd:IntKind.wrap .i64 ((first:Int)+(a:Int))=((first+a:Nat):Int):=by rw[←Int.natCast_add];exact wrap_i64 (by omega)
 have hP:=fun cap=>Put_ct W.δ.size ((first+a:Nat):Int) (k:Int) g.br 0 n cap (wcells buf) 158 (0,0) pw ⟨hs1,hs2⟩ (by omega) hn (by rw[List.drop_zero];rw[←hpw];simp[wcells]) hpl
 have hsl:(sealW W.δ.size ((first+a:Nat):Int) (k:Int) pw).length=W.δ.size:=sealW_length _ _ _ _ (by omega)
 have hW:=fun bl=>Write_ok bd W.δ cd h.dev (first+a) ha hf hac bl 0 W.δ.size (wcells (sealW W.δ.size ((first+a:Nat):Int) (k:Int) pw)) 158 (0,0) (sealW W.δ.size ((first+a:Nat):Int) (k:Int) pw) (by rw[List.drop_zero,List.take_of_length_le (by rw[wcells_length,hsl];exact Nat.le_refl _)]) hsl
 refine Ct.convP (H2:=[wrow bw bd ba bs,cd,c1,[g.obj],cs,[(bx,row (wrCells bw first nb k cnt bound g.bb n a false) 178)],[(g.br,row (wcells buf) 158)]])
  (R2:=fun v H'=>v= .int .i64 0∧∃cd',H'=[wrow bw bd ba bs,cd',c1,[g.obj],cs,[(bx,row (wrCells bw first nb k cnt bound g.bb 0 (a+1) false) 178)],[(g.br,row (wcells buf) 158)]]∧IsDev bd (W.δ.wrote (first+a) (sealW W.δ.size ((first+a:Nat):Int) (k:Int) pw)) cd') ?_ ?_ ?_
 ·generalize sealW W.δ.size ((first+a:Nat):Int) (k:Int) pw=sw at*
  unfold wrow wrCells Gr.obj
  rw[hgn]
  refine Ct.intro Tryz.func124 rfl Tryz.ntmps124 (nle rfl) fun w0=> ?_;dsimp only[argSlots,Nat.reduceAdd]
  repeat(first|(refine st ?_;intros)|refine G.draw (id:=1) [(7,.quiet)] (h:= ?_)|refine G.draw [] (h:= ?_)|(refine cq hS ?_))
  refine R.call (hct:=hP W.δ.size) (h:= ?_)
  rintro _ _ ⟨bl,rfl,rfl⟩
  try dsimp only[List.cons_append,List.nil_append]
  repeat(first|(refine st ?_;intros)|refine G.draw (id:=1) [(7,.quiet)] (h:= ?_)|refine G.draw [] (h:= ?_)|(refine cq hS ?_))
  refine R.call (hct:=hW bl) (h:= ?_)
  rintro _ _ ⟨cd',rfl,hD',rfl⟩
  try dsimp only[List.cons_append,List.nil_append]
  repeat(first|(refine st ?_;intros)|refine G.draw (id:=1) [(7,.quiet)] (h:= ?_)|refine G.draw [] (h:= ?_)|(refine cq hS ?_))
  (refine Dn.post (Hr:=[[(bw,row [pv bd,pv ba,pv bs] 101)],cd',c1,[(g.bb,row [.slice (some ⟨g.br,0,none⟩) W.δ.size W.δ.size] 161)],cs,[(bx,row [pv bw,.int .i64 (first:Int),.int .i64 (nb:Int),.int .i64 (k:Int),.int .i64 (cnt:Int),.int .i64 (bound:Int),pv g.bb,.int .i64 0,.int .i64 ((a:Int)+1),.bool false] 178)],[(g.br,row (wcells buf) 158)]]) Tryz.results124 (hR:= ?_);
   exact⟨rfl,cd',rfl,hD'⟩)
 ·simp only[List.flatten_cons,List.flatten_nil,List.append_nil,List.append_assoc]
  refine List.Perm.append_left _ (List.Perm.append_left _ ?_)
  rw[←List.append_assoc c1]
  exact List.Perm.append_right _ hc1
 ·rintro v H' ⟨rfl,cd',rfl,hD'⟩
  refine⟨_,⟨rfl,cd',c1++[g.obj],rfl,hc1.symm,hD'⟩,?_⟩
  simp
theorem flush_fault (bw bd ba bs:Nat) (W:Wk) (cd ca cs:Chunk) (h:Wc bd ba bs W cd ca cs) (bx first nb k cnt bound n a:Nat) (g:Gr) (Gs:List Gr) (hg:W.α.gs.Perm (g::Gs)) (Lv:List Ext) (hl:LvOf first nb Lv W.live) (hgn:g.n=W.δ.size) (buf pw:List Int) (hbl:buf.length=W.δ.size) (hpw:buf.take n=pw) (hpl:pw.length=n)
  (hn:n≤W.δ.size-2) (ha:first+a<W.δ.blocks) (hk:k≤5) (hf:W.δ.fault=0):
  Ct Tryz.prog 124 [pv bx] [wrow bw bd ba bs,cd,ca,cs,[(bx,row (wrCells bw first nb k cnt bound g.bb n a false) 178)],[(g.br,row (wcells buf) 158)]] fun v H'=>
   v= .int .i64 6∧WrGone bw bd ba bs bx W Gs Lv first nb k bound g.bb [(g.br,row (wcells buf) 158)] 0 W.δ.failed H':=by
 obtain⟨⟨hs1,hs2⟩,hbk,hfr⟩:=h.dev.num
 have hS:=Size_ct bd W.δ cd h.dev
 obtain⟨c1,hc1⟩:=h.ar.open_ (hg.mem_iff.2 List.mem_cons_self)
 have hadd:IntKind.wrap .i64 ((first:Int)+(a:Int))=((first+a:Nat):Int):=by rw[←Int.natCast_add];exact wrap_i64 (by omega)
 have hP:=fun cap=>Put_ct W.δ.size ((first+a:Nat):Int) (k:Int) g.br 0 n cap (wcells buf) 158 (0,0) pw ⟨hs1,hs2⟩ (by omega) hn (by rw[List.drop_zero];rw[←hpw];simp[wcells]) hpl
 have hW:=fun bl=>Write_fault bd W.δ cd h.dev (first+a) ha hf bl 0 W.δ.size (wcells (sealW W.δ.size ((first+a:Nat):Int) (k:Int) pw)) 158 (0,0)
 have hD:=fun cd' (hd:IsDev bd W.δ.failed cd')=>Drop_ct bw bd ba bs {W with δ:=W.δ.failed} cd' (c1++[g.obj]) cs ⟨hd,h.ar.perm hc1.symm,h.sp,h.nn,h.live⟩ bx first nb k cnt bound n a g Gs hg Lv hl [(g.br,row (wcells buf) 158)]
 refine Ct.convP (H2:=[wrow bw bd ba bs,cd,c1,[g.obj],cs,[(bx,row (wrCells bw first nb k cnt bound g.bb n a false) 178)],[(g.br,row (wcells buf) 158)]])
  (R2:=fun v H'=>v= .int .i64 6∧WrGone bw bd ba bs bx W Gs Lv first nb k bound g.bb [(g.br,row (wcells buf) 158)] 0 W.δ.failed H') ?_ ?_ ?_
 ·generalize sealW W.δ.size ((first+a:Nat):Int) (k:Int) pw=sw at*
  have hobj:([g.obj]:Chunk)=[(g.bb,row [.slice (some ⟨g.br,0,none⟩) W.δ.size W.δ.size] 161)]:=by unfold Gr.obj;rw[hgn]
  rw[hobj] at hD⊢
  unfold wrow wrCells at hD⊢
  refine Ct.intro Tryz.func124 rfl Tryz.ntmps124 (nle rfl) fun w0=> ?_;dsimp only[argSlots,Nat.reduceAdd]
  repeat(first|(refine st ?_;intros)|refine G.draw (id:=1) [(7,.quiet)] (h:= ?_)|refine G.draw [] (h:= ?_)|(refine cq hS ?_))
  refine R.call (hct:=hP W.δ.size) (h:= ?_)
  rintro _ _ ⟨bl,rfl,rfl⟩
  try dsimp only[List.cons_append,List.nil_append]
  repeat(first|(refine st ?_;intros)|refine G.draw (id:=1) [(7,.quiet)] (h:= ?_)|refine G.draw [] (h:= ?_)|(refine cq hS ?_))
  refine R.call (hct:=hW bl) (h:= ?_)
  rintro _ _ ⟨cd',rfl,hD',rfl⟩
  try dsimp only[List.cons_append,List.nil_append]
  repeat(first|(refine st ?_;intros)|refine G.draw (id:=1) [(7,.quiet)] (h:= ?_)|refine G.draw [] (h:= ?_)|(refine cq hS ?_))
  apply R1.join (c1:=c1) (c2:=[(g.bb,row [.slice (some ⟨g.br,0,none⟩) W.δ.size W.δ.size] 161)])
  ·(repeat(first|exact Take.here|apply Take.there))
  ·(repeat(first|exact Take.here|apply Take.there))
  refine R.call (hct:=hD cd' hD') (h:= ?_)
  rintro _ _ ⟨rfl,cd2,ca2,cs2,W',cnt',n',a',rfl,hgone⟩
  try dsimp only[List.cons_append,List.nil_append]
  unfold wrow wrCells
  repeat(first|(refine st ?_;intros)|refine G.draw (id:=1) [(7,.quiet)] (h:= ?_)|refine G.draw [] (h:= ?_)|(refine cq hS ?_))
  (refine Dn.post (Hr:=[[(bw,row [pv bd,pv ba,pv bs] 101)],cd2,ca2,cs2,[(bx,row [pv bw,.int .i64 (first:Int),.int .i64 (nb:Int),.int .i64 (k:Int),.int .i64 (cnt':Int),.int .i64 (bound:Int),pv g.bb,.int .i64 (n':Int),.int .i64 (a':Int),.bool true] 178)],[(g.br,row (wcells buf) 158)]]) Tryz.results124 (hR:= ?_);refine⟨rfl,cd2,ca2,cs2,W',cnt',n',a',rfl,hgone.1,?_,hgone.2.2⟩)
  have he:=hgone.2.1
  exact⟨he.size,he.n,he.acts,fun e=>by omega,he.room,he.big⟩
 ·simp only[List.flatten_cons,List.flatten_nil,List.append_nil,List.append_assoc]
  refine List.Perm.append_left _ (List.Perm.append_left _ ?_)
  rw[←List.append_assoc c1]
  exact List.Perm.append_right _ hc1
 ·rintro v H' ⟨rfl,h2⟩
  exact⟨_,⟨rfl,h2⟩,.refl _⟩
structure WrOk (d:Nat→Option (List Int)) (size k nb bound first:Nat) (ps:List T5) (buf:List Int):Prop where
 w1:1≤k
 w2:k≤5
 hb:bound≤100000000
 nbe:nb=nblocks size k bound
 cnt:ps.length≤bound
 blen:buf.length=size
 bufw:buf.take ((ps.length%holds size k)*k)=words k (ps.drop ((ps.length/holds size k)*holds size k))
 onto:Onto d size k (holds size k) first ps (ps.length/holds size k)
 fit:∀t∈ps,okT k t
theorem succ_dm {h p:Nat} (hh:1≤h):(p%h+1=h→(p+1)/h=p/h+1∧(p+1)%h=0)∧(p%h+1≠h→(p+1)/h=p/h∧(p+1)%h=p%h+1):=by
 have h1:=Nat.div_add_mod p h
 have h2:=Nat.mod_lt p (show 0<h by omega)
 constructor
 ·intro e
  have e2:p+1=h*(p/h+1):=by rw[Nat.mul_succ];omega
  constructor
  ·rw[e2,Nat.mul_div_cancel_left _ (by omega)]
  ·rw[e2,Nat.mul_mod_right]
 ·intro e
  have e2:p+1=p%h+1+h*(p/h):=by omega
  constructor
  ·rw[e2,Nat.add_mul_div_left _ _ (by omega),Nat.div_eq_of_lt (by omega),Nat.zero_add]
  ·rw[e2,Nat.add_mul_mod_self_left,Nat.mod_eq_of_lt (by omega)]
def bput (buf:List Int) (n:Nat) (ws:List Int):List Int:=buf.take n++(ws++buf.drop (n+ws.length))
theorem bput_length {buf ws:List Int} {n:Nat} (h:n+ws.length≤buf.length):(bput buf n ws).length=buf.length:=by simp[bput];omega
theorem bput_nil (buf:List Int) (n:Nat):bput buf n []=buf:=by simp[bput]
theorem bput_step {buf ws:List Int} {n i:Nat} {w:Int} (hw:ws[i]? =some w) (h:n+ws.length≤buf.length):(bput buf n (ws.take i)).set (n+i) w=bput buf n (ws.take (i+1)):=by
 have hi:i<ws.length:=(List.getElem?_eq_some_iff.1 hw).1
 have hwi:ws[i]=w:=(List.getElem?_eq_some_iff.1 hw).2
 have e1:(ws.take i).length=i:=by simp;omega
 have e2:(ws.take (i+1)).length=i+1:=by simp;omega
 unfold bput
 rw[e1,e2]
 have e3:(buf.take n).length=n:=by simp;omega
 rw[List.set_append_right _ _ (by omega),e3,show n+i-n=i by omega,List.set_append_right _ _ (by omega),e1,Nat.sub_self]
 have e4:buf.drop (n+i)=buf[n+i]'(by omega)::buf.drop (n+i+1):=List.drop_eq_getElem_cons (by omega)
 rw[e4,List.set_cons_zero,List.take_add_one,hw,Nat.add_assoc]
 simp
theorem bput_take {buf ws:List Int} {n:Nat} (h:n+ws.length≤buf.length):(bput buf n ws).take (n+ws.length)=buf.take n++ws:=by
 unfold bput
 rw[←List.append_assoc,List.take_append_of_le_length (by simp;omega),List.take_of_length_le (by simp;omega)]
theorem onto_more {d:Nat→Option (List Int)} {size k h first:Nat} {ps:List T5} {t:T5} {nb:Nat} (ho:Onto d size k h first ps nb) (hn:nb*h≤ps.length):Onto d size k h first (ps++[t]) nb:=by
 intro j hj
 rw[ho j hj]
 have:(j+1)*h≤nb*h:=Nat.mul_le_mul_right _ hj
 rw[Nat.succ_mul] at this
 rw[List.drop_append_of_le_length (by omega),List.take_append_of_le_length (by rw[List.length_drop];omega)]
theorem WrOk.room {d:Nat→Option (List Int)} {size k nb bound first:Nat} {ps:List T5} {buf:List Int} (h:WrOk d size k nb bound first ps buf) (hs:8≤size):(ps.length%holds size k)*k+k≤size-2:=by
 have hp:=holds_pos hs h.w1 h.w2
 have h1:=Nat.mod_lt ps.length (show 0<holds size k by omega)
 have h2:=holds_mul (s:=size) (k:=k)
 have h3:(ps.length%holds size k+1)*k≤holds size k*k:=Nat.mul_le_mul_right _ h1
 rw[Nat.succ_mul] at h3
 omega
theorem WrOk.at_lt {d:Nat→Option (List Int)} {size k nb bound first:Nat} {ps:List T5} {buf:List Int} (h:WrOk d size k nb bound first ps buf) (hs:8≤size) (hl:ps.length<bound):ps.length/holds size k<nb:=by
 have hp:=holds_pos hs h.w1 h.w2
 rw[h.nbe]
 have e:=Nat.div_add_mod ps.length (holds size k)
 have h1:holds size k*(ps.length/holds size k)≤bound-1:=by omega
 have:ps.length/holds size k+1≤(bound+holds size k-1)/holds size k:=by
  rw[Nat.le_div_iff_mul_le (by omega),Nat.succ_mul,Nat.mul_comm]
  omega
 exact this
theorem WrOk.put {d:Nat→Option (List Int)} {size k nb bound first:Nat} {ps:List T5} {buf:List Int} (h:WrOk d size k nb bound first ps buf) (hs:8≤size) (hl:ps.length<bound) {t:T5} (ht:okT k t) (hne:ps.length%holds size k+1≠holds size k):
  WrOk d size k nb bound first (ps++[t]) (bput buf ((ps.length%holds size k)*k) (tw k t)):=by
 have hp:=holds_pos hs h.w1 h.w2
 have hr:=h.room hs
 obtain⟨e1,e2⟩:=(succ_dm (p:=ps.length) hp).2 hne
 have htl:=tw_length t h.w2
 have hfit:(ps.length%holds size k)*k+(tw k t).length≤buf.length:=by rw[h.blen,htl];omega
 have em:=Nat.div_mul_le_self ps.length (holds size k)
 refine⟨h.w1,h.w2,h.hb,h.nbe,by simp;omega,by rw[bput_length hfit,h.blen],?_,?_,?_⟩
 ·simp only[List.length_append,List.length_cons,List.length_nil,Nat.zero_add,e1,e2]
  have:=bput_take hfit
  rw[htl,←Nat.succ_mul] at this
  rw[this,h.bufw,List.drop_append_of_le_length em,words_app]
  simp[words]
 ·simp only[List.length_append,List.length_cons,List.length_nil,Nat.zero_add,e1]
  exact onto_more h.onto em
 ·intro x hx
  rcases List.mem_append.1 hx with hx|hx
  ·exact h.fit x hx
  ·simp only[List.mem_singleton] at hx;subst hx;exact ht
theorem WrOk.flushed {d:Nat→Option (List Int)} {size k nb bound first:Nat} {ps:List T5} {buf:List Int} (h:WrOk d size k nb bound first ps buf) (hs:8≤size) (hl:ps.length<bound) {t:T5} (ht:okT k t) (he:ps.length%holds size k+1=holds size k):
  WrOk (dkSet d (first+ps.length/holds size k) (sealW size ((first+ps.length/holds size k:Nat):Int) (k:Int) ((bput buf ((ps.length%holds size k)*k) (tw k t)).take ((ps.length%holds size k)*k+k)))) size k nb bound first (ps++[t])
   (bput buf ((ps.length%holds size k)*k) (tw k t)):=by
 have hp:=holds_pos hs h.w1 h.w2
 have hr:=h.room hs
 obtain⟨e1,e2⟩:=(succ_dm (p:=ps.length) hp).1 he
 have htl:=tw_length t h.w2
 have hfit:(ps.length%holds size k)*k+(tw k t).length≤buf.length:=by rw[h.blen,htl];omega
 have em:=Nat.div_mul_le_self ps.length (holds size k)
 have edm:=Nat.div_add_mod ps.length (holds size k)
 refine⟨h.w1,h.w2,h.hb,h.nbe,by simp;omega,by rw[bput_length hfit,h.blen],?_,?_,?_⟩
 ·simp only[List.length_append,List.length_cons,List.length_nil,Nat.zero_add,e1,e2,Nat.zero_mul,List.take_zero]
  rw[List.drop_of_length_le]
  ·rfl
  ·simp only[List.length_append,List.length_cons,List.length_nil,Nat.succ_mul]
   rw[Nat.mul_comm] at edm
   omega
 ·simp only[List.length_append,List.length_cons,List.length_nil,Nat.zero_add,e1]
  intro j hj
  by_cases hj2:j=ps.length/holds size k
  ·subst hj2
   have:=bput_take hfit
   rw[htl] at this
   simp only[dkSet,if_true]
   rw[this,h.bufw,List.drop_append_of_le_length em,List.take_of_length_le,words_app]
   ·simp[words]
   ·simp only[List.length_append,List.length_cons,List.length_nil,List.length_drop]
    rw[Nat.mul_comm] at edm
    omega
  ·have:¬(first+j=first+ps.length/holds size k):=by omega
   simp only[dkSet,this,if_false]
   exact onto_more h.onto em j (by omega)
 ·intro x hx
  rcases List.mem_append.1 hx with hx|hx
  ·exact h.fit x hx
  ·simp only[List.mem_singleton] at hx;subst hx;exact ht
end Go.Proofs.YtammjnjpheobaaaGreat
namespace Go.Tup
theorem cmpSwap (x y:Int):cmp3 y x= -cmp3 x y:=by
 unfold cmp3
 by_cases h1:x<y
 ·rw[if_pos h1,if_neg (by omega),if_pos h1];rfl
 ·by_cases h2:y<x
  ·simp only[if_pos h2,if_neg h1]
  ·simp only[if_neg h2,if_neg h1,Int.neg_zero]
theorem cmpL_swap:∀(l:List Int) (a b:T5),cmpL l a b= -cmpL l b a
 |[],_,_=>rfl
 |k::l,a,b=>by
  have ih:=cmpL_swap l a b
  simp only[cmpL]
  by_cases h0:k=0
  ·simp[h0]
  ·simp only[h0,if_false]
   by_cases hn:k<0
   ·simp only[hn,if_true]
    rw[cmpSwap (a.col (k.natAbs-1))]
    split<;>split<;>omega
   ·simp only[hn,if_false]
    rw[cmpSwap (b.col (k.natAbs-1))]
    split<;>split<;>omega
theorem cmpT_swap (o a b:T5):cmpT o a b= -cmpT o b a:=by
 unfold cmpT
 split
 ·exact cmpL_swap _ a b
 ·rfl
theorem cmpZero {x y:Int}:cmp3 x y=0↔x=y:=by
 unfold cmp3
 split
 ·omega
 ·split<;>omega
theorem cmpPos {x y:Int}:0<cmp3 x y↔y<x:=by
 unfold cmp3
 split
 ·omega
 ·split<;>omega
theorem cmpL_trans:∀(l:List Int) (a b c:T5),cmpL l a b≤0→cmpL l b c≤0→cmpL l a c≤0
 |[],_,_,_,_,_=>by simp[cmpL]
 |k::l,a,b,c,h1,h2=>by
  simp only[cmpL] at h1 h2⊢
  by_cases h0:k=0
  ·simp[h0]
  ·simp only[h0,if_false] at h1 h2⊢
   have ih:=cmpL_trans l a b c
   by_cases hn:k<0
   ·simp only[hn,if_true] at h1 h2⊢
    generalize a.col (k.natAbs-1)=x at*
    generalize b.col (k.natAbs-1)=y at*
    generalize c.col (k.natAbs-1)=z at*
    have e1:= @cmpZero y x
    have e2:= @cmpZero z y
    have e3:= @cmpZero z x
    have p1:= @cmpPos y x
    have p2:= @cmpPos z y
    have p3:= @cmpPos z x
    by_cases q1:cmp3 y x=0<;>by_cases q2:cmp3 z y=0<;>by_cases q3:cmp3 z x=0<;>simp only[q1,q2,q3,ne_eq,not_true_eq_false,not_false_eq_true,if_true,if_false] at h1 h2⊢<;>first|exact ih h1 h2|omega
   ·simp only[hn,if_false] at h1 h2⊢
    generalize a.col (k.natAbs-1)=x at*
    generalize b.col (k.natAbs-1)=y at*
    generalize c.col (k.natAbs-1)=z at*
    have e1:= @cmpZero x y
    have e2:= @cmpZero y z
    have e3:= @cmpZero x z
    have p1:= @cmpPos x y
    have p2:= @cmpPos y z
    have p3:= @cmpPos x z
    by_cases q1:cmp3 x y=0<;>by_cases q2:cmp3 y z=0<;>by_cases q3:cmp3 x z=0<;>simp only[q1,q2,q3,ne_eq,not_true_eq_false,not_false_eq_true,if_true,if_false] at h1 h2⊢<;>first|exact ih h1 h2|omega
theorem cmpT_trans (o a b c:T5) (h1:cmpT o a b≤0) (h2:cmpT o b c≤0):cmpT o a c≤0:=by
 unfold cmpT at h1 h2⊢
 split
 ·rename_i hf
  rw[if_pos hf] at h1 h2
  exact cmpL_trans _ a b c h1 h2
 ·omega
end Go.Tup
namespace Go.Tup
open Go.SL
def tcells (t:T5):List Value:=[.int .i64 t.c0,.int .i64 t.c1,.int .i64 t.c2,.int .i64 t.c3,.int .i64 t.c4]
def flat:List T5→List Value
 |[]=>[]
 |t::ts=>tcells t++flat ts
theorem flat_length:∀ts,(flat ts).length=ts.length*5
 |[]=>rfl
 |t::ts=>by simp[flat,flat_length ts,tcells];omega
theorem flat_append:∀(ts us:List T5),flat (ts++us)=flat ts++flat us
 |[],us=>rfl
 |t::ts,us=>by simp[flat,flat_append ts us]
theorem flat_drop:∀(ts:List T5) (i:Nat),(flat ts).drop (i*5)=flat (ts.drop i)
 |ts,0=>by simp
 |[],i+1=>by simp[flat]
 |t::ts,i+1=>by
  have:=flat_drop ts i
  rw[flat,List.drop_append,List.drop_eq_nil_of_le (by simp[tcells];omega),List.nil_append,List.drop_succ_cons,←this]
  congr 1
  simp[tcells];omega
def RV (p:Option Addr) (n:Nat) (ts:List T5) (c:Chunk):Prop:=
 ts.length=n∧((n=0∧c=[])∨∃b off cs T fz,p=some ⟨b,off,none⟩∧c=[(b,rowf cs T fz)]∧(cs.drop off).take (n*5)=flat ts)
theorem RV.pos {p:Option Addr} {n:Nat} {ts:List T5} {c:Chunk} (h:RV p n ts c) (hn:0<n):∃b off cs T fz,p=some ⟨b,off,none⟩∧c=[(b,rowf cs T fz)]∧
  ∀i,i<n→(cs.drop (off+i*5)).take 5=tcells (ts.getD i ⟨0,0,0,0,0⟩):=by
 obtain⟨hl,⟨h0,_⟩|⟨b,off,cs,T,fz,rfl,rfl,h⟩⟩:=h
 ·omega
 ·refine⟨b,off,cs,T,fz,rfl,rfl,fun i hi=> ?_⟩
  have h2:=congrArg (fun l=>(l.drop (i*5)).take 5) h
  simp only[flat_drop] at h2
  rw[List.drop_take,List.drop_drop,List.take_take] at h2
  rw[show min 5 (n*5-i*5)=5 by omega] at h2
  rw[h2]
  have hi':i<ts.length:=by omega
  rw[List.drop_eq_getElem_cons hi',flat,List.take_left' (by simp[tcells])]
  congr 1
  simp[List.getD_eq_getElem?_getD,hi']
theorem RV.vec {E:Nat} {p:Option Addr} {n cap:Nat} {ts:List T5} {c:Chunk} (h:Vec E 5 p n cap (flat ts) c):RV p n ts c:=by
 have hl:ts.length=n:=by have:=h.1;rw[flat_length] at this;omega
 rcases h.2 with⟨_,h0,_,hc⟩|⟨b,rest,hp,hc,_,_,_⟩
 ·exact⟨hl,.inl ⟨h0,hc⟩⟩
 ·refine⟨hl,.inr ⟨b,0,flat ts++rest,E,(0,0),hp,hc,?_⟩⟩
  rw[List.drop_zero,←h.1,List.take_left]
def at5 (ts:List T5) (i:Nat):T5:=ts.getD i ⟨0,0,0,0,0⟩
end Go.Tup
namespace Go.Proofs.YtammjnjpheobaaaGreat
open Go.SL Go.Spc Go.Tup
theorem PutF_ct (x:Int):CtQ Tryz.prog 123 [.int .i64 x] [] (.bool (dec (x≠0))):=by
 refine Ct.intro Tryz.func123 rfl Tryz.ntmps123 (nle rfl) fun w0=> ?_;dsimp only[argSlots,Nat.reduceAdd]
 repeat(refine st ?_;intros)
 (refine Dn.post (Hr:=[]) Tryz.results123 (hR:= ?_);exact⟨rfl,rfl⟩)
theorem IndexI_ct (b off n cap:Nat) (cs:List Value) (E:Nat) (fz:Nat×Nat) (hm:n≤1000) (hz:∀i,i<n→cs[off+i]? =some (.int .i64 0)):
  CtQ Tryz.prog 155 [.slice (some ⟨b,off,none⟩) n cap,.func (.func 123) #[] #[]] [[(b,rowf cs E fz)]] (.int .i64 (-1)):=by
 refine Ct.intro Tryz.func155 rfl Tryz.ntmps155 (nle rfl) fun w0=> ?_;dsimp only[argSlots,Nat.reduceAdd]
 repeat(first|(refine st ?_;intros)|(refine cq PutF_ct ?_))
 refine G.loop (X:=Nat) (fun i=>i≤n) (fun i=>[(8,.int .i64 (i:Int)),(7,.int .i64 (n:Int)),(0,.slice (some ⟨b,off,none⟩) n cap),(1,.func (.func 123) #[] #[])]) (fun _=>[[(b,rowf cs E fz)]]) (fun i=>n-i) 0 (by omega) (body:= ?_)
 intro i hi
 by_cases h9:i<n
 ·have hg:=hz i h9
  repeat(first|(refine st ?_;intros)|(refine cq PutF_ct ?_))
  exact Dn.round (i+1) (by omega) (by omega)
 ·repeat(first|(refine st ?_;intros)|(refine cq PutF_ct ?_))
  (refine Dn.post (Hr:=[[(b,rowf cs E fz)]]) Tryz.results155 (hR:= ?_);exact⟨rfl,rfl⟩)
theorem ContainsI_ct (b off n cap:Nat) (cs:List Value) (E:Nat) (fz:Nat×Nat) (hm:n≤1000) (hz:∀i,i<n→cs[off+i]? =some (.int .i64 0)):
  CtQ Tryz.prog 122 [.slice (some ⟨b,off,none⟩) n cap,.func (.func 123) #[] #[]] [[(b,rowf cs E fz)]] (.bool false):=by
 have hI:=IndexI_ct b off n cap cs E fz hm hz
 refine Ct.intro Tryz.func122 rfl Tryz.ntmps122 (nle rfl) fun w0=> ?_;dsimp only[argSlots,Nat.reduceAdd]
 repeat(first|(refine st ?_;intros)|(refine cq hI ?_))
 (refine Dn.post (Hr:=[[(b,rowf cs E fz)]]) Tryz.results122 (hR:= ?_);exact⟨by rw[dec_false (by decide)];rfl,rfl⟩)
theorem tcells_get (t:T5) (i:Nat) (h:i<5):(tcells t)[i]? =some (.int .i64 (t.col i)):=by
 match i,h with
 |0,_=>rfl
 |1,_=>rfl
 |2,_=>rfl
 |3,_=>rfl
 |4,_=>rfl
theorem tw_get (t:T5) (k i:Nat) (h:i<k) (hk:k≤5):(tw k t)[i]? =some (wd (t.col i)):=by
 unfold tw
 rw[List.getElem?_map,List.getElem?_take,if_pos h]
 have h5:i<5:=by omega
 match i,h5 with
 |0,_=>rfl
 |1,_=>rfl
 |2,_=>rfl
 |3,_=>rfl
 |4,_=>rfl
def PutOk (bw bd ba bs bx:Nat) (W:Wk) (ca cs:Chunk) (first nb k bound:Nat) (g:Gr) (ps:List T5) (buf:List Int) (t:T5) (H':Hp):Prop:=
 ∃(cd ca':Chunk) (δ':Dv) (buf':List Int),H'=[wrow bw bd ba bs,cd,ca',cs,[(bx,row (wrCells bw first nb k (ps.length+1) bound g.bb (((ps.length+1)%holds W.δ.size k)*k) ((ps.length+1)/holds W.δ.size k) false) 178)],[(g.br,row (wcells buf') 158)]]∧
  ca'.Perm ca∧IsDev bd δ' cd∧δ'.size=W.δ.size∧δ'.blocks=W.δ.blocks∧(W.δ.fault= -1→δ'.fault= -1)∧δ'.acts=W.δ.acts+((ps.length+1)/holds W.δ.size k-ps.length/holds W.δ.size k)∧
  (∀x,¬(first≤x∧x<first+nb)→δ'.disk x=W.δ.disk x)∧WrOk δ'.disk W.δ.size k nb bound first (ps++[t]) buf'
theorem Put_walk (bw bd ba bs:Nat) (W:Wk) (cd ca cs:Chunk) (h:Wc bd ba bs W cd ca cs) (bx first nb k bound:Nat) (g:Gr) (Gs:List Gr) (hg:W.α.gs.Perm (g::Gs)) (hgn:g.n=W.δ.size) (Lv:List Ext) (hl:LvOf first nb Lv W.live) (ps:List T5) (buf:List Int)
  (ho:WrOk W.δ.disk W.δ.size k nb bound first ps buf) (hlt:ps.length<bound) (t:T5) (ht:okT k t) (hac:W.δ.acts≤1000000000000):
  Ct Tryz.prog 74 [pv bx,tv t] [wrow bw bd ba bs,cd,ca,cs,[(bx,row (wrCells bw first nb k ps.length bound g.bb ((ps.length%holds W.δ.size k)*k) (ps.length/holds W.δ.size k) false) 178)],[(g.br,row (wcells buf) 158)]] fun v H'=>
   (v= .int .i64 0∧PutOk bw bd ba bs bx W ca cs first nb k bound g ps buf t H')∨
   (v= .int .i64 6∧W.δ.fault=0∧∃cb,WrGone bw bd ba bs bx W Gs Lv first nb k bound g.bb cb 0 W.δ.failed H'):=by
 obtain⟨⟨hs1,hs2⟩,hbk,hfr⟩:=h.dev.num
 obtain⟨c1,hc1⟩:=h.ar.open_ (hg.mem_iff.2 List.mem_cons_self)
 have hH:=Holds_ct bw bd ba bs W.δ cd h.dev k ho.w1 ho.w2
 have hroom:=ho.room hs1
 have hk1:=ho.w1
 have hk5:=ho.w2
 have hp:=holds_pos hs1 hk1 hk5
 have hbl:=ho.blen
 have hbb:=ho.hb
 have hatlt:=ho.at_lt hs1 hlt
 have hh256:holds W.δ.size k≤256:=Nat.le_trans (Nat.div_le_self _ _) (by omega)
 generalize hn0:(ps.length%holds W.δ.size k)*k=n0 at*
 have htl:=tw_length t hk5
 have hCI:=fun b3=>ContainsI_ct b3 k (5-k) (5-k) (tcells t) 49 (0,0) (by omega) (fun i hi=>by rw[tcells_get t _ (by omega),ht.2 _ (by omega)])
 have hCI5:=fun b3=>ContainsI_ct b3 0 0 0 (tcells t) 49 (0,0) (by omega) (fun i hi=>by omega)
 have hdiv:IntKind.wrap .i64 (((n0+k:Nat):Int).tdiv (k:Int))=((ps.length%holds W.δ.size k+1:Nat):Int):=by
  have e1:((n0+k:Nat):Int).tdiv (k:Int)=(((n0+k)/k:Nat):Int):=by
   rw[Int.tdiv_eq_ediv_of_nonneg (by omega)];simp
  have e2:(n0+k)/k=ps.length%holds W.δ.size k+1:=by
   rw[←hn0,←Nat.succ_mul,Nat.mul_div_cancel _ (by omega)]
  rw[e1,e2]
  have hml:=Nat.mod_lt ps.length (show 0<holds W.δ.size k by omega)
  have hw:∀r:Nat,r<1000→IntKind.wrap .i64 ((r:Nat):Int)=(r:Int):=fun r hr=>wrap_i64 (by omega)
  exact hw _ (by omega)
 have hobj:([g.obj]:Chunk)=[(g.bb,row [.slice (some ⟨g.br,0,none⟩) W.δ.size W.δ.size] 161)]:=by unfold Gr.obj;rw[hgn]
 have hc2:(c1++[(g.bb,row [.slice (some ⟨g.br,0,none⟩) W.δ.size W.δ.size] 161)]).Perm ca:=by rw[←hobj];exact hc1.symm
 have h':Wc bd ba bs W cd (c1++[(g.bb,row [.slice (some ⟨g.br,0,none⟩) W.δ.size W.δ.size] 161)]) cs:=⟨h.dev,h.ar.perm hc2,h.sp,h.nn,h.live⟩
 have hnb0:nb≠0:=Nat.ne_of_gt (Nat.lt_of_le_of_lt (Nat.zero_le _) hatlt)
 have hin:first+nb≤W.δ.blocks:=by
  unfold LvOf at hl
  rw[if_neg hnb0] at hl
  rw[h.nn]
  exact(live_free (h.live.perm hl)).1.2
 obtain⟨B,hB⟩:∃B:Nat→List Int,∀i,B i=bput buf n0 ((tw k t).take i):=⟨_,fun _=>rfl⟩
 have hB0:B 0=buf:=by rw[hB,List.take_zero,bput_nil]
 have hBk:B k=bput buf n0 (tw k t):=by rw[hB,List.take_of_length_le (by omega)]
 have hBl:∀i,(B i).length=W.δ.size:=fun i=>by rw[hB,bput_length (by rw[List.length_take,htl,hbl];omega),hbl]
 have hcnt:IntKind.wrap .i64 ((ps.length:Int)+1)=((ps.length+1:Nat):Int):=by rw[wrap_i64 (by omega)];rfl
 have hFo:=fun hf=>flush_ok bw bd ba bs W cd _ cs h' bx first nb k (ps.length+1) bound (n0+k) (ps.length/holds W.δ.size k) g (hg.mem_iff.2 List.mem_cons_self) hgn (B k) ((B k).take (n0+k)) (hBl k) rfl (by rw[List.length_take,hBl];omega) (by omega) (by omega) hk5 hf hac
 have hFf:=fun hf=>flush_fault bw bd ba bs W cd _ cs h' bx first nb k (ps.length+1) bound (n0+k) (ps.length/holds W.δ.size k) g Gs hg Lv hl hgn (B k) ((B k).take (n0+k)) (hBl k) rfl (by rw[List.length_take,hBl];omega) (by omega) (by omega) hk5 hf
 refine Ct.convP (H2:=[wrow bw bd ba bs,cd,c1,[(g.bb,row [.slice (some ⟨g.br,0,none⟩) W.δ.size W.δ.size] 161)],cs,[(bx,row (wrCells bw first nb k ps.length bound g.bb n0 (ps.length/holds W.δ.size k) false) 178)],[(g.br,row (wcells (B 0)) 158)]])
  (R2:=fun v H'=>(v= .int .i64 0∧ps.length%holds W.δ.size k+1≠holds W.δ.size k∧H'=[wrow bw bd ba bs,cd,c1,[(g.bb,row [.slice (some ⟨g.br,0,none⟩) W.δ.size W.δ.size] 161)],cs,[(bx,row (wrCells bw first nb k (ps.length+1) bound g.bb (n0+k) (ps.length/holds W.δ.size k) false) 178)],[(g.br,row (wcells (B k)) 158)]])∨
   (v= .int .i64 0∧ps.length%holds W.δ.size k+1=holds W.δ.size k∧W.δ.fault≠0∧WrFlushed bw bd ba bs bx W (c1++[(g.bb,row [.slice (some ⟨g.br,0,none⟩) W.δ.size W.δ.size] 161)]) cs first nb k (ps.length+1) bound g (ps.length/holds W.δ.size k) ((B k).take (n0+k)) [(g.br,row (wcells (B k)) 158)] H')∨
   (v= .int .i64 6∧W.δ.fault=0∧∃cb,WrGone bw bd ba bs bx W Gs Lv first nb k bound g.bb cb 0 W.δ.failed H')) ?_ ?_ ?_
 ·have htc:tv t= .agg (tcells t).toArray:=rfl
  rw[htc]
  have hget:=tcells_get t
  have h5:k=5∨k<5:=by omega
  have htw:=tw_get t k
  unfold wrCells wrow at*
  generalize hcl:tcells t=tc at*
  rcases h5 with h5|h5
  all_goals
   refine Ct.intro Tryz.func74 rfl Tryz.ntmps74 (nle rfl) fun w0=> ?_;dsimp only[argSlots,Nat.reduceAdd]
   repeat(first|(refine st ?_;intros)|refine G.draw [] (h:= ?_)|refine G.draw (id:=12) [(19,.quiet)] (h:= ?_)|(refine cq hCI ?_)|(refine cq hCI5 ?_)|(refine cq hH ?_))
   rename_i b3
   refine G.loop (X:=Nat) (fun i=>i≤k) (fun i=>[(43,.int .i64 (i:Int)),(42,.int .i64 (k:Int)),(41,.slice (some ⟨b3,0,none⟩) k 5),(0,pv bx)])
    (fun i=>[[(b3,row tc 49)],[(bw,row [pv bd,pv ba,pv bs] 101)],cd,c1,[(g.bb,row [.slice (some ⟨g.br,0,none⟩) W.δ.size W.δ.size] 161)],cs,[(bx,row [pv bw,.int .i64 (first:Int),.int .i64 (nb:Int),.int .i64 (k:Int),.int .i64 (ps.length:Int),.int .i64 (bound:Int),pv g.bb,.int .i64 ((n0+i:Nat):Int),.int .i64 ((ps.length/holds W.δ.size k:Nat):Int),.bool false] 178)],[(g.br,row (wcells (B i)) 158)]])
    (fun i=>k-i) 0 (by omega) (body:= ?_)
   intro i hi
   by_cases hik:i<k
   ·have hgi:=hget i (by omega)
    have hset:(wcells (B i)).set (n0+i) (.int .u64 (wd (t.col i)))=wcells (B (i+1)):=by
     rw[wcells_set,hB,hB,bput_step (htw i hik hk5) (by rw[htl,hbl];omega)]
    have hlen:(wcells (B i)).length=W.δ.size:=by rw[wcells_length,hBl]
    have hni:IntKind.wrap .i64 (((n0+i:Nat):Int)+1)=((n0+(i+1):Nat):Int):=by rw[wrap_i64 (by omega)];rfl
    repeat(first|(refine st ?_;intros)|refine G.draw [] (h:= ?_)|refine G.draw (id:=12) [(19,.quiet)] (h:= ?_)|(refine cq hCI ?_)|(refine cq hCI5 ?_)|(refine cq hH ?_))
    exact Dn.round (i+1) (by omega) (by omega)
   ·have hki:k=i:=by omega
    subst hki
    by_cases he:ps.length%holds W.δ.size k+1=holds W.δ.size k
    ·repeat(first|(refine st ?_;intros)|refine G.draw [] (h:= ?_)|refine G.draw (id:=12) [(19,.quiet)] (h:= ?_)|(refine cq hCI ?_)|(refine cq hCI5 ?_)|(refine cq hH ?_))
     apply R1.join (c1:=c1) (c2:=[(g.bb,row [.slice (some ⟨g.br,0,none⟩) W.δ.size W.δ.size] 161)])
     ·(repeat(first|exact Take.here|apply Take.there))
     ·(repeat(first|exact Take.here|apply Take.there))
     by_cases hf:W.δ.fault=0
     ·have hFf:=hFf hf
      refine R.call (hct:=hFf) (h:= ?_)
      rintro _ _ ⟨rfl,cd2,ca2,cs2,W',cnt',n',a',rfl,hgone⟩
      try dsimp only[List.cons_append,List.nil_append]
      unfold wrow wrCells
      repeat(first|(refine st ?_;intros)|refine G.draw [] (h:= ?_)|refine G.draw (id:=12) [(19,.quiet)] (h:= ?_)|(refine cq hCI ?_)|(refine cq hCI5 ?_)|(refine cq hH ?_))
      (refine Dn.post (Hr:=[[(bw,row [pv bd,pv ba,pv bs] 101)],cd2,ca2,cs2,[(bx,row [pv bw,.int .i64 (first:Int),.int .i64 (nb:Int),.int .i64 (k:Int),.int .i64 (cnt':Int),.int .i64 (bound:Int),pv g.bb,.int .i64 (n':Int),.int .i64 (a':Int),.bool true] 178)],[(g.br,row (wcells (B k)) 158)]]) Tryz.results74 (hR:= ?_);
       exact .inr (.inr ⟨rfl,hf,_,cd2,ca2,cs2,W',cnt',n',a',rfl,hgone⟩))
     ·have hFo:=hFo hf
      refine R.call (hct:=hFo) (h:= ?_)
      rintro _ _ ⟨rfl,cd2,ca2,rfl,hgone⟩
      try dsimp only[List.cons_append,List.nil_append]
      unfold wrow wrCells
      repeat(first|(refine st ?_;intros)|refine G.draw [] (h:= ?_)|refine G.draw (id:=12) [(19,.quiet)] (h:= ?_)|(refine cq hCI ?_)|(refine cq hCI5 ?_)|(refine cq hH ?_))
      (refine Dn.post (Hr:=[[(bw,row [pv bd,pv ba,pv bs] 101)],cd2,ca2,cs,[(bx,row [pv bw,.int .i64 (first:Int),.int .i64 (nb:Int),.int .i64 (k:Int),.int .i64 ((ps.length+1:Nat):Int),.int .i64 (bound:Int),pv g.bb,.int .i64 ((0:Nat):Int),.int .i64 ((ps.length/holds W.δ.size k+1:Nat):Int),.bool false] 178)],[(g.br,row (wcells (B k)) 158)]]) Tryz.results74 (hR:= ?_);
       exact .inr (.inl ⟨rfl,he,hf,cd2,ca2,rfl,hgone⟩))
    ·repeat(first|(refine st ?_;intros)|refine G.draw [] (h:= ?_)|refine G.draw (id:=12) [(19,.quiet)] (h:= ?_)|(refine cq hCI ?_)|(refine cq hCI5 ?_)|(refine cq hH ?_))
     (refine Dn.post (Hr:=[[(bw,row [pv bd,pv ba,pv bs] 101)],cd,c1,[(g.bb,row [.slice (some ⟨g.br,0,none⟩) W.δ.size W.δ.size] 161)],cs,[(bx,row [pv bw,.int .i64 (first:Int),.int .i64 (nb:Int),.int .i64 (k:Int),.int .i64 ((ps.length+1:Nat):Int),.int .i64 (bound:Int),pv g.bb,.int .i64 ((n0+k:Nat):Int),.int .i64 ((ps.length/holds W.δ.size k:Nat):Int),.bool false] 178)],[(g.br,row (wcells (B k)) 158)]]) Tryz.results74 (hR:= ?_);
      exact .inl ⟨rfl,he,rfl⟩)
 ·rw[hB0,←hobj]
  simp only[List.flatten_cons,List.flatten_nil,List.append_nil,List.append_assoc]
  refine List.Perm.append_left _ (List.Perm.append_left _ ?_)
  rw[←List.append_assoc c1]
  exact List.Perm.append_right _ hc1
 ·have hless:W.δ.fault= -1→less W.δ.fault= -1:=fun e=>by unfold less;rw[e];rfl
  rintro v H' (⟨rfl,hne,rfl⟩|⟨rfl,he,hf,cd2,ca2,rfl,hp2,hd2⟩|⟨rfl,hf,hgo⟩)
  ·obtain⟨e1,e2⟩:=(succ_dm (p:=ps.length) hp).2 hne
   have e3:(ps.length%holds W.δ.size k+1)*k=n0+k:=by rw[Nat.succ_mul,hn0]
   refine⟨_,.inl ⟨rfl,cd,c1++[(g.bb,row [.slice (some ⟨g.br,0,none⟩) W.δ.size W.δ.size] 161)],W.δ,B k,rfl,hc2,h.dev,rfl,rfl,id,by rw[e1];omega,fun _ _=>rfl,?_⟩,?_⟩
   ·rw[hBk,←hn0]
    exact ho.put hs1 hlt ht hne
   ·rw[e1,e2,e3];simp
  ·obtain⟨e1,e2⟩:=(succ_dm (p:=ps.length) hp).1 he
   refine⟨_,.inl ⟨rfl,cd2,ca2,_,B k,rfl,hp2.trans hc2,hd2,rfl,rfl,hless,by rw[e1,Nat.add_sub_cancel_left];rfl,fun x hx=> ?_,?_⟩,?_⟩
   ·simp only[Dv.wrote,dkSet]
    rw[if_neg]
    rintro rfl
    exact hx ⟨Nat.le_add_right _ _,Nat.add_lt_add_left hatlt _⟩
   ·have:=ho.flushed hs1 hlt ht he
    rw[hn0,←hBk] at this
    exact this
   ·rw[e1,e2,Nat.zero_mul]
  ·exact⟨_,.inr ⟨rfl,hf,hgo⟩,.refl _⟩
end Go.Proofs.YtammjnjpheobaaaGreat
