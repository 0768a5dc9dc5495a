/-
  Parts of the proof, put together (6). No condition.
-/
import Derived.Test.YtaofijjjheiknaaGreatM5
set_option linter.unusedVariables false
set_option linter.unusedSimpArgs false
set_option linter.unnecessarySimpa false
set_option maxHeartbeats 4000000
open Go.IntKind renaming wrap→AJ
open Go.Proofs.Tryz renaming prog→AC
open Int renaming natCast_add→DA
open List renaming cons_append→AA,nil_append→AB,getElem?_eq_getElem→AE,length_append→AF,getD_eq_getElem?_getD→AN,flatMap_cons→A8,getElem?_append_left→BI,take_add_one→BP,take_append_drop→BV,replicate→BY,perm_middle→B4,getElem_mem→B5,take_length→DF
open Nat renaming reduceAdd→AD,le_refl→AG,zero_le→AS,mul_le_mul_right→A7,le_trans→BB,succ_mul→BG,zero_add→BT,div_le_div_right→BX
open Option.some renaming injEq→BA
namespace Go.Proofs.YtaofijjjheiknaaGreat
open Go.SL Go.Spc Go.Tup
def aHy (bw bx:Nat) (W:Wk) (first nb k bound:Nat) (g:Gr) (ps:List T5) (cx cb:aAc):Prop:=
 g.n=W.δ.size∧∃buf,cx=[(bx,row (aAw bw first nb k ps.length bound g.bb ((ps.length%aAf W.δ.size k)*k) (ps.length/aAf W.δ.size k) false) 168)]∧cb=[(g.br,row (aAg buf) 174)]∧
  aYb W.δ.disk W.δ.size k nb bound first ps buf
def aEg (bx:Nat) (cx:aAc):Prop:=∃bw first nb k cnt bound bb n a,cx=[(bx,row (aAw bw first nb k cnt bound bb n a true) 168)]
def aGt (bw bx:Nat) (W:Wk) (f:Fl) (ts:List T5) (g:Gr) (pos:Nat) (cx cb:aAc):Prop:=
 g.n=W.δ.size∧∃buf n a,cx=[(bx,row (aBh bw f g.bb n a (aAb W.δ.size f.width pos) pos false) 180)]∧cb=[(g.br,row (aAg buf) 174)]∧bLb W.δ.size f.width f.count ts pos buf n a
def aDj (bx:Nat) (cx:aAc):Prop:=∃bw f bb n a kb pos,cx=[(bx,row (aBh bw f bb n a kb pos true) 180)]
def aBv (Lv:List Ext) (W W':Wk):Prop:=∀x,inF Lv x→W'.δ.disk x=W.δ.disk x
theorem aBv.refl (Lv:List Ext) (W:Wk):aBv Lv W W:=fun _ _=>rfl
theorem aBv.trans {Lv:List Ext} {W W1 W2:Wk} (h:aBv Lv W W1) (h2:aBv Lv W1 W2):aBv Lv W W2:=fun x hx=>(h2 x hx).trans (h x hx)
theorem aBv.sub {Lv Lv':List Ext} {W W1:Wk} (h:aBv Lv W W1) (hs:∀e∈Lv',e∈Lv):aBv Lv' W W1:=fun x ⟨e,he,h2⟩=>h x ⟨e,hs e he,h2⟩
theorem bBn {σ:Sp} {live Lv:List Ext} {first nb:Nat} (hv:aVo σ live) (hl:aDv first nb Lv live) {d d':Nat→Option (List Int)} (h:∀x,¬(first≤x∧x<first+nb)→d' x=d x):∀x,inF Lv x→d' x=d x:=by
 intro x hx
 apply h
 rintro⟨h1,h2⟩
 unfold aDv at hl
 by_cases h0:nb=0
 ·omega
 ·rw[if_neg h0] at hl
  exact(hv.perm hl).other (e:=(first,nb)) h1 h2 hx
theorem aGt.move {bw bx:Nat} {W W':Wk} {f:Fl} {ts:List T5} {g:Gr} {pos:Nat} {cx cb:aAc} (h:aGt bw bx W f ts g pos cx cb) (hs:W'.δ.size=W.δ.size):aGt bw bx W' f ts g pos cx cb:=by
 unfold aGt at*
 rw[hs];exact h
theorem aHy.move {bw bx:Nat} {W W':Wk} {first nb k bound:Nat} {g:Gr} {ps:List T5} {cx cb:aAc} (h:aHy bw bx W first nb k bound g ps cx cb) (hs:W'.δ.size=W.δ.size) (hd:∀x,first≤x→x<first+nb→W'.δ.disk x=W.δ.disk x):aHy bw bx W' first nb k bound g ps cx cb:=by
 unfold aHy at*
 rw[hs]
 obtain⟨h1,buf,h2,h3,h4⟩:=h
 refine⟨h1,buf,h2,h3,{h4 with onto:=fun j hj=> ?_}⟩
 rw[←h4.onto j hj,hd]
 ·omega
 ·have hq:ps.length/aAf W.δ.size k≤nb:=by
   rw[h4.nbe]
   refine BB ?_ (aAm h4.cnt)
   unfold aAb
   by_cases hh:aAf W.δ.size k=0
   ·rw[hh];simp
   ·exact BX oM
  omega
theorem bLr (bw bd ba bs:Nat) (W:Wk) (cd ca cs:aAc) (h:Wc bd ba bs W cd ca cs) (bx first nb k bound:Nat) (g:Gr) (ps:List T5) (cx cb:aAc) (hw:aHy bw bx W first nb k bound g ps cx cb) (Gs:List Gr) (hg:W.α.gs.Perm (g::Gs))
  (Lv:List Ext) (hl:aDv first nb Lv W.live) (ac:ps.length<bound) (t:T5) (ht:okT k t) (ad:W.δ.acts≤1000000000000):
  Ct AC 92 [pv bx,tv t] [aAi bw bd ba bs,cd,ca,cs,cx,cb] fun v H'=>
   ∃cd' ca' cs' W' cx' cb',H'=[aAi bw bd ba bs,cd',ca',cs',cx',cb']∧Wc bd ba bs W' cd' ca' cs'∧Ev W W' ((ps.length+1)/aAf W.δ.size k-ps.length/aAf W.δ.size k) 0∧aBv Lv W W'∧
    ((v= .int .i64 0∧W'.α=W.α∧W'.σ=W.σ∧W'.live=W.live∧aHy bw bx W' first nb k bound g (ps++[t]) cx' cb')∨
     (v= .int .i64 6∧W.δ.fault=0∧W'.δ=W.δ.failed∧W'.α.gs.Perm Gs∧W'.live.Perm Lv∧aEg bx cx')):=by
 obtain⟨aa,buf,rfl,rfl,ho⟩:=hw
 refine(bLp bw bd ba bs W cd ca cs h bx first nb k bound g Gs hg aa Lv hl ps buf ho ac t ht ad).mono ?_
 rintro v H' (⟨rfl,cd',ca',δ',ab,rfl,hp,hd,e1,e2,e3,e4,e5,e6⟩|⟨rfl,hf,cb',cd',ca',cs',W',cnt,n,a,rfl,hW,hE,e1,e2,e3⟩)
 ·refine⟨cd',ca',cs,{W with δ:=δ'},_,_,rfl,⟨hd,h.ar.perm hp,h.sp,e2.trans h.nn,h.live⟩,⟨e1,rfl,⟨by rw[e4];exact Nat.le_add_right _ _,by rw[e4];exact AG _⟩,e3,rfl,AG _⟩,bBn h.live hl e5,.inl ⟨rfl,rfl,rfl,rfl,?_⟩⟩
  unfold aHy
  dsimp only
  rw[e1]
  refine⟨aa,ab,by simp,rfl,e6⟩
 ·exact⟨cd',ca',cs',W',_,_,rfl,hW,hE.weak (AS _) (AG _),fun x _=>by rw[e1];rfl,.inr ⟨rfl,hf,e1,e2,e3,_,_,_,_,_,_,_,_,_,rfl⟩⟩
theorem aPc (bw bd ba bs:Nat) (W:Wk) (cd ca cs:aAc) (h:Wc bd ba bs W cd ca cs) (bx first nb k bound:Nat) (g:Gr) (ps:List T5) (cx cb:aAc) (hw:aHy bw bx W first nb k bound g ps cx cb) (Gs:List Gr) (hg:W.α.gs.Perm (g::Gs))
  (Lv:List Ext) (hl:aDv first nb Lv W.live) (aa:W.δ.acts≤1000000000000):
  Ct AC 93 [pv bx] [aAi bw bd ba bs,cd,ca,cs,cx,cb] fun v H'=>
   ∃cd' ca' cs' W' cx' cb',H'=[aAi bw bd ba bs,cd',ca',cs',cx',cb']∧Wc bd ba bs W' cd' ca' cs'∧Ev W W' (aAb W.δ.size k ps.length-ps.length/aAf W.δ.size k) 0∧aBv Lv W W'∧W'.α.gs.Perm Gs∧aEg bx cx'∧
    ((∃f,v= .tuple #[flv f,.int .i64 0]∧W'.live=(if f.blocks=0 then Lv else f.ext::Lv)∧f.width=k∧f.count=ps.length∧aAq W'.δ.disk W.δ.size [f.ext] f ps)∨
     (v= .tuple #[flv ⟨0,0,0,0⟩,.int .i64 6]∧W.δ.fault=0∧W'.δ=W.δ.failed∧W'.live.Perm Lv)):=by
 obtain⟨ab,buf,rfl,rfl,ho⟩:=hw
 refine(bDu bw bd ba bs W cd ca cs h bx first nb k bound g Gs hg ab Lv hl ps buf ho aa).mono ?_
 rintro v H' (⟨cd',ca',cs',W',f,n,rfl,rfl,hW,hE,e1,e2,e3,e4,e5,e6,e7,e8⟩|⟨rfl,hf,cd',ca',cs',W',cnt,n,a,rfl,hW,hE,e1,e2,e3⟩)
 ·refine⟨cd',ca',cs',W',_,_,rfl,hW,{hE with acts:=⟨hE.acts.1,Nat.le_of_eq e1⟩},bBn h.live hl e8,e2,⟨_,_,_,_,_,_,_,_,_,rfl⟩,.inl ⟨f,rfl,e3,e4,e5,?_⟩⟩
  refine⟨by rw[e4];exact ho.w1,by rw[e4];exact ho.w2,e5.symm,?_,by rw[e6,e4,e5],?_,?_,fun _=>List.mem_singleton.2 rfl⟩
  ·rw[e5];exact BB ho.cnt ho.hb
  ·rw[e4];exact ho.fit
  ·rw[e4];exact e7
 ·exact⟨cd',ca',cs',W',_,_,rfl,hW,hE.weak (AS _) (AG _),fun x _=>by rw[e1];rfl,e2,⟨_,_,_,_,_,_,_,_,_,rfl⟩,.inr ⟨rfl,hf,e1,e3⟩⟩
theorem aYt (bw bd ba bs:Nat) (W:Wk) (cd ca cs:aAc) (h:Wc bd ba bs W cd ca cs) (bx first nb k bound:Nat) (g:Gr) (ps:List T5) (cx cb:aAc) (hw:aHy bw bx W first nb k bound g ps cx cb) (Gs:List Gr) (hg:W.α.gs.Perm (g::Gs))
  (Lv:List Ext) (hl:aDv first nb Lv W.live):
  Cb AC 90 [pv bx] [aAi bw bd ba bs,cd,ca,cs,cx,cb] fun v H'=>
   ∃cd' ca' cs' W' cx' cb',v= .tuple #[]∧H'=[aAi bw bd ba bs,cd',ca',cs',cx',cb']∧Wc bd ba bs W' cd' ca' cs'∧Ev W W' 0 0∧W'.δ=W.δ∧W'.α.gs.Perm Gs∧W'.live.Perm Lv∧aEg bx cx':=by
 obtain⟨aa,buf,rfl,rfl,ho⟩:=hw
 refine(bGm bw bd ba bs W cd ca cs h bx first nb k ps.length bound _ _ g Gs hg Lv hl [(g.br,row (aAg buf) 174)]).mono ?_
 rintro v H' ⟨rfl,cd',ca',cs',W',cnt,n,a,rfl,hW,hE,e1,e2,e3⟩
 exact⟨cd',ca',cs',W',_,_,rfl,rfl,hW,hE,e1,e2,e3,_,_,_,_,_,_,_,_,_,rfl⟩
theorem aEy (bx:Nat) (cx:aAc) (h:aEg bx cx):Cb AC 90 [pv bx] [cx] (fun v' H'=>v'= .tuple #[]∧H'=[cx]):=by
 obtain⟨bw,first,nb,k,cnt,bound,bb,n,a,rfl⟩:=h
 exact aVp bw first nb k cnt bound bb n a bx
theorem bGu (bx:Nat) (cx:aAc) (h:aEg bx cx):CtQ AC 90 [pv bx] [cx] (.tuple #[]):=(aEy bx cx h).1
theorem aJt (bw bd ba bs:Nat) (W:Wk) (cd ca cs:aAc) (h:Wc bd ba bs W cd ca cs) (bx:Nat) (f:Fl) (ts:List T5) (Lv:List Ext) (ab:aAq W.δ.disk W.δ.size Lv f ts) (aa:∀e∈Lv,e∈W.live) (g:Gr) (Gs:List Gr) (hg:W.α.gs.Perm (g::Gs))
  (pos:Nat) (cx cb:aAc) (hr:aGt bw bx W f ts g pos cx cb) (t:T5) (ht:ts[pos]? =some t) (ae:W.δ.acts≤1000000000000):
  Ct AC 97 [pv bx] [aAi bw bd ba bs,cd,ca,cs,cx,cb] fun v H'=>
   ∃cd' ca' W' cx' cb',H'=[aAi bw bd ba bs,cd',ca',cs,cx',cb']∧Wc bd ba bs W' cd' ca' cs∧Ev W W' (aAb W.δ.size f.width (pos+1)-aAb W.δ.size f.width pos) 0∧W'.δ.disk=W.δ.disk∧W'.σ=W.σ∧W'.live=W.live∧
    ((v= .tuple #[tv t,.bool true,.int .i64 0]∧W'.α=W.α∧aGt bw bx W' f ts g (pos+1) cx' cb')∨
     (v= .tuple #[tv T5.zero,.bool false,.int .i64 6]∧W.δ.fault=0∧W'.δ=W.δ.failed∧W'.α.gs.Perm Gs∧aDj bx cx')):=by
 obtain⟨ac,buf,n,a,rfl,rfl,ho⟩:=hr
 have ag:pos<f.count:=by have:=(List.getElem?_eq_some_iff.1 ht).1;have:=ab.len;omega
 refine(bGt bw bd ba bs W cd ca cs h bx f ts Lv ab aa g Gs hg ac pos n a buf ho ag t ht ae).mono ?_
 rintro v H' (⟨cd',ca',δ',ad,n',a',rfl,rfl,hp,hd,e1,e2,e3,e4,e5,e6⟩|⟨rfl,hf,cd',ca',α',n',a',kb,ah,rfl,hd,hA,e1,e2⟩)
 ·refine⟨cd',ca',{W with δ:=δ'},_,_,rfl,⟨hd,h.ar.perm hp,h.sp,e2.trans h.nn,h.live⟩,⟨e1,rfl,⟨by rw[e4];exact Nat.le_add_right _ _,by rw[e4];exact AG _⟩,e3,rfl,AG _⟩,e5,rfl,rfl,.inl ⟨rfl,rfl,?_⟩⟩
  unfold aGt
  dsimp only
  rw[e1]
  exact⟨ac,ad,n',a',rfl,rfl,e6⟩
 ·exact⟨cd',ca',{W with δ:=W.δ.failed,α:=α'},_,_,rfl,⟨hd,hA,h.sp,h.nn,h.live⟩,⟨rfl,rfl,⟨AG _,Nat.le_add_right _ _⟩,fun _=>rfl,e2,AG _⟩,rfl,rfl,rfl,.inr ⟨rfl,hf,rfl,e1,_,_,_,_,_,_,_,rfl⟩⟩
theorem aGf (bw bx:Nat) (W:Wk) (f:Fl) (ts:List T5) (g:Gr) (cx cb:aAc) (hr:aGt bw bx W f ts g f.count cx cb):
  CtQ AC 97 [pv bx] [cx] (.tuple #[tv T5.zero,.bool false,.int .i64 0]):=by
 obtain⟨aa,buf,n,a,rfl,rfl,ho⟩:=hr
 exact bLq bw bx f g.bb n a _
theorem aDn (bw bd ba bs:Nat) (W:Wk) (cd ca cs:aAc) (h:Wc bd ba bs W cd ca cs) (bx:Nat) (f:Fl) (ts:List T5) (g:Gr) (Gs:List Gr) (hg:W.α.gs.Perm (g::Gs)) (pos:Nat) (cx cb:aAc) (hr:aGt bw bx W f ts g pos cx cb):
  Cb AC 96 [pv bx] [aAi bw bd ba bs,ca,cx] fun v H'=>
   ∃ca' α' cx',v= .tuple #[]∧H'=[aAi bw bd ba bs,ca',cx']∧Wc bd ba bs {W with α:=α'} cd ca' cs∧Ev W {W with α:=α'} 0 0∧α'.gs.Perm Gs∧aDj bx cx':=by
 obtain⟨aa,buf,n,a,rfl,rfl,ho⟩:=hr
 refine(aVv bw bd ba bs W.α ca h.ar f n a _ pos bx g Gs hg).mono ?_
 rintro v H' ⟨ca',α',rfl,hA,e1,e2,rfl⟩
 exact⟨ca',α',_,rfl,rfl,⟨h.dev,hA,h.sp,h.nn,h.live⟩,⟨rfl,rfl,⟨AG _,AG _⟩,id,e2,AG _⟩,e1,_,_,_,_,_,_,_,rfl⟩
theorem aNr (bw bd ba bs:Nat) (W:Wk) (cd ca cs:aAc) (h:Wc bd ba bs W cd ca cs) (bx:Nat) (f:Fl) (ts:List T5) (g:Gr) (Gs:List Gr) (hg:W.α.gs.Perm (g::Gs)) (pos:Nat) (cx cb:aAc) (hr:aGt bw bx W f ts g pos cx cb):
  Ct AC 96 [pv bx] [aAi bw bd ba bs,ca,cx] fun v H'=>
   ∃ca' α' cx',v= .tuple #[]∧H'=[aAi bw bd ba bs,ca',cx']∧Wc bd ba bs {W with α:=α'} cd ca' cs∧Ev W {W with α:=α'} 0 0∧α'.gs.Perm Gs∧aDj bx cx':=(aDn bw bd ba bs W cd ca cs h bx f ts g Gs hg pos cx cb hr).1
theorem aJe (bx:Nat) (cx:aAc) (h:aDj bx cx):Cb AC 96 [pv bx] [cx] (fun v' H'=>v'= .tuple #[]∧H'=[cx]):=by
 obtain⟨bw,f,bb,n,a,kb,pos,rfl⟩:=h
 exact aQt bw f bb n a kb pos bx
theorem aVy (bx:Nat) (cx:aAc) (h:aDj bx cx):CtQ AC 96 [pv bx] [cx] (.tuple #[]):=(aJe bx cx h).1
theorem aIk (bw bd ba bs:Nat) (W:Wk) (cd ca cs:aAc) (h:Wc bd ba bs W cd ca cs) (f:Fl) (ts:List T5) (Lv:List Ext) (aa:aAq W.δ.disk W.δ.size Lv f ts) (hr:W.δ.size≤W.α.room-W.α.used):
  Ct AC 95 [pv bw,flv f] [aAi bw bd ba bs,cd,ca,cs] fun v H'=>
   ∃bx g ca' α' cx cb,v= .tuple #[pv bx,.int .i64 0]∧H'=[aAi bw bd ba bs,cd,ca',cs,cx,cb]∧Wc bd ba bs {W with α:=α'} cd ca' cs∧Ev W {W with α:=α'} 0 0∧α'.gs.Perm (g::W.α.gs)∧g.n=W.δ.size∧aGt bw bx {W with α:=α'} f ts g 0 cx cb:=by
 refine(bGq bw bd ba bs W cd ca cs h f aa.w1 aa.w2 aa.cnt aa.blk hr).mono ?_
 rintro v H' ⟨bx,g,ca',α',rfl,rfl,hA,ab,e1,e2⟩
 obtain⟨hs,_⟩:=h.dev.num
 have hp:=aAl hs.1 aa.w1 aa.w2
 refine⟨bx,g,ca',α',_,_,rfl,rfl,⟨h.dev,hA,h.sp,h.nn,h.live⟩,⟨rfl,rfl,⟨AG _,AG _⟩,id,e2,AG _⟩,e1,ab,ab,BY W.δ.size 0,0,0,?_,rfl,bLb.start hp aa.len⟩
 show _=[(bx,row (aBh bw f g.bb 0 0 (aAb W.δ.size f.width 0) 0 false) 180)]
 rw[aEk hp]
theorem aKd (bw bd ba bs:Nat) (W:Wk) (cd ca cs:aAc) (h:Wc bd ba bs W cd ca cs) (k bound:Nat) (h1:1≤k) (h2:k≤5) (hb:bound≤100000000) (hr:W.δ.size≤W.α.room-W.α.used):
  Ct AC 89 [pv bw,.int .i64 (k:Int),.int .i64 (bound:Int)] [aAi bw bd ba bs,cd,ca,cs] fun v H'=>
   (aAb W.δ.size k bound≤big W.σ.free∧∃bx first g cd' ca' cs' W' cx cb,v= .tuple #[pv bx,.int .i64 0]∧H'=[aAi bw bd ba bs,cd',ca',cs',cx,cb]∧Wc bd ba bs W' cd' ca' cs'∧Ev W W' 0 (aAb W.δ.size k bound)∧W'.δ=W.δ∧
    W'.α.gs.Perm (g::W.α.gs)∧g.n=W.δ.size∧aDv first (aAb W.δ.size k bound) W.live W'.live∧aHy bw bx W' first (aAb W.δ.size k bound) k bound g [] cx cb)∨
   (big W.σ.free<aAb W.δ.size k bound∧v= .tuple #[.pointer none,.int .i64 5]∧∃cd' ca' cs' W',H'=[aAi bw bd ba bs,cd',ca',cs']∧Wc bd ba bs W' cd' ca' cs'∧Ev W W' 0 0∧W'.δ=W.δ∧W'.live=W.live∧W'.α.gs.Perm W.α.gs):=by
 refine(bLo bw bd ba bs W cd ca cs h k bound h1 h2 hb hr).mono ?_
 obtain⟨hs,_⟩:=h.dev.num
 have hp:=aAl hs.1 h1 h2
 rintro v H' (⟨aa,bx,first,g,cd',ca',cs',W',rfl,rfl,hW,hE,e1,e2,e3,e4⟩|⟨hf,rfl,cd',ca',cs',W',rfl,hW,hE,e1,e2,e3,e4⟩)
 ·left
  refine⟨aa,bx,first,g,cd',ca',cs',W',_,_,rfl,rfl,hW,hE,e1,e3,e2,?_,by rw[e1];exact e2,BY W.δ.size 0,?_,rfl,?_⟩
  ·unfold aDv
   split at e4
   ·rename_i h0;rw[if_pos h0,e4.1]
   ·rename_i h0;rw[if_neg h0,e4]
  ·rw[e1];simp
  ·rw[e1]
   exact⟨h1,h2,hb,rfl,AS _,by simp,by simp,fun j hj=>by simp at hj,by simp⟩
 ·exact .inr ⟨hf,rfl,cd',ca',cs',W',rfl,hW,hE,e1,e3,e4⟩
theorem aKv (bw bd ba bs:Nat) (W:Wk) (cd ca cs:aAc) (h:Wc bd ba bs W cd ca cs) (f:Fl) (Lv:List Ext) (hl:aDv f.first f.blocks Lv W.live):
  Ct AC 82 [pv bw,flv f] [aAi bw bd ba bs,cs] fun v H'=>
   ∃cs' W',v= .int .i64 0∧H'=[aAi bw bd ba bs,cs']∧Wc bd ba bs W' cd ca cs'∧Ev W W' 0 0∧W'.δ=W.δ∧W'.α=W.α∧W'.live=Lv:=by
 unfold aDv at hl
 unfold flv aAi
 by_cases h0:f.blocks=0
 ·rw[if_pos h0] at hl
  rw[h0]
  refine Ct.go Tryz.func82 Tryz.ntmps82 fun w0=> ?_
  repeat(refine sv ?_;intros)
  (refine Dn.post (Hr:=[[(bw,row [pv bd,pv ba,pv bs] 105)],cs]) Tryz.results82 (hR:= ?_);exact⟨cs,{W with live:=Lv},rfl,rfl,⟨h.dev,h.ar,h.sp,h.nn,h.live.perm hl⟩,⟨rfl,rfl,⟨AG _,AG _⟩,id,rfl,AG _⟩,rfl,rfl,rfl⟩)
 ·rw[if_neg h0] at hl
  have aa:=h.live.perm hl
  obtain⟨⟨f1,f2⟩,f3⟩:=aGd aa
  have ab:=aOs bs W.σ cs h.sp f.first f.blocks f1 f2 f3
  refine Ct.go Tryz.func82 Tryz.ntmps82 fun w0=> ?_
  repeat(refine sv ?_;intros)
  refine R.call (hct:=ab) (h:= ?_)
  rintro _ _ ⟨cs',σ',rfl,ac,e1,e3,e4,e5,rfl⟩
  try dsimp only[AA,AB]
  repeat(refine sv ?_;intros)
  (refine Dn.post (Hr:=[[(bw,row [pv bd,pv ba,pv bs] 105)],cs']) Tryz.results82 (hR:= ?_);exact⟨cs',{W with σ:=σ',live:=Lv},rfl,rfl,⟨h.dev,h.ar,ac,h.nn.trans e1.symm,aIi aa e1 e3 e4⟩,⟨rfl,e1,⟨AG _,AG _⟩,id,rfl,by show _≤big σ'.free+0;omega⟩,rfl,rfl,rfl⟩)
structure LayX where
 i:Nat
 cd:aAc
 ca:aAc
 cs:aAc
 cx:aAc
 cb:aAc
 W:Wk
theorem Lay_ct (bw bd ba bs:Nat) (W:Wk) (cd ca cs:aAc) (h:Wc bd ba bs W cd ca cs) (k:Nat) (h1:1≤k) (h2:k≤5) (p:Option Addr) (n cap:Nat) (ts:List T5) (c:aAc) (hv:RV p n ts c) (hn:n≤100000000) (bc:∀t∈ts,okT k t)
  (hr:W.δ.size≤W.α.room-W.α.used) (hf:W.δ.fault= -1) (bv:W.δ.acts≤100000000000):
  Ct AC 73 [pv bw,.int .i64 (k:Int),.slice p n cap] [aAi bw bd ba bs,cd,ca,cs,c] fun v H'=>
   ∃cd' ca' cs' W',H'=[aAi bw bd ba bs,cd',ca',cs',c]∧Wc bd ba bs W' cd' ca' cs'∧Ev W W' (aAb W.δ.size k n) (aAb W.δ.size k n)∧aBv W.live W W'∧W'.α.gs.Perm W.α.gs∧
    ((aAb W.δ.size k n≤big W.σ.free∧∃f,v= .tuple #[flv f,.int .i64 0]∧W'.live=(if f.blocks=0 then W.live else f.ext::W.live)∧f.width=k∧f.count=n∧aAq W'.δ.disk W.δ.size [f.ext] f ts)∨
     (big W.σ.free<aAb W.δ.size k n∧v= .tuple #[flv ⟨0,0,0,0⟩,.int .i64 5]∧W'.live=W.live∧W'.δ=W.δ)):=by
 have be:=aKd bw bd ba bs W cd ca cs h k n h1 h2 hn hr
 have aw:=hv.1
 obtain⟨⟨bf,bz⟩,_⟩:=h.dev.num
 have hp:=aAl bf h1 h2
 refine Ct.go Tryz.func73 Tryz.ntmps73 fun w0=> ?_
 repeat(refine st ?_;intros)
 apply R.call
 ·exact rfl
 ·exact be
 ·exact oA1
 ·exact rfl
 ·exact nle rfl
 rintro _ _ (⟨ax,bx,first,g,cd',ca',cs',W1,cx,cb,rfl,rfl,ai,aj,e1,e2,e3,e4,e5⟩|⟨ak,rfl,cd',ca',cs',W1,rfl,ai,aj,e1,e2,e3⟩)
 ·repeat(refine st ?_;intros)
  rename_i b6
  refine G.loop (X:=LayX) (fun x=>x.i≤n∧Wc bd ba bs x.W x.cd x.ca x.cs∧Ev W x.W (x.i/aAf W.δ.size k) (aAb W.δ.size k n)∧aBv W.live W x.W∧x.W.α.gs.Perm (g::W.α.gs)∧aDv first (aAb W.δ.size k n) W.live x.W.live∧aHy bw bx x.W first (aAb W.δ.size k n) k n g (ts.take x.i) x.cx x.cb)
   (fun x=>[(27,.int .i64 (x.i:Int)),(26,.int .i64 (n:Int)),(25,.slice p n cap),(8,pv bx),(6,.pointer (some ⟨b6,0,none⟩))])
   (fun x=>[[(b6,row [.int .i64 0,.int .i64 0,.int .i64 0,.int .i64 0] 42)],aAi bw bd ba bs,x.cd,x.ca,x.cs,x.cx,x.cb,c]) (fun x=>n-x.i) ⟨0,cd',ca',cs',cx,cb,W1⟩
   ⟨AS _,ai,by simpa using aj,fun x _=>by rw[e1],e2,e4,e5⟩ (body:= ?_)
  rintro⟨i,ay,az,a0,a1,a2,W2⟩ ⟨hi,al,aa,am,ab,ac,ad⟩
  dsimp only at hi al aa am ab ac ad⊢
  have bg:=aa.acts
  have a3:=aa.size
  have b1:=aa.fault hf
  have b2:i/aAf W.δ.size k≤n:=BB (Nat.div_le_self _ _) hi
  by_cases a4:i<n
  ·obtain⟨b,off,b3,T,fz,rfl,rfl,an⟩:=hv.pos oM
   have bh:=an i a4
   have ao:i<ts.length:=oM
   have bi:ts.getD i ⟨0,0,0,0,0⟩=ts[i]:=by simp[AN,ao]
   rw[bi] at bh
   have ap:ts.take (i+1)=ts.take i++[ts[i]]:=by rw[BP];simp[ao]
   have a5:(ts.take i).length=i:=by simp;omega
   have a6:=bLr bw bd ba bs W2 ay az a0 al bx first _ k n g (ts.take i) a1 a2 ad W.α.gs ab W.live ac oM ts[i] (bc _ (B5 ao)) oM
   have bk:tv ts[i]= .agg (aAk ts[i]).toArray:=rfl
   rw[bk] at a6
   have bq:(aAk ts[i]).length=5:=rfl
   have bu:(aAk ts[i]).all Value.oneCell'=true:=rfl
   have bo:aFm [.int .i64 0,.int .i64 0,.int .i64 0,.int .i64 0,.int .i64 0] 0 (aAk ts[i])=aAk ts[i]:=rfl
   have b4:((aAk ts[i]).drop 0).take 5=aAk ts[i]:=rfl
   generalize aAk ts[i]=tc at*
   repeat(refine st ?_;intros)
   refine R.call (hct:=a6) (h:= ?_)
   rintro _ _ ⟨ae,ag,ah,W3,a7,a8,rfl,aq,au,av,⟨rfl,e6,e7,e8,e9⟩|⟨rfl,e6,_⟩⟩
   try dsimp only[AA,AB]
   ·repeat(refine st ?_;intros)
    refine Dn.round ⟨i+1,ae,ag,ah,a7,a8,W3⟩ ⟨a4,aq,?_,am.trans av,by rw[e6];exact ab,by rw[e8];exact ac,by rw[ap];exact e9⟩ oD
    have:=aa.trans au
    rw[a5,a3] at this
    refine this.weak ?_ (AG _)
    have hm:i/aAf W.δ.size k≤(i+1)/aAf W.δ.size k:=BX oM
    dsimp only
    omega
   ·omega
  ·obtain rfl:i=n:=by omega
   have ap:ts.take i=ts:=by rw[←aw];exact DF
   rw[ap] at ad
   have a9:=aPc bw bd ba bs W2 ay az a0 al bx first _ k i g ts a1 a2 ad W.α.gs ab W.live ac oM
   rw[a3,aw] at a9
   repeat(refine st ?_;intros)
   refine R.call (hct:=a9) (h:= ?_)
   rintro _ _ ⟨ae,ag,ah,W3,a7,a8,rfl,aq,au,av,bp,b5,⟨f,rfl,e6,e7,e8,e9⟩|⟨rfl,e6,_⟩⟩
   try dsimp only[AA,AB]
   ·repeat(refine st ?_;intros)
    (refine Dn.post (Hr:=[aAi bw bd ba bs,ae,ag,ah,c]) Tryz.results73 (hR:= ?_);refine⟨ae,ag,ah,W3,rfl,aq,?_,am.trans av,bp,.inl ⟨ax,f,rfl,e6,e7,e8,e9⟩⟩)
    have:=aa.trans au
    refine this.weak ?_ (AG _)
    have hm:i/aAf W.δ.size k≤aAb W.δ.size k i:=by
     unfold aAb;exact BX oM
    omega
   ·omega
 ·repeat(refine st ?_;intros)
  (refine Dn.post (Hr:=[aAi bw bd ba bs,cd',ca',cs',c]) Tryz.results73 (hR:= ?_);exact⟨cd',ca',cs',W1,rfl,ai,aj.weak (AS _) (AS _),fun x _=>by rw[e1],e3,.inr ⟨ak,rfl,e2,e1⟩⟩)
structure ListX where
 i:Nat
 cd:aAc
 ca:aAc
 cx:aAc
 cb:aAc
 W:Wk
 p:Option Addr
 cap:Nat
 co:aAc
theorem aQu {ts:List T5} {i:Nat} (hi:i<ts.length):flat (ts.take (i+1))=flat (ts.take i)++aAk ts[i]:=by
 rw[BP,flat_append]
 simp[hi,flat]
theorem bQg (bw bd ba bs:Nat) (W:Wk) (cd ca cs:aAc) (h:Wc bd ba bs W cd ca cs) (f:Fl) (ts:List T5) (Lv:List Ext) (ab:aAq W.δ.disk W.δ.size Lv f ts) (aq:∀e∈Lv,e∈W.live)
  (hr:W.δ.size≤W.α.room-W.α.used) (hf:W.δ.fault= -1) (b5:W.δ.acts≤100000000000) (bz:f.count≤1000000):
  Ct AC 41 [pv bw,flv f] [aAi bw bd ba bs,cd,ca,cs] fun v H'=>
   ∃cd' ca' W' p cap co,v= .tuple #[.slice p f.count cap,.int .i64 0]∧H'=[aAi bw bd ba bs,cd',ca',cs,co]∧Wc bd ba bs W' cd' ca' cs∧Ev W W' (aAb W.δ.size f.width f.count) 0∧W'.δ.disk=W.δ.disk∧W'.live=W.live∧W'.α.gs.Perm W.α.gs∧
    Vec 33 5 p f.count cap (flat ts) co:=by
 have au:=aIk bw bd ba bs W cd ca cs h f ts Lv ab hr
 have av:=ab.len
 obtain⟨⟨a2,b6⟩,_⟩:=h.dev.num
 have hp:=aAl a2 ab.w1 ab.w2
 have a3:flv f= .agg #[.int .i64 (f.first:Int),.int .i64 (f.blocks:Int),.int .i64 (f.width:Int),.int .i64 (f.count:Int)]:=rfl
 rw[a3] at au⊢
 refine Ct.introD Tryz.func41 rfl Tryz.ntmps41 (nle rfl) fun w0=> ?_;dsimp only[aAa,AD]
 repeat(refine st ?_;intros)
 refine R.call (hct:=au) (h:= ?_)
 rintro _ _ ⟨bx,g,ac,α1,cx,cb,rfl,rfl,a4,a5,a6,b7,a7⟩
 try dsimp only[AA,AB]
 repeat(refine st ?_;intros)
 refine G.loop (X:=ListX) (fun x=>x.i≤f.count∧Wc bd ba bs x.W x.cd x.ca cs∧Ev W x.W (aAb W.δ.size f.width x.i) 0∧x.W.δ.disk=W.δ.disk∧x.W.live=W.live∧x.W.α.gs.Perm (g::W.α.gs)∧aGt bw bx x.W f ts g x.i x.cx x.cb∧Vec 33 5 x.p x.i x.cap (flat (ts.take x.i)) x.co)
  (fun x=>[(6,pv bx),(8,.slice x.p x.i x.cap)])
  (fun x=>[aAi bw bd ba bs,x.cd,x.ca,cs,x.cx,x.cb,x.co]) (fun x=>f.count-x.i) ⟨0,cd,ac,cx,cb,{W with α:=α1},none,0,[]⟩
  ⟨AS _,a4,by rw[aEk hp];exact a5,rfl,rfl,a6,a7,Vec.nil _ _⟩ oA3 oA0 ?_
 rintro⟨i,ad,ac,al,am,W2,p,cap,co⟩ ⟨hi,an,aa,ae,ag,ah,ai,hV⟩
 dsimp only at hi an aa ae ag ah ai hV⊢
 have a8:=aa.acts
 have aw:=aa.size
 have b1:=aa.fault hf
 have b8:aAb W.δ.size f.width i≤i:=by
  unfold aAb
  rw[Nat.div_le_iff_le_mul_add_pred oM]
  have:=Nat.le_mul_of_pos_left i (show 0<aAf W.δ.size f.width by omega)
  omega
 by_cases a9:i<f.count
 ·have ax:i<ts.length:=oM
  have ay:=aJt bw bd ba bs W2 ad ac cs an bx f ts Lv (by rw[ae,aw];exact ab) (by rw[ag];exact aq) g W.α.gs ah i al am ai ts[i] (AE ax) oM
  have bc:tv ts[i]= .agg (aAk ts[i]).toArray:=rfl
  rw[bc] at ay
  have b2:(aAk ts[i]).length=5:=rfl
  have be:(aAk ts[i]).length=1*5:=rfl
  have b3:(aAk ts[i]).all Value.oneCell'=true:=rfl
  have bf:aFm [.int .i64 0,.int .i64 0,.int .i64 0,.int .i64 0,.int .i64 0] 0 (aAk ts[i])=aAk ts[i]:=rfl
  have b9:((aAk ts[i]).drop 0).take 5=aAk ts[i]:=rfl
  have b4:((aAk ts[i]).drop 0).take (1*5)=aAk ts[i]:=rfl
  have bg:=aQu ax
  generalize ts[i]=t at*
  repeat(refine st ?_;intros)
  refine R.call (hct:=ay) (h:= ?_)
  rintro _ _ ⟨bh,aj,W3,az,bi,rfl,ao,ap,bk,cg,bo,⟨rfl,e6,e9⟩|⟨rfl,e6,_⟩⟩
  try dsimp only[AA,AB]
  ·repeat(refine st ?_;intros)
   rename_i p' ak c' bp
   have a0:Vec 33 5 p' (i+1) ak (flat (ts.take i)++aAk t) c':=bp
   rw[←bg] at a0
   refine Dn.round ⟨i+1,bh,aj,az,bi,W3,p',ak,c'⟩ ⟨a9,ao,?_,bk.trans ae,bo.trans ag,by rw[e6];exact ah,e9,a0⟩ oD
   have:=aa.trans ap
   rw[aw] at this
   refine this.weak ?_ (AG _)
   have hm:aAb W.δ.size f.width i≤aAb W.δ.size f.width (i+1):=aAm oM
   dsimp only
   omega
  ·omega
 ·have bq:f.count=i:=oM
  subst bq
  have a1:=aGf bw bx W2 f ts g al am ai
  have bu:=(aDn bw bd ba bs W2 ad ac cs an bx f ts g W.α.gs ah f.count al am ai).2
  have hz:tv T5.zero= .agg (aAk T5.zero).toArray:=rfl
  rw[hz] at a1
  repeat(refine st ?_;intros)
  refine R.call (hct:=a1) (h:= ?_)
  rintro _ _ ⟨rfl,rfl⟩
  try dsimp only[AA,AB]
  repeat(refine st ?_;intros)
  refine Go.SL.Lv.call (hc:=bu) (h:= ?_)
  rintro _ _ ⟨aj,α3,az,rfl,rfl,ao,ap,bv,ci⟩
  try dsimp only[AA,AB]
  (refine Go.SL.Lv.nil (Hr:=[aAi bw bd ba bs,ad,aj,cs,co]) Tryz.results41 (hR:= ?_);refine⟨ad,aj,{W2 with α:=α3},p,cap,co,rfl,rfl,ao,by simpa using aa.trans ap,ae,ag,bv,?_⟩)
  rw[←av,DF] at hV
  rw[←av];exact hV
structure Seer (K:Type) where
 own:K→List Gr
 C:K→aAc
 J:Wk→K→Nat→Prop
 B:Wk→K→Int→Prop
 κ:Nat
structure Seer.Ok {K:Type} (Z:Seer K):Prop where
 stay:∀W W' r i,Z.J W r i→W'.δ.size=W.δ.size→W'.δ.disk=W.δ.disk→W'.σ=W.σ→W'.live=W.live→(W.δ.fault= -1→W'.δ.fault= -1)→Z.J W' r i
 flt:∀W W' r i,Z.J W r i→W.δ.fault=0→W'.δ=W.δ.failed→W'.σ=W.σ→W'.live=W.live→Z.B W' r 6
 stayB:∀W α r e,Z.B W r e→Z.B {W with α:=α} r e
def SeeCt (bw bd ba bs:Nat) {K:Type} (Z:Seer K) (size room:Nat) (f:Fl) (ts:List T5) (fid:Nat) (fs us:List Value):Prop:=
 ∀(aa:List Gr) (W:Wk) (cd ca cs:aAc) (r:K) (i:Nat) (t:T5),Wc bd ba bs W cd ca cs→W.α.gs.Perm (Z.own r++aa)→W.α.room=room→W.δ.size=size→Z.J W r i→ts[i]? =some t→W.δ.acts≤100000000000→
  Ct AC fid (fs++[tv t]++us) [aAi bw bd ba bs,cd,ca,cs,Z.C r] fun v H'=>
   ∃ab ac ad W' r' e,v= .int .i64 e∧H'=[aAi bw bd ba bs,ab,ac,ad,Z.C r']∧Wc bd ba bs W' ab ac ad∧Ev W W' Z.κ 0∧W'.α.gs.Perm (Z.own r'++aa)∧(e=0→Z.J W' r' (i+1))∧(e≠0→Z.B W' r' e)
structure OverX (K:Type) where
 i:Nat
 cd:aAc
 ca:aAc
 cs:aAc
 cx:aAc
 cb:aAc
 W:Wk
 r:K
theorem bGv (bw bd ba bs:Nat) {K:Type} (Z:Seer K) (hZ:Z.Ok) (f:Fl) (ts:List T5) (Lv:List Ext) (al:Nat) (a9:Callable AC al) (fs us:List Value) (size room:Nat) (a7:SeeCt bw bd ba bs Z size room f ts al fs us) (W:Wk) (cd ca cs:aAc) (h:Wc bd ba bs W cd ca cs) (r:K) (aa:List Gr) (hg:W.α.gs.Perm (Z.own r++aa)) (b7:W.α.room=room) (a6:W.δ.size=size) (hJ:Z.J W r 0)
  (a8:∀W r i,Z.J W r i→aAq W.δ.disk size Lv f ts∧∀e∈Lv,e∈W.live) (hr:W.δ.size≤W.α.room-W.α.used) (dr:W.δ.acts+aAb size f.width f.count+f.count*Z.κ≤100000000000) (ds:f.count≤1000000):
  Ct AC 91 [pv bw,flv f,.func (.func al) fs.toArray us.toArray] [aAi bw bd ba bs,cd,ca,cs,Z.C r] fun v H'=>
   ∃cd' ca' cs' W' r' e,v= .int .i64 e∧H'=[aAi bw bd ba bs,cd',ca',cs',Z.C r']∧Wc bd ba bs W' cd' ca' cs'∧Ev W W' (aAb size f.width f.count+f.count*Z.κ) 0∧W'.α.gs.Perm (Z.own r'++aa)∧(e=0→Z.J W' r' f.count)∧(e≠0→Z.B W' r' e):=by
 obtain⟨⟨b8,dt⟩,du,dw⟩:=h.dev.num
 obtain⟨ad,b9⟩:=a8 W r 0 hJ
 have cg:=ad.w1
 have ci:=ad.w2
 have dx:=ad.len
 have hp:=aAl b8 cg ci
 have bc:=aIk bw bd ba bs W cd ca cs h f ts Lv (by rw[a6];exact ad) hr
 have be:flv f= .agg #[.int .i64 (f.first:Int),.int .i64 (f.blocks:Int),.int .i64 (f.width:Int),.int .i64 (f.count:Int)]:=rfl
 rw[be] at bc⊢
 refine Ct.introD Tryz.func91 rfl Tryz.ntmps91 (nle rfl) fun w0=> ?_;dsimp only[aAa,AD]
 repeat(refine st ?_;intros)
 refine R.call (hct:=bc) (h:= ?_)
 rintro _ _ ⟨bx,g,cj,α1,cx,cb,rfl,rfl,cm,cu,cv,dy,cw⟩
 try dsimp only[AA,AB]
 repeat(refine st ?_;intros)
 rename_i b4
 have cz:Z.J {W with α:=α1} r 0:=hZ.stay _ _ _ _ hJ rfl rfl rfl rfl id
 refine G.loop (X:=OverX K) (fun x=>x.i≤f.count∧Wc bd ba bs x.W x.cd x.ca x.cs∧Ev W x.W (aAb size f.width x.i+x.i*Z.κ) 0∧x.W.α.gs.Perm (g::(Z.own x.r++aa))∧Z.J x.W x.r x.i∧aGt bw bx x.W f ts g x.i x.cx x.cb)
  (fun _=>[(7,pv bx),(2,.func (.func al) fs.toArray us.toArray)]) (fun x=>[aAi bw bd ba bs,x.cd,x.ca,x.cs,Z.C x.r,x.cx,x.cb]) (fun x=>f.count-x.i) ⟨0,cd,cj,cs,cx,cb,{W with α:=α1},r⟩
  ⟨AS _,cm,cu.weak (AS _) (AG _),cv.trans (hg.cons _),cz,cw⟩ (body:= ?_)
 rintro⟨i,am,bf,ab,av,aw,W2,r2⟩ ⟨hi,ax,ac,an,ah,ae⟩
 dsimp only at hi ax ac an ah ae⊢
 have ai:W2.δ.size=size:=ac.size.trans a6
 have bg:W2.α.room=room:=ac.room.trans b7
 have dl:=ac.acts.2
 obtain⟨bh,ay⟩:=a8 W2 r2 i ah
 have dz:aAb size f.width i≤aAb size f.width f.count:=aAm hi
 have d0:i*Z.κ≤f.count*Z.κ:=A7 _ hi
 have hz:tv T5.zero= .agg #[.int .i64 T5.zero.c0,.int .i64 T5.zero.c1,.int .i64 T5.zero.c2,.int .i64 T5.zero.c3,.int .i64 T5.zero.c4]:=rfl
 by_cases az:i<f.count
 ·have bi:ts[i]? =some ts[i]:=AE oM
  have bk:=aJt bw bd ba bs W2 am bf ab ax bx f ts Lv (by rw[ai];exact bh) ay g _ an i av aw ae _ bi oM
  have c5:tv ts[i]= .agg #[.int .i64 (ts[i]).c0,.int .i64 (ts[i]).c1,.int .i64 (ts[i]).c2,.int .i64 (ts[i]).c3,.int .i64 (ts[i]).c4]:=rfl
  rw[c5,hz,ai] at bk
  have c6:=fun W cd ca cs=>a7 (g::aa) W cd ca cs r2 i ts[i]
  generalize ht:ts[i]=t at*
  have bo:tv t= .agg #[.int .i64 t.c0,.int .i64 t.c1,.int .i64 t.c2,.int .i64 t.c3,.int .i64 t.c4]:=rfl
  have d1:aAb size f.width (i+1)≤aAb size f.width f.count:=aAm az
  have d2:aAb size f.width i≤aAb size f.width (i+1):=aAm oM
  have dm:(i+1)*Z.κ=i*Z.κ+Z.κ:=BG _ _
  have dp:(i+1)*Z.κ≤f.count*Z.κ:=A7 _ az
  repeat(refine st ?_;intros)
  refine R.call (hct:=bk) (h:= ?_)
  rintro _ _ ⟨a0,a1,W3,ao,a2,rfl,bp,ag,c7,bq,bu,⟨rfl,bv,c8⟩|⟨rfl,c9,da,db,dc⟩⟩
  try dsimp only[AA,AB]
  ·have dd:Z.J W3 r2 i:=hZ.stay _ _ _ _ ah ag.size c7 bq bu ag.fault
   have dq:=ag.acts.2
   have de:W3.α.gs.Perm (Z.own r2++(g::aa)):=by rw[bv];exact an.trans B4.symm
   have hS:=c6 W3 a0 a1 ab bp de (by rw[bv];exact bg) (ag.size.trans ai) dd bi oM
   rw[bo] at hS
   repeat(refine st ?_;intros)
   apply R.callV
   ·exact rfl
   ·exact a9
   ·exact rfl
   ·exact hS
   ·exact oA1
   ·exact rfl
   ·exact nle rfl
   rintro _ _ ⟨ap,bz,aq,W4,r4,e,rfl,rfl,b1,b2,df,dg,dh⟩
   dsimp only[AA,AB]
   have b3:aGt bw bx W4 f ts g (i+1) ao a2:=c8.move b2.size
   have au:=(ac.trans ag).trans b2
   have b5:W4.α.gs.Perm (g::(Z.own r4++aa)):=df.trans B4
   by_cases he:e=0
   ·subst he
    repeat(refine st ?_;intros)
    refine Dn.round ⟨i+1,ap,bz,aq,ao,a2,W4,r4⟩ ⟨az,b1,au.weak oD (AG _),b5,dg rfl,b3⟩ oD
   ·repeat(refine st ?_;intros)
    have aj:=aDn bw bd ba bs W4 ap bz aq b1 bx f ts g _ b5 (i+1) ao a2 b3
    refine Go.SL.Lv.call (hc:=aj.2) (h:= ?_)
    rintro _ _ ⟨ak,α5,di,rfl,rfl,a3,a4,a5,dj⟩
    try dsimp only[AA,AB]
    (refine Go.SL.Lv.nil (Hr:=[aAi bw bd ba bs,ap,ak,aq,Z.C r4]) Tryz.results91 (hR:= ?_);exact⟨ap,ak,aq,_,r4,e,rfl,rfl,a3,(au.trans a4).weak oM (AG _),a5,fun h0=>absurd h0 he,fun _=>hZ.stayB _ _ _ _ (dh he)⟩)
  ·have dk:Z.B W3 r2 6:=hZ.flt W2 W3 r2 i ah c9 da bq bu
   repeat(refine st ?_;intros)
   have aj:=aJe bx ao dc
   refine Go.SL.Lv.call (hc:=aj.2) (h:= ?_)
   rintro _ _ ⟨rfl,rfl⟩
   try dsimp only[AA,AB]
   (refine Go.SL.Lv.nil (Hr:=[aAi bw bd ba bs,a0,a1,ab,Z.C r2]) Tryz.results91 (hR:= ?_);exact⟨a0,a1,ab,W3,r2,6,rfl,rfl,bp,(ac.trans ag).weak oM (AG _),db,fun h0=>by omega,fun _=>dk⟩)
 ·obtain rfl:i=f.count:=by omega
  have b6:=aGf bw bx W2 f ts g av aw ae
  rw[hz] at b6
  repeat(refine st ?_;intros)
  refine R.call (hct:=b6) (h:= ?_)
  rintro _ _ ⟨rfl,rfl⟩
  try dsimp only[AA,AB]
  repeat(refine st ?_;intros)
  have aj:=aDn bw bd ba bs W2 am bf ab ax bx f ts g _ an f.count av aw ae
  refine Go.SL.Lv.call (hc:=aj.2) (h:= ?_)
  rintro _ _ ⟨ak,α5,di,rfl,rfl,a3,a4,a5,dj⟩
  try dsimp only[AA,AB]
  (refine Go.SL.Lv.nil (Hr:=[aAi bw bd ba bs,am,ak,ab,Z.C r2]) Tryz.results91 (hR:= ?_);exact⟨am,ak,ab,_,r2,0,rfl,rfl,a3,(ac.trans a4).weak oM (AG _),a5,fun _=>hZ.stay _ _ _ _ ah rfl rfl rfl rfl id,fun h0=>absurd rfl h0⟩)
def aPd (bx:Nat):Value:= .func (.func 92) #[pv bx] #[]
def bGw (bx kk:Nat) (Pst:List T5→aAc→Prop) (Br:aAc→Prop) (bnd:Nat):Prop:=
 ∀ps X t,Pst ps X→okT kk t→ps.length<bnd→Ct AC 92 [pv bx,tv t] [X] fun v H'=>
  ∃X',H'=[X']∧((v= .int .i64 0∧Pst (ps++[t]) X')∨(v= .int .i64 6∧Br X'))
structure aAt (K:Type) where
 C:K→Hp
 outs:K→T5→List T5
 next:K→T5→K
 err:K→T5→Option Nat
def aFt {K:Type} (M:aAt K) (kk:Nat) (ok:K→T5→Prop) (mk:Nat) (fs us:List Value):Prop:=
 ∀bx Pst Br bnd,bGw bx kk Pst Br bnd→∀ps X k t,Pst ps X→ok k t→ps.length+(M.outs k t).length≤bnd→
  Ct AC mk (fs++[tv t,aPd bx]++us) (X::M.C k) fun v H'=>∃X' k',H'=X'::M.C k'∧
   ((v= .int .i64 0∧M.err k t=none∧k'=M.next k t∧Pst (ps++M.outs k t) X')∨(v= .int .i64 6∧Br X')∨
    (∃n:Nat,M.err k t=some n∧n≠0∧v= .int .i64 (n:Int)∧∃aa,Pst aa X'))
namespace aAt
variable {K:Type} (M:aAt K)
def st:K→List T5→K
 |k,[]=>k
 |k,t::ts=>st (M.next k t) ts
def all:K→List T5→List T5
 |_,[]=>[]
 |k,t::ts=>M.outs k t++all (M.next k t) ts
def bad:K→List T5→Option Nat
 |_,[]=>none
 |k,t::ts=>match M.err k t with
  |some n=>some n
  |none=>bad (M.next k t) ts
def oks (ok:K→T5→Prop):K→List T5→Prop
 |_,[]=>True
 |k,t::ts=>ok k t∧(M.err k t=none→oks ok (M.next k t) ts)
variable {M}
theorem st_app:∀(a b:List T5) (k:K),M.st k (a++b)=M.st (M.st k a) b
 |[],_,_=>rfl
 |t::a,b,k=>st_app a b (M.next k t)
theorem all_app:∀(a b:List T5) (k:K),M.all k (a++b)=M.all k a++M.all (M.st k a) b
 |[],_,_=>rfl
 |t::a,b,k=>by simp only[AA,all,st,all_app a b,List.append_assoc]
theorem bad_app:∀(a b:List T5) (k:K),M.bad k (a++b)=(match M.bad k a with|some n=>some n|none=>M.bad (M.st k a) b)
 |[],_,_=>rfl
 |t::a,b,k=>by
  simp only[AA,bad,st]
  cases M.err k t with
  |some n=>rfl
  |none=>exact bad_app a b _
theorem oks_at {ok:K→T5→Prop}:∀{ts:List T5} {k:K} {i:Nat} {t:T5},M.oks ok k ts→M.bad k (ts.take i)=none→ts[i]? =some t→ok (M.st k (ts.take i)) t
 |[],_,_,_,_,_,h=>by simp at h
 |t::ts,k,0,u,h,_,h2=>by simp only[List.getElem?_cons_zero,BA] at h2;subst h2;exact h.1
 |t::ts,k,i+1,u,h,hb,h2=>by
  simp only[List.take_succ_cons,bad] at hb
  cases he:M.err k t with
  |some n=>rw[he] at hb;cases hb
  |none=>
   rw[he] at hb
   exact oks_at (ts:=ts) (h.2 he) hb (by simpa using h2)
theorem take_succ {ts:List T5} {i:Nat} {t:T5} (h:ts[i]? =some t):ts.take (i+1)=ts.take i++[t]:=by rw[BP,h];rfl
theorem all_le {ts:List T5} {k:K} (i:Nat):(M.all k (ts.take i)).length≤(M.all k ts).length:=by
 have:=congrArg List.length (all_app (M:=M) (ts.take i) (ts.drop i) k)
 rw[BV,AF] at this
 omega
theorem bad_take {ts:List T5} {k:K} {i n:Nat} (h:M.bad k (ts.take i)=some n):M.bad k ts=some n:=by
 have:=bad_app (M:=M) (ts.take i) (ts.drop i) k
 rw[BV,h] at this
 exact this
theorem oks_app {ok:K→T5→Prop}:∀{a b:List T5} {k:K},M.oks ok k (a++b)→M.oks ok k a∧(M.bad k a=none→M.oks ok (M.st k a) b)
 |[],_,_,h=>⟨trivial,fun _=>h⟩
 |t::a,b,k,h=>by
  refine⟨⟨h.1,fun he=>(oks_app (h.2 he)).1⟩,fun hb=> ?_⟩
  simp only[bad] at hb
  cases he:M.err k t with
  |some n=>rw[he] at hb;cases hb
  |none=>rw[he] at hb;exact(oks_app (h.2 he)).2 hb
theorem all_len {n:Nat} (h:∀k t,(M.outs k t).length≤n):∀(ts:List T5) (k:K),(M.all k ts).length≤ts.length*n
 |[],_=>AS _
 |t::ts,k=>by
  have h1:=h k t
  have h2:=all_len h ts (M.next k t)
  simp only[all,AF,List.length_cons,BG]
  omega
end aAt
theorem bGx (X:aAc) (H:Hp):(X::H).flatten.Perm ([X,H.flatten].flatten):=by simp
def aVz (bm bx2:Nat) (mk:Nat) (fs us:List Value) (bx:Nat):Hp:=[[(bm,row [.func (.func mk) fs.toArray us.toArray] 91)],[(bx2,row [pv bx] 122)]]
theorem bQh {K:Type} (M:aAt K) (kk:Nat) (ok:K→T5→Prop) (mk:Nat) (aa:Callable AC mk) (fs us:List Value) (hM:aFt M kk ok mk fs us) (bm bx2 bx:Nat) (Pst:List T5→aAc→Prop) (Br:aAc→Prop) (bnd:Nat) (hP:bGw bx kk Pst Br bnd)
  (ps:List T5) (X:aAc) (k:K) (t:T5) (hX:Pst ps X) (hk:ok k t) (hb:ps.length+(M.outs k t).length≤bnd):
  Ct AC 171 [tv t,pv bm,pv bx2] [[(bm,row [.func (.func mk) fs.toArray us.toArray] 91)],[(bx2,row [pv bx] 122)],X,(M.C k).flatten] fun v H'=>
   ∃X' k',H'=[[(bm,row [.func (.func mk) fs.toArray us.toArray] 91)],[(bx2,row [pv bx] 122)],X',(M.C k').flatten]∧
   ((v= .int .i64 0∧M.err k t=none∧k'=M.next k t∧Pst (ps++M.outs k t) X')∨(v= .int .i64 6∧Br X')∨
    (∃n:Nat,M.err k t=some n∧n≠0∧v= .int .i64 (n:Int)∧∃ps',Pst ps' X')):=by
 have hC:Ct AC mk (fs++[tv t,aPd bx]++us) [X,(M.C k).flatten] fun v H'=>∃X' k',H'=[X',(M.C k').flatten]∧
   ((v= .int .i64 0∧M.err k t=none∧k'=M.next k t∧Pst (ps++M.outs k t) X')∨(v= .int .i64 6∧Br X')∨
    (∃n:Nat,M.err k t=some n∧n≠0∧v= .int .i64 (n:Int)∧∃ps',Pst ps' X')):=by
  refine Ct.convP (hM bx Pst Br bnd hP ps X k t hX hk hb) (bGx _ _).symm ?_
  rintro v H' ⟨X',k',rfl,h⟩
  exact⟨_,⟨X',k',rfl,h⟩,bGx _ _⟩
 have ab:tv t= .agg #[.int .i64 t.c0,.int .i64 t.c1,.int .i64 t.c2,.int .i64 t.c3,.int .i64 t.c4]:=rfl
 rw[ab] at hC⊢
 unfold aPd at hC
 refine Ct.go Tryz.func171 Tryz.ntmps171 fun w0=> ?_
 repeat(refine st ?_;intros)
 apply R.callV
 ·exact rfl
 ·exact aa
 ·exact rfl
 ·exact hC
 ·exact oA1
 ·exact rfl
 ·exact nle rfl
 rintro _ _ ⟨X',k',rfl,h⟩
 dsimp only[AA,AB]
 obtain⟨e,rfl⟩:∃e:Int,_=Value.int .i64 e:=by
  rcases h with⟨e,_⟩|⟨e,_⟩|⟨n,_,_,e,_⟩
  ·exact⟨_,e⟩
  ·exact⟨_,e⟩
  ·exact⟨_,e⟩
 repeat(refine st ?_;intros)
 (refine Dn.post (Hr:=[[(bm,row [.func (.func mk) fs.toArray us.toArray] 91)],[(bx2,row [pv bx] 122)],X',(M.C k').flatten]) Tryz.results171 (hR:= ?_);exact⟨X',k',rfl,h⟩)
end Go.Proofs.YtaofijjjheiknaaGreat
namespace Go.Srt
set_option linter.unusedSectionVars false
structure Swo {α:Type} (lt:α→α→Bool):Prop where
 asym:∀a b,lt a b=true→lt b a=false
 ntrans:∀a b c,lt a b=false→lt b c=false→lt a c=false
variable {α:Type} {lt:α→α→Bool}
theorem Swo.irr (h:Swo lt) (a:α):lt a a=false:=by
 cases hl:lt a a with
 |false=>rfl
 |true=>have:=h.asym a a hl;rw[hl] at this;cases this
def eqv (lt:α→α→Bool) (a b:α):Bool:= !lt a b&& !lt b a
theorem aCv {a b:α}:eqv lt a b=true↔lt a b=false∧lt b a=false:=by simp[eqv]
theorem aKw (h:Swo lt) (a:α):eqv lt a a=true:=aCv.2 ⟨h.irr a,h.irr a⟩
theorem aNs {a b:α} (h:eqv lt a b=true):eqv lt b a=true:=aCv.2 ⟨(aCv.1 h).2,(aCv.1 h).1⟩
theorem aKx (h:Swo lt) {a b c:α} (h1:eqv lt a b=true) (h2:eqv lt b c=true):eqv lt a c=true:=
 aCv.2 ⟨h.ntrans _ _ _ (aCv.1 h1).1 (aCv.1 h2).1,h.ntrans _ _ _ (aCv.1 h2).2 (aCv.1 h1).2⟩
def aGz (once:Bool) (l:List α):List α:=if once then l.take 1 else l
def Sd (lt:α→α→Bool) (once:Bool) (l:List α):Prop:=l.Pairwise fun a b=>if once then lt a b=true else lt b a=false
def Sp (lt:α→α→Bool) (once:Bool) (l1 l2:List α):Prop:=∀x,aGz once (l1.filter (eqv lt x))=aGz once (l2.filter (eqv lt x))
theorem Sp.refl (once:Bool) (l:List α):Sp lt once l l:=fun _=>rfl
theorem Sp.symm {once:Bool} {l1 l2:List α} (h:Sp lt once l1 l2):Sp lt once l2 l1:=fun x=>(h x).symm
theorem Sp.trans {once:Bool} {l1 l2 l3:List α} (h:Sp lt once l1 l2) (h2:Sp lt once l2 l3):Sp lt once l1 l3:=fun x=>(h x).trans (h2 x)
theorem aWa (once:Bool) (a b:List α):aGz once (a++b)=aGz once (aGz once a++aGz once b):=by
 cases once with
 |false=>rfl
 |true=>
  simp only[aGz,if_true]
  cases a with
  |nil=>cases b<;>simp
  |cons x a=>simp
theorem Sp.app {once:Bool} {a b c d:List α} (h1:Sp lt once a b) (h2:Sp lt once c d):Sp lt once (a++c) (b++d):=fun x=>by
 rw[List.filter_append,List.filter_append,aWa,h1 x,h2 x,←aWa]
theorem Sp.once_of {once:Bool} {a b:List α} (h:Sp lt false a b):Sp lt once a b:=fun x=>by
 have:=h x
 simp only[aGz] at this
 simp only[Bool.false_eq_true,if_false] at this
 rw[this]
theorem Sp.swap (h:Swo lt) {once:Bool} {v x:List α} (hx:∀b∈x,∀a∈v,lt b a=true):Sp lt once (v++x) (x++v):=fun c=>by
 rw[List.filter_append,List.filter_append]
 by_cases hv:v.filter (eqv lt c)=[]
 ·rw[hv];simp
 ·have:x.filter (eqv lt c)=[]:=by
   rw[List.filter_eq_nil_iff]
   intro b hb aa
   obtain⟨a,ha⟩:=List.exists_mem_of_ne_nil _ hv
   obtain⟨ab,ac⟩:=List.mem_filter.1 ha
   have h1:=aKx h (aNs aa) ac
   have h2:=hx b hb a ab
   rw[(aCv.1 h1).1] at h2;cases h2
  rw[this];simp
theorem bBo (h:Swo lt) {once:Bool} {l:List α} (hs:Sd lt once l) (x:α):aGz once (l.filter (eqv lt x))=l.filter (eqv lt x):=by
 cases once with
 |false=>rfl
 |true=>
  have:(l.filter (eqv lt x)).Pairwise fun a b=>lt a b=true:=by
   have:=hs.sublist (List.filter_sublist (p:=eqv lt x))
   simpa using this
  have hm:∀a∈l.filter (eqv lt x),eqv lt x a=true:=fun a ha=>(List.mem_filter.1 ha).2
  simp only[aGz,if_true]
  revert this hm
  generalize l.filter (eqv lt x)=m
  intro h1 h2
  match m,h1,h2 with
  |[],_,_=>rfl
  |[_],_,_=>rfl
  |a::b::m,h1,h2=>
   exfalso
   have h3:=List.rel_of_pairwise_cons h1 (List.mem_cons_self (a:=b) (l:=m))
   have h4:=aKx h (aNs (h2 a oA15)) (h2 b oA15)
   rw[(aCv.1 h4).1] at h3;cases h3
theorem Sd.weak (h:Swo lt) {once:Bool} {l:List α} (hs:Sd lt once l):Sd lt false l:=by
 cases once with
 |false=>exact hs
 |true=>exact List.Pairwise.imp (fun {a b} aa=>by simpa using h.asym a b (by simpa using aa)) hs
theorem bOk (h:Swo lt):∀{l1 l2:List α},Sd lt false l1→Sd lt false l2→Sp lt false l1 l2→l1=l2
 |[],[],_,_,_=>rfl
 |[],b::l2,_,_,hp=>by have:=hp b;simp[aGz,aKw h] at this
 |a::l1,[],_,_,hp=>by have:=hp a;simp[aGz,aKw h] at this
 |a::l1,b::l2,h1,h2,hp=>by
  have aa:∀x,(a::l1).filter (eqv lt x)=(b::l2).filter (eqv lt x):=fun x=>by have:=hp x;simpa[aGz] using this
  have mem:∀x,x∈a::l1↔x∈b::l2:=fun x=>by
   have e:=aa x
   constructor
   ·intro hm
    exact(List.mem_filter.1 (e▸List.mem_filter.2 ⟨hm,aKw h x⟩)).1
   ·intro hm
    exact(List.mem_filter.1 (e.symm▸List.mem_filter.2 ⟨hm,aKw h x⟩)).1
  have ab:lt b a=false:=by
   rcases List.mem_cons.1 ((mem b).2 List.mem_cons_self) with rfl|hm
   ·exact h.irr _
   ·simpa using List.rel_of_pairwise_cons h1 hm
  have ac:lt a b=false:=by
   rcases List.mem_cons.1 ((mem a).1 List.mem_cons_self) with rfl|hm
   ·exact h.irr _
   ·simpa using List.rel_of_pairwise_cons h2 hm
  have e1:eqv lt a b=true:=aCv.2 ⟨ac,ab⟩
  have e:=aa a
  simp only[List.filter_cons,aKw h,e1,if_true,List.cons.injEq] at e
  obtain⟨rfl,_⟩:=e
  congr 1
  refine bOk h (List.Pairwise.of_cons h1) (List.Pairwise.of_cons h2) fun x=> ?_
  have:=aa x
  simp only[List.filter_cons] at this
  simp only[aGz,Bool.false_eq_true,if_false]
  split at this
  ·exact(List.cons.inj this).2
  ·exact this
theorem bQi (h:Swo lt) {once:Bool} {l1 l2:List α} (h1:Sd lt once l1) (h2:Sd lt once l2) (hp:Sp lt once l1 l2):l1=l2:=
 bOk h (h1.weak h) (h2.weak h) fun x=>by
  have:=hp x
  rw[bBo h h1,bBo h h2] at this
  simpa[aGz] using this
variable [Inhabited α]
def sw (l:List α) (i j:Nat):List α:=(l.set i (l.getD j default)).set j (l.getD i default)
@[simp] theorem aPe (l:List α) (i j:Nat):(sw l i j).length=l.length:=by simp[sw]
theorem aSt (P S:List α) (i:Nat) (h:i<P.length):(P++S).getD i default=P.getD i default:=by
 simp[List.getD_eq_getElem?_getD,List.getElem?_append_left h]
theorem aQv (P S:List α) (i:Nat) (h:P.length≤i):(P++S).getD i default=S.getD (i-P.length) default:=by
 simp[List.getD_eq_getElem?_getD,List.getElem?_append_right h]
abbrev at_ (l:List α) (k:Nat):α:=l.getD k default
theorem aKe (l:List α) (i j k:Nat) (hi:i<l.length) (hj:j<l.length):at_ (sw l i j) k=if k=j then at_ l i else if k=i then at_ l j else at_ l k:=by
 unfold sw at_
 simp only[List.getD_eq_getElem?_getD,List.getElem?_set,List.length_set]
 by_cases h1:k=j
 ·subst h1;simp[hj]
 ·rw[if_neg (fun e=>h1 e.symm),if_neg h1]
  by_cases h2:k=i
  ·subst h2;simp[hi]
  ·rw[if_neg (fun e=>h2 e.symm),if_neg h2]
theorem bOl {l1 l2:List α} (hl:l1.length=l2.length) (h:∀k,at_ l1 k=at_ l2 k):l1=l2:=by
 apply List.ext_getElem hl
 intro k h1 h2
 have:=h k
 simpa[at_,List.getD_eq_getElem?_getD,h1,h2] using this
def aHq (l:List α) (a m b k:Nat):α:=if a≤k∧k<a+(b-m) then at_ l (k+(m-a)) else if a+(b-m)≤k∧k<b then at_ l (k-(b-m)) else at_ l k
def bFk (l:List α) (a b n k:Nat):α:=if a≤k∧k<a+n then at_ l (k+(b-a)) else if b≤k∧k<b+n then at_ l (k-(b-a)) else at_ l k
theorem bLs {l c:List α} {a b n i:Nat} (aa:a+n≤b) (hn:b+n≤l.length) (hc:c.length=l.length) (h:∀k,at_ c k=bFk l a b i k) (hi:i<n):∀k,at_ (sw c (a+i) (b+i)) k=bFk l a b (i+1) k:=by
 intro k
 rw[aKe _ _ _ _ oM oM]
 simp only[h,bFk]
 (repeat' split)<;>first|rfl|(exfalso;omega)|(congr 1;omega)
theorem bGy {c c':List α} {m i j:Nat} (hi:i≤m) (aa:j<i) (h:∀k,at_ c' k=bFk c (m-i) m j k):∀k,aHq c' (m-(i-j)) m (m+j) k=aHq c (m-i) m (m+j) k:=by
 intro k
 simp only[aHq,h,bFk]
 (repeat' split)<;>first|rfl|(exfalso;omega)|(congr 1;omega)
theorem bGz {c c':List α} {m i j:Nat} (hi:i≤m) (aa:i<j) (h:∀k,at_ c' k=bFk c (m-i) (m+j-i) i k):∀k,aHq c' (m-i) m (m+(j-i)) k=aHq c (m-i) m (m+j) k:=by
 intro k
 simp only[aHq,h,bFk]
 (repeat' split)<;>first|rfl|(exfalso;omega)|(congr 1;omega)
theorem bLt {c c':List α} {m i:Nat} (hi:i≤m) (h:∀k,at_ c' k=bFk c (m-i) m i k):∀k,at_ c' k=aHq c (m-i) m (m+i) k:=by
 intro k
 simp only[aHq,h,bFk]
 (repeat' split)<;>first|rfl|(exfalso;omega)|(congr 1;omega)
theorem bBp (l:List α) {a m b:Nat} (h:a=m∨m=b) (h1:a≤m) (h2:m≤b):∀k,aHq l a m b k=at_ l k:=by
 intro k
 simp only[aHq]
 split
 ·congr 1;omega
 ·split
  ·congr 1;omega
  ·rfl
theorem aWb {l:List α} {a n:Nat} {x:α} (h:x∈(l.drop a).take n):∃k,a≤k∧k<a+n∧x=at_ l k:=by
 obtain⟨i,hi⟩:=List.getElem?_of_mem h
 rw[List.getElem?_take] at hi
 split at hi
 ·rename_i aa
  rw[List.getElem?_drop] at hi
  exact⟨a+i,oM,oM,by simp[at_,List.getD_eq_getElem?_getD,hi]⟩
 ·cases hi
theorem bBq (l:List α) (a n k:Nat) (h:k<n):at_ ((l.drop a).take n) k=at_ l (a+k):=by
 simp[at_,List.getD_eq_getElem?_getD,List.getElem?_take,h]
theorem aWc (P S:List α) (k:Nat):at_ (P++S) k=if k<P.length then at_ P k else at_ S (k-P.length):=by
 split
 ·exact aSt P S k oA13
 ·exact aQv P S k oM
theorem cut4 (l:List α) {a m b:Nat} (h1:a≤m) (h2:m≤b) (hb:b≤l.length):l=l.take a++((l.drop a).take (m-a)++((l.drop m).take (b-m)++l.drop b)):=by
 have e1:(l.drop m).take (b-m)++l.drop b=l.drop m:=by
  have:=List.take_append_drop (b-m) (l.drop m)
  rwa[List.drop_drop,show m+(b-m)=b by omega] at this
 have e2:(l.drop a).take (m-a)++l.drop m=l.drop a:=by
  have:=List.take_append_drop (m-a) (l.drop a)
  rwa[List.drop_drop,show a+(m-a)=m by omega] at this
 rw[e1,e2,List.take_append_drop]
theorem rot_eq {l l':List α} {a m b:Nat} (h1:a≤m) (h2:m≤b) (hb:b≤l.length) (hl:l'.length=l.length) (hr:∀k,at_ l' k=aHq l a m b k):
  l'=l.take a++((l.drop m).take (b-m)++((l.drop a).take (m-a)++l.drop b)):=by
 apply bOl
 ·simp;omega
 ·intro k
  rw[hr,aWc,aWc,aWc]
  simp only[aHq,List.length_take,List.length_drop]
  have e1:min a l.length=a:=oM
  have e2:min (b-m) (l.length-m)=b-m:=oM
  have e3:min (m-a) (l.length-a)=m-a:=oM
  rw[e1,e2,e3]
  by_cases k1:k<a
  ·rw[if_neg oM,if_neg oM,if_pos k1]
   simp[at_,List.getD_eq_getElem?_getD,List.getElem?_take,k1]
  ·rw[if_neg k1]
   by_cases k2:k-a<b-m
   ·rw[if_pos oM,if_pos k2,bBq _ _ _ _ k2]
    congr 1;omega
   ·rw[if_neg k2,if_neg oM]
    by_cases k3:k-a-(b-m)<m-a
    ·rw[if_pos oM,if_pos k3,bBq _ _ _ _ k3]
     congr 1;omega
    ·rw[if_neg oM,if_neg k3]
     simp[at_,List.getD_eq_getElem?_getD]
     congr 2;omega
theorem bOm (h:Swo lt) {l l':List α} {a m b:Nat} (h1:a≤m) (h2:m≤b) (hb:b≤l.length) (hl:l'.length=l.length) (hr:∀k,at_ l' k=aHq l a m b k)
  (hc:∀i j,a≤i→i<m→m≤j→j<b→lt (at_ l j) (at_ l i)=true):Sp lt false l l':=by
 rw[rot_eq h1 h2 hb hl hr]
 conv=>lhs;rw[cut4 l h1 h2 hb]
 refine Sp.app (Sp.refl _ _) ?_
 rw[←List.append_assoc,←List.append_assoc]
 refine Sp.app (Sp.swap h ?_) (Sp.refl _ _)
 intro x hx v hv
 obtain⟨j,j1,j2,rfl⟩:=aWb hx
 obtain⟨i,i1,i2,rfl⟩:=aWb hv
 exact hc i j i1 oM j1 oM
def Seg (lt:α→α→Bool) (l:List α) (a b:Nat):Prop:=∀i j,a≤i→i<j→j<b→lt (at_ l j) (at_ l i)=false
def Ins (l l':List α) (a b:Nat):Prop:=(∀k,a≤k→k<b→∃k',a≤k'∧k'<b∧at_ l' k=at_ l k')∧(∀k,k<a∨b≤k→at_ l' k=at_ l k)∧l'.length=l.length
theorem Ins.refl (l:List α) (a b:Nat):Ins l l a b:=⟨fun k h1 h2=>⟨k,h1,h2,rfl⟩,fun _ _=>rfl,rfl⟩
theorem Ins.trans {l1 l2 l3:List α} {a b:Nat} (h:Ins l1 l2 a b) (h2:Ins l2 l3 a b):Ins l1 l3 a b:=
 ⟨fun k k1 k2=>by
  obtain⟨k',e1,e2,e3⟩:=h2.1 k k1 k2
  obtain⟨aa,f1,f2,f3⟩:=h.1 k' e1 e2
  exact⟨aa,f1,f2,e3.trans f3⟩,fun k hk=>(h2.2.1 k hk).trans (h.2.1 k hk),h2.2.2.trans h.2.2⟩
theorem Ins.wide {l l':List α} {a b c d:Nat} (h:Ins l l' a b) (h1:c≤a) (h2:b≤d):Ins l l' c d:=
 ⟨fun k k1 k2=>by
  by_cases hk:a≤k∧k<b
  ·obtain⟨k',e1,e2,e3⟩:=h.1 k hk.1 hk.2
   exact⟨k',oM,oM,e3⟩
  ·exact⟨k,k1,k2,h.2.1 k oM⟩,fun k hk=>h.2.1 k oM,h.2.2⟩
theorem Ins.rot {l l':List α} {a m b:Nat} (h1:a≤m) (h2:m≤b) (hl:l'.length=l.length) (hr:∀k,at_ l' k=aHq l a m b k):Ins l l' a b:=by
 refine⟨fun k k1 k2=> ?_,fun k hk=> ?_,hl⟩
 ·rw[hr];unfold aHq
  split
  ·exact⟨_,oM,oM,rfl⟩
  ·split
   ·exact⟨_,oM,oM,rfl⟩
   ·exact⟨k,k1,k2,rfl⟩
 ·rw[hr];unfold aHq
  rw[if_neg oM,if_neg oM]
theorem Seg.out {l l':List α} {a b c d:Nat} (h:Seg lt l c d) (hi:Ins l l' a b) (hd:d≤a∨b≤c):Seg lt l' c d:=fun i j h1 h2 h3=>by
 rw[hi.2.1 i oM,hi.2.1 j oM]
 exact h i j h1 h2 h3
theorem bHa (h:Swo lt) {l l1:List α} {a m b mid n start e ad aa:Nat} (ak:a<m) (al:m<b)
  (s1:Seg lt l a m) (s2:Seg lt l m b) (ah:mid=(a+b)/2) (hn:n=mid+m) (he:e=n-start)
  (ac:ad=if mid<m then n-b else a) (ab:aa=if mid<m then mid else m) (aj:ad≤start) (ai:start≤aa)
  (f1:start=ad∨lt (at_ l (n-start)) (at_ l (start-1))=false) (f2:start=aa∨lt (at_ l (n-1-start)) (at_ l start)=true)
  (hr:∀k,at_ l1 k=aHq l start m e k):
  (∀i j,start≤i→i<m→m≤j→j<e→lt (at_ l j) (at_ l i)=true)∧
  (Seg lt l1 a start∧Seg lt l1 start mid∧Seg lt l1 mid e∧Seg lt l1 e b)∧
  (∀i j,a≤i→i<mid→mid≤j→j<b→lt (at_ l1 j) (at_ l1 i)=false)∧a≤start∧start≤m∧m≤e∧e≤b∧start≤mid∧mid≤e:=by
 have ag:a≤start∧start≤m∧m≤e∧e≤b∧start≤mid∧mid≤e∧mid-start=e-m:=by
  split at ac<;>split at ab<;>omega
 obtain⟨b1,b2,b3,b4,b5,b6,b7⟩:=ag
 have ae:∀i j,start≤i→i<m→m≤j→j<e→lt (at_ l j) (at_ l i)=true:=by
  intro i j i1 i2 j1 j2
  rcases f2 with f2|f2
  ·exfalso
   split at ab<;>omega
  ·rw[show n-1-start=e-1 by omega] at f2
   cases hlt:lt (at_ l j) (at_ l i) with
   |true=>rfl
   |false=>
    exfalso
    have g1:lt (at_ l (e-1)) (at_ l j)=false:=by
     by_cases hj:j=e-1
     ·subst hj;exact h.irr _
     ·exact s2 j (e-1) j1 oM oM
    have g2:lt (at_ l i) (at_ l start)=false:=by
     by_cases hj:i=start
     ·subst hj;exact h.irr _
     ·exact s1 start i b1 oM i2
    have:=h.ntrans _ _ _ g1 (h.ntrans _ _ _ hlt g2)
    rw[f2] at this;cases this
 have r1:∀k,k<start→at_ l1 k=at_ l k:=fun k hk=>by rw[hr,aHq,if_neg oM,if_neg oM]
 have r2:∀k,start≤k→k<mid→at_ l1 k=at_ l (k+(m-start)):=fun k h1 h2=>by rw[hr,aHq,if_pos oM]
 have r3:∀k,mid≤k→k<e→at_ l1 k=at_ l (k-(e-m)):=fun k h1 h2=>by rw[hr,aHq,if_neg oM,if_pos oM]
 have r4:∀k,e≤k→at_ l1 k=at_ l k:=fun k hk=>by rw[hr,aHq,if_neg oM,if_neg oM]
 refine⟨ae,⟨?_,?_,?_,?_⟩,?_,b1,b2,b3,b4,b5,b6⟩
 ·intro i j i1 i2 i3
  rw[r1 i oM,r1 j i3]
  exact s1 i j i1 i2 oM
 ·intro i j i1 i2 i3
  rw[r2 i i1 oM,r2 j oM i3]
  exact s2 _ _ oM oM oM
 ·intro i j i1 i2 i3
  rw[r3 i i1 oM,r3 j oM i3]
  exact s1 _ _ oM oM oM
 ·intro i j i1 i2 i3
  rw[r4 i i1,r4 j oM]
  exact s2 _ _ oM oM oM
 ·intro i j i1 i2 j1 j2
  by_cases hi:i<start
  ·rw[r1 i hi]
   by_cases hj:j<e
   ·rw[r3 j j1 hj]
    exact s1 _ _ i1 oM oM
   ·rw[r4 j oM]
    rcases f1 with f1|f1
    ·exfalso
     split at ac<;>omega
    ·rw[←he] at f1
     have g1:lt (at_ l (start-1)) (at_ l i)=false:=by
      by_cases hh:i=start-1
      ·subst hh;exact h.irr _
      ·exact s1 _ _ i1 oM oM
     have g2:lt (at_ l j) (at_ l e)=false:=by
      by_cases hh:j=e
      ·subst hh;exact h.irr _
      ·exact s2 _ _ oM oM oM
     exact h.ntrans _ _ _ g2 (h.ntrans _ _ _ f1 g1)
  ·rw[r2 i oM i2]
   by_cases hj:j<e
   ·rw[r3 j j1 hj]
    exact h.asym _ _ (ae _ _ oM oM oM oM)
   ·rw[r4 j oM]
    exact s2 _ _ oM oM oM
theorem aSu {l:List α} {a mid b:Nat} (h1:Seg lt l a mid) (h2:Seg lt l mid b) (hc:∀i j,a≤i→i<mid→mid≤j→j<b→lt (at_ l j) (at_ l i)=false):Seg lt l a b:=by
 intro i j i1 i2 i3
 by_cases hi:j<mid
 ·exact h1 i j i1 i2 hi
 ·by_cases hj:i<mid
  ·exact hc i j i1 hj oM i3
  ·exact h2 i j oM i2 i3
theorem bDz {l l':List α} {a mid b:Nat} (hc:∀i j,a≤i→i<mid→mid≤j→j<b→lt (at_ l j) (at_ l i)=false) (h:Ins l l' a mid):
  ∀i j,a≤i→i<mid→mid≤j→j<b→lt (at_ l' j) (at_ l' i)=false:=by
 intro i j i1 i2 j1 j2
 obtain⟨k,k1,k2,k3⟩:=h.1 i i1 i2
 rw[k3,h.2.1 j oM]
 exact hc k j k1 k2 j1 j2
theorem aYu {l l':List α} {a mid b:Nat} (hc:∀i j,a≤i→i<mid→mid≤j→j<b→lt (at_ l j) (at_ l i)=false) (h:Ins l l' mid b):
  ∀i j,a≤i→i<mid→mid≤j→j<b→lt (at_ l' j) (at_ l' i)=false:=by
 intro i j i1 i2 j1 j2
 obtain⟨k,k1,k2,k3⟩:=h.1 j j1 j2
 rw[k3,h.2.1 i oM]
 exact hc i k i1 i2 k1 k2
theorem sw_sp (h:Swo lt) {l:List α} {j:Nat} (hj:0<j) (hl:j<l.length) (aa:lt (at_ l j) (at_ l (j-1))=true):Sp lt false l (sw l j (j-1)):=by
 refine bOm h (a:=j-1) (m:=j) (b:=j+1) oM oM oM oA15 ?_ ?_
 ·intro k
  rw[aKe _ _ _ _ oM oM]
  unfold aHq
  by_cases h1:k=j-1
  ·rw[if_pos h1,if_pos oM];congr 1;omega
  ·rw[if_neg h1]
   by_cases h2:k=j
   ·rw[if_pos h2,if_neg oM,if_pos oM];congr 1;omega
   ·rw[if_neg h2,if_neg oM,if_neg oM]
 ·intro i k i1 i2 k1 k2
  rw[show i=j-1 by omega,show k=j by omega];exact aa
theorem sw_ins {l:List α} {i j a b:Nat} (hi:a≤i∧i<b) (hj:a≤j∧j<b) (hb:b≤l.length):Ins l (sw l i j) a b:=by
 refine⟨fun k k1 k2=> ?_,fun k hk=> ?_,by simp⟩
 ·rw[aKe _ _ _ _ oM oM]
  split
  ·exact⟨i,hi.1,hi.2,rfl⟩
  ·split
   ·exact⟨j,hj.1,hj.2,rfl⟩
   ·exact⟨k,k1,k2,rfl⟩
 ·rw[aKe _ _ _ _ oM oM,if_neg oM,if_neg oM]
def bLu (lt:α→α→Bool) (l:List α) (a i j:Nat):Prop:=(∀p q,a≤p→p<q→q≤i→p≠j→q≠j→lt (at_ l q) (at_ l p)=false)∧(∀q,j<q→q≤i→lt (at_ l q) (at_ l j)=false)
theorem bLu.start {l:List α} {a i:Nat} (h:Seg lt l a i):bLu lt l a i i:=⟨fun p q h1 h2 h3 h4 h5=>h p q h1 h2 oM,fun q h1 h2=>by omega⟩
theorem bLu.step (h:Swo lt) {l:List α} {a i j:Nat} (hd:bLu lt l a i j) (ab:a<j) (ac:j≤i) (hl:i<l.length) (aa:lt (at_ l j) (at_ l (j-1))=true):bLu lt (sw l j (j-1)) a i (j-1):=by
 obtain⟨h1,h2⟩:=hd
 refine⟨fun p q p1 p2 p3 p4 p5=> ?_,fun q q1 q2=> ?_⟩
 ·rw[aKe _ _ _ _ oM oM,aKe _ _ _ _ oM oM,if_neg p5,if_neg p4]
  by_cases e1:q=j
  ·subst e1
   rw[if_pos rfl,if_neg oM]
   exact h1 p (q-1) p1 oM oM oM oM
  ·rw[if_neg e1]
   by_cases e2:p=j
   ·subst e2
    rw[if_pos rfl]
    exact h1 (p-1) q oM oM p3 oM e1
   ·rw[if_neg e2]
    exact h1 p q p1 p2 p3 e2 e1
 ·rw[aKe _ _ _ _ oM oM,aKe _ _ _ _ oM oM,if_neg oM,if_pos rfl]
  by_cases e1:q=j
  ·subst e1
   rw[if_pos rfl]
   exact h.asym _ _ aa
  ·rw[if_neg e1]
   exact h2 q oM q2
theorem bLu.stop (h:Swo lt) {l:List α} {a i j:Nat} (hd:bLu lt l a i j) (hs:j=a∨lt (at_ l j) (at_ l (j-1))=false) (aa:a≤j):Seg lt l a (i+1):=by
 obtain⟨h1,h2⟩:=hd
 intro p q p1 p2 p3
 by_cases e1:p=j
 ·subst e1;exact h2 q p2 oM
 ·by_cases e2:q=j
  ·subst e2
   rcases hs with hs|hs
   ·omega
   ·by_cases e3:p=q-1
    ·subst e3;exact hs
    ·exact h.ntrans _ _ _ hs (h1 p (q-1) p1 oM oM oM oM)
  ·exact h1 p q p1 p2 oM e1 e2
theorem seg_sd {l:List α} (h:Seg lt l 0 l.length):Sd lt false l:=by
 unfold Sd
 rw[List.pairwise_iff_getElem]
 intro i j hi hj aa
 have:=h i j oM aa hj
 simpa[at_,List.getD_eq_getElem?_getD,hi,hj] using this
end Go.Srt
namespace Go.Proofs.YtaofijjjheiknaaGreat
open Go.SL Go.Spc Go.Tup Go.Srt
instance:Inhabited T5:=⟨⟨0,0,0,0,0⟩⟩
def bOn (o:T5):List Value:=[.int .i64 o.c0,.int .i64 o.c1,.int .i64 o.c2,.int .i64 o.c3,.int .i64 o.c4]
def aCa (bb k n:Nat) (o:T5):List Value:=[pv bb,.int .i64 (k:Int),.int .i64 (n:Int),.int .i64 o.c0,.int .i64 o.c1,.int .i64 o.c2,.int .i64 o.c3,.int .i64 o.c4]
def aEz (bx:Nat) (g:Gr) (k:Nat) (o:T5) (ts:List T5) (rest:List Int):Hp:=
 [[(bx,row (aCa g.bb k ts.length o) 218)],[g.obj],[(g.br,row (aAg (aBr k ts++rest)) 174)]]
def T5.setCol (t:T5) (c:Nat) (v:Int):T5:=
 match c with
 |0=>{t with c0:=v}
 |1=>{t with c1:=v}
 |2=>{t with c2:=v}
 |3=>{t with c3:=v}
 |4=>{t with c4:=v}
 |_=>t
theorem aYv (t:T5) (c:Nat) (v:Int) (h:c<5):(T5.setCol t c v).toList=t.toList.set c v:=by
 match c,h with
 |0,_=>rfl
 |1,_=>rfl
 |2,_=>rfl
 |3,_=>rfl
 |4,_=>rfl
theorem tw_set (t:T5) (k c:Nat) (v:Int) (h:c<k) (hk:k≤5):tw k (T5.setCol t c v)=(tw k t).set c (wd v):=by
 unfold tw
 rw[aYv t c v oM,List.take_set,List.map_set]
theorem aWd (k c:Nat) (v:Int) (hc:c<k) (hk:k≤5):∀(ts:List T5) (i:Nat),i<ts.length→(aBr k ts).set (i*k+c) (wd v)=aBr k (ts.set i (T5.setCol (at_ ts i) c v))
 |[],_,h=>by simp at h
 |t::ts,0,_=>by
  simp only[aBr,A8,Nat.zero_mul,BT,List.set_cons_zero]
  rw[List.set_append_left _ _ (by rw[aCp t hk];exact hc)]
  show _=tw k (T5.setCol t c v)++_
  rw[tw_set t k c v hc hk]
 |t::ts,i+1,h=>by
  have ih:=aWd k c v hc hk ts i oA11
  simp only[aBr,A8,List.set_cons_succ] at ih⊢
  rw[List.set_append_right _ _ (by rw[aCp t hk,BG];omega),aCp t hk,show(i+1)*k+c-k=i*k+c by rw[BG];omega,ih]
  rfl
theorem aRn (k c:Nat) (hc:c<k) (hk:k≤5):∀(ts:List T5) (i:Nat),i<ts.length→(aBr k ts)[i*k+c]? =some (wd ((at_ ts i).col c))
 |[],_,h=>by simp at h
 |t::ts,0,_=>by
  simp only[aBr,A8,Nat.zero_mul,BT]
  rw[BI (by rw[aCp t hk];exact hc),bBm t k c hc hk]
  rfl
 |t::ts,i+1,h=>by
  have ih:=aRn k c hc hk ts i oA11
  simp only[aBr,A8] at ih⊢
  rw[List.getElem?_append_right (by rw[aCp t hk,BG];omega),aCp t hk,show(i+1)*k+c-k=i*k+c by rw[BG];omega,ih]
  rfl
theorem aWe {i n k c:Nat} (hi:i<n) (hc:c<k):i*k+c<n*k:=by
 have:(i+1)*k≤n*k:=A7 _ hi
 rw[BG] at this;omega
theorem bHb {k c:Nat} (hc:c<k) (hk:k≤5) {ts:List T5} {i:Nat} (hi:i<ts.length) {rest:List Int}:(aAg (aBr k ts++rest))[i*k+c]? =some (.int .u64 (wd ((at_ ts i).col c))):=by
 unfold aAg
 rw[List.getElem?_map,BI (by rw[aCh hk];exact aWe hi hc),aRn k c hc hk ts i hi]
 rfl
theorem bOo {k c:Nat} (hc:c<k) (hk:k≤5) {ts:List T5} {i:Nat} (hi:i<ts.length) {rest:List Int} (v:Int):(aAg (aBr k ts++rest)).set (i*k+c) (.int .u64 (wd v))=aAg (aBr k (ts.set i (T5.setCol (at_ ts i) c v))++rest):=by
 rw[aGw,List.set_append_left _ _ (by rw[aCh hk];exact aWe hi hc),aWd k c v hc hk ts i hi]
theorem bQj (bx:Nat) (g:Gr) (k:Nat) (o:T5) (ts:List T5) (rest:List Int) (h1:1≤k) (h2:k≤5) (hg:g.n≤1000000000) (ao:ts.length*k≤g.n) (ai:∀t∈ts,okT k t) (i:Nat) (hi:i<ts.length):
  CtQ AC 233 [pv bx,.int .i64 (i:Int)] (aEz bx g k o ts rest) (tv (at_ ts i)):=by
 have hm:at_ ts i∈ts:=by
  unfold at_;rw[AN,AE hi];exact B5 hi
 have aa:=ai _ hm
 have ab:∀c,c<k→AJ .i64 (wd ((at_ ts i).col c))=(at_ ts i).col c:=fun c hc=>aVn (bGs aa c oM)
 have aj:=aRm (at_ ts i)
 have ak:=aNa (at_ ts i)
 have ac:=aVw (at_ ts i)
 have ad:=aVx (at_ ts i) k h2 aa
 have ap:i*k≤ts.length*k:=A7 _ oM
 have am:AJ .i64 ((i:Int)*(k:Int))=((i*k:Nat):Int):=by rw[←Int.natCast_mul];exact aAd oM
 have ag:∀c,c<k→(aAg (aBr k ts++rest))[i*k+c]? =some (.int .u64 (wd ((at_ ts i).col c))):=fun c hc=>bHb hc h2 hi
 have ah:∀c,c<k→i*k+c<ts.length*k:=fun c hc=>aWe hi hc
 generalize hcells:aAg (aBr k ts++rest)=cells at*
 generalize at_ ts i=t at*
 generalize hn:ts.length=n at*
 unfold aEz aCa Gr.obj
 rw[hcells,hn]
 generalize an:i*k=ik at*
 refine Ct.go Tryz.func233 Tryz.ntmps233 fun w0=> ?_
 repeat(refine sv ?_;intros)
 rename_i b4 b5
 refine G.loop (X:=Nat) (fun c=>c≤k) (fun c=>[(11,.int .i64 (c:Int)),(10,.int .i64 (k:Int)),(0,pv bx),(1,.int .i64 (i:Int)),(5,.pointer (some ⟨b5,0,none⟩)),(4,.pointer (some ⟨b4,0,none⟩))])
  (fun c=>[[(b4,row (aIj t 0) 33)],[(b5,row (aIj t c) 33)],[(bx,row [pv g.bb,.int .i64 (k:Int),.int .i64 (n:Int),.int .i64 o.c0,.int .i64 o.c1,.int .i64 o.c2,.int .i64 o.c3,.int .i64 o.c4] 218)],[(g.bb,row [.slice (some ⟨g.br,0,none⟩) g.n g.n] 177)],[(g.br,row cells 174)]])
  (fun c=>k-c) 0 oM (body:= ?_)
 intro c hc
 by_cases ae:c<k
 ·have aq:=ag c ae
  have au:=ab c ae
  have av:=ac c oM
  have aw:=ak c oM
  have ax:=ah c ae
  have ay:((ik:Int)+(c:Int)).toNat=ik+c:=oM
  repeat(refine sv ?_;intros)
  exact Dn.round (c+1) oM oM
 ·have al:k=c:=oM
  subst al
  rw[ad,aj]
  unfold aAk
  repeat(refine sv ?_;intros)
  (refine Dn.post (Hr:=[[(bx,row [pv g.bb,.int .i64 (k:Int),.int .i64 (n:Int),.int .i64 o.c0,.int .i64 o.c1,.int .i64 o.c2,.int .i64 o.c3,.int .i64 o.c4] 218)],[(g.bb,row [.slice (some ⟨g.br,0,none⟩) g.n g.n] 177)],[(g.br,row cells 174)]]) Tryz.results233 (hR:= ?_);exact⟨rfl,rfl⟩)
theorem bQk (bx:Nat) (g:Gr) (k:Nat) (o:T5) (ts:List T5) (rest:List Int):CtQ AC 271 [pv bx] (aEz bx g k o ts rest) (.int .i64 (ts.length:Int)):=by
 unfold aEz aCa
 refine Ct.go Tryz.func271 Tryz.ntmps271 fun w0=> ?_
 repeat(refine st ?_;intros)
 (refine Dn.post (Hr:=[[(bx,row [pv g.bb,.int .i64 (k:Int),.int .i64 (ts.length:Int),.int .i64 o.c0,.int .i64 o.c1,.int .i64 o.c2,.int .i64 o.c3,.int .i64 o.c4] 218)],[g.obj],[(g.br,row (aAg (aBr k ts++rest)) 174)]]) Tryz.results271 (hR:= ?_);exact⟨rfl,rfl⟩)
def ltO (o:T5) (a b:T5):Bool:=decide (aJs o a b<0)
theorem aBy (o:T5):Swo (ltO o) where
 asym:=fun a b h=>by
  simp only[ltO,decide_eq_true_eq,decide_eq_false_iff_not] at*
  have:=aEd o a b;omega
 ntrans:=fun a b c h1 h2=>by
  simp only[ltO,decide_eq_false_iff_not] at*
  have e1:=aEd o a b
  have e2:=aEd o b c
  have e3:=aEd o a c
  have:=aJd o c b a oM oM
  omega
theorem bLv (bx:Nat) (g:Gr) (k:Nat) (o:T5) (ts:List T5) (rest:List Int) (h1:1≤k) (h2:k≤5) (hg:g.n≤1000000000) (ab:ts.length*k≤g.n) (aa:∀t∈ts,okT k t) (i j:Nat) (hi:i<ts.length) (hj:j<ts.length):
  CtQ AC 272 [pv bx,.int .i64 (i:Int),.int .i64 (j:Int)] (aEz bx g k o ts rest) (.bool (ltO o (at_ ts i) (at_ ts j))):=by
 have hA:=bQj bx g k o ts rest h1 h2 hg ab aa i hi
 have hB:=bQj bx g k o ts rest h1 h2 hg ab aa j hj
 have hC:CtQ AC 244 [tv (at_ ts i),tv (at_ ts j),.agg (bOn o).toArray] [] (.int .i64 (aJs o (at_ ts i) (at_ ts j))):=aMb _ _ _ _ _ _ _ _ _ _ _ _ _ _ _
 generalize tv (at_ ts i)=va at*
 generalize tv (at_ ts j)=vb at*
 have ac:ltO o (at_ ts i) (at_ ts j)=dec (aJs o (at_ ts i) (at_ ts j)<0):=by rw[aDy];rfl
 rw[ac]
 generalize aJs o (at_ ts i) (at_ ts j)=c at*
 unfold aEz aCa at*
 unfold bOn at hC
 refine Ct.go Tryz.func272 Tryz.ntmps272 fun w0=> ?_
 repeat(first|(refine st ?_;intros)|refine G.draw (id:=1) [(2,.quiet),(5,.quiet),(10,.quiet)] (h:= ?_)|refine cq hA ?_|refine cq hB ?_|refine cq hC ?_)
 (refine Dn.post (Hr:=[[(bx,row [pv g.bb,.int .i64 (k:Int),.int .i64 (ts.length:Int),.int .i64 o.c0,.int .i64 o.c1,.int .i64 o.c2,.int .i64 o.c3,.int .i64 o.c4] 218)],[g.obj],[(g.br,row (aAg (aBr k ts++rest)) 174)]]) Tryz.results272 (hR:= ?_);exact⟨rfl,rfl⟩)
def mix (c:Nat) (a b:T5):T5:=⟨if 0<c then a.c0 else b.c0,if 1<c then a.c1 else b.c1,if 2<c then a.c2 else b.c2,if 3<c then a.c3 else b.c3,if 4<c then a.c4 else b.c4⟩
theorem bBr (a b:T5):mix 0 a b=b:=rfl
theorem bBs (c:Nat) (a b:T5) (h:c<5):T5.setCol (mix c a b) c (a.col c)=mix (c+1) a b:=by
 match c,h with
 |0,_=>rfl
 |1,_=>rfl
 |2,_=>rfl
 |3,_=>rfl
 |4,_=>rfl
theorem bHc (c:Nat) (a b:T5) (h:c<5):(mix c a b).col c=b.col c:=by
 match c,h with
 |0,_=>rfl
 |1,_=>rfl
 |2,_=>rfl
 |3,_=>rfl
 |4,_=>rfl
theorem bHd (k:Nat) (a b:T5) (h:k≤5) (ha:∀i,k≤i→a.col i=0) (hb:∀i,k≤i→b.col i=0):mix k a b=a:=by
 have a0:=ha 0;have a1:=ha 1;have a2:=ha 2;have a3:=ha 3;have a4:=ha 4
 have b0:=hb 0;have b1:=hb 1;have b2:=hb 2;have b3:=hb 3;have b4:=hb 4
 obtain⟨x0,x1,x2,x3,x4⟩:=a
 obtain⟨y0,y1,y2,y3,y4⟩:=b
 simp only[T5.col] at*
 match k,h with
 |0,_=>simp_all [mix]
 |1,_=>simp_all [mix]
 |2,_=>simp_all [mix]
 |3,_=>simp_all [mix]
 |4,_=>simp_all [mix]
 |5,_=>simp[mix]
theorem aRo (ts:List T5) (i j:Nat) (t:T5) (hi:i<ts.length):at_ (ts.set i t) j=if j=i then t else at_ ts j:=by
 unfold at_
 simp only[AN,List.getElem?_set]
 by_cases h:i=j
 ·subst h;simp[hi]
 ·rw[if_neg h,if_neg (fun e=>h e.symm)]
def swc (ts:List T5) (i j c:Nat):List T5:=(ts.set i (mix c (at_ ts j) (at_ ts i))).set j (mix c (at_ ts i) (at_ ts j))
theorem bLw (bx:Nat) (g:Gr) (k:Nat) (o:T5) (ts:List T5) (rest:List Int) (h1:1≤k) (h2:k≤5) (hg:g.n≤1000000000) (ax:ts.length*k≤g.n) (ad:∀t∈ts,okT k t) (i j:Nat) (hi:i<ts.length) (hj:j<ts.length) (ah:i≠j):
  Ct AC 273 [pv bx,.int .i64 (i:Int),.int .i64 (j:Int)] (aEz bx g k o ts rest) fun v H'=>v= .tuple #[]∧H'=aEz bx g k o (sw ts i j) rest:=by
 have ay:i*k≤ts.length*k:=A7 _ oM
 have az:j*k≤ts.length*k:=A7 _ oM
 have a0:AJ .i64 ((i:Int)*(k:Int))=((i*k:Nat):Int):=by rw[←Int.natCast_mul];exact aAd oM
 have a1:AJ .i64 ((j:Int)*(k:Int))=((j*k:Nat):Int):=by rw[←Int.natCast_mul];exact aAd oM
 have ab:∀q,q<ts.length→at_ ts q∈ts:=fun q hq=>by
  unfold at_;rw[AN,AE hq];exact B5 hq
 have ai:swc ts i j k=sw ts i j:=by
  unfold swc sw
  rw[bHd k _ _ h2 (ad _ (ab j hj)).2 (ad _ (ab i hi)).2,bHd k _ _ h2 (ad _ (ab i hi)).2 (ad _ (ab j hj)).2]
 have aj:swc ts i j 0=ts:=by
  unfold swc
  rw[bBr,bBr]
  apply bOl
  ·simp
  ·intro q
   rw[aRo _ _ _ _ (by simpa using hj),aRo _ _ _ _ hi]
   split
   ·rename_i e;rw[e]
   ·split
    ·rename_i e;rw[e]
    ·rfl
 have aa:∀c,(swc ts i j c).length=ts.length:=fun c=>by simp[swc]
 have ae:∀c,at_ (swc ts i j c) i=mix c (at_ ts j) (at_ ts i):=fun c=>by
  unfold swc;rw[aRo _ _ _ _ (by simpa using hj),if_neg ah,aRo _ _ _ _ hi,if_pos rfl]
 have ag:∀c,at_ (swc ts i j c) j=mix c (at_ ts i) (at_ ts j):=fun c=>by
  unfold swc;rw[aRo _ _ _ _ (by simpa using hj),if_pos rfl]
 have an:∀c,c<k→(aAg (aBr k (swc ts i j c)++rest))[i*k+c]? =some (.int .u64 (wd ((at_ ts i).col c))):=fun c hc=>by
  rw[bHb hc h2 (by rw[aa];exact hi),ae,bHc _ _ _ oM]
 have ao:∀c,c<k→(aAg (aBr k (swc ts i j c)++rest))[j*k+c]? =some (.int .u64 (wd ((at_ ts j).col c))):=fun c hc=>by
  rw[bHb hc h2 (by rw[aa];exact hj),ag,bHc _ _ _ oM]
 obtain⟨M,hM⟩:∃M:Nat→List Value,∀c,c<k→(aAg (aBr k (swc ts i j c)++rest)).set (i*k+c) (.int .u64 (wd ((at_ ts j).col c)))=M c∧(M c).set (j*k+c) (.int .u64 (wd ((at_ ts i).col c)))=aAg (aBr k (swc ts i j (c+1))++rest):=by
  refine⟨fun c=>(aAg (aBr k (swc ts i j c)++rest)).set (i*k+c) (.int .u64 (wd ((at_ ts j).col c))),fun c hc=>⟨rfl,?_⟩⟩
  dsimp only
  rw[bOo hc h2 (by rw[aa];exact hi),bOo hc h2 (by simp[aa];exact hj)]
  congr 2
  congr 1
  rw[aRo _ _ _ _ (by rw[aa];exact hi),if_neg (fun e=>ah e.symm),ae,ag,bBs _ _ _ oM,bBs _ _ _ oM]
  have e:∀(l:List T5) (A B A' B':T5),(((l.set i A).set j B).set i A').set j B'=(l.set i A').set j B':=fun l A B A' B'=>by
   rw[List.set_comm (l:=l.set i A) B A' (fun e=>ah e.symm),List.set_set,List.set_set]
  exact e ts _ _ _ _
 have ak:∀c,(aAg (aBr k (swc ts i j c)++rest)).length=ts.length*k+rest.length:=fun c=>by
  rw[aBz,AF,aCh h2,aa]
 have ap:∀c,c<k→(M c).length=ts.length*k+rest.length:=fun c hc=>by rw[←(hM c hc).1,List.length_set,ak]
 have al:∀c,c<k→i*k+c<ts.length*k:=fun c hc=>aWe hi hc
 have am:∀c,c<k→j*k+c<ts.length*k:=fun c hc=>aWe hj hc
 have aq:aEz bx g k o ts rest=aEz bx g k o (swc ts i j 0) rest:=by rw[aj]
 have au:aEz bx g k o (sw ts i j) rest=aEz bx g k o (swc ts i j k) rest:=by rw[ai]
 rw[aq,au]
 unfold aEz aCa Gr.obj
 simp only[aa]
 generalize hC:(fun c=>aAg (aBr k (swc ts i j c)++rest))=C at*
 have av:∀c,aAg (aBr k (swc ts i j c)++rest)=C c:=fun c=>by rw[←hC]
 simp only[av] at*
 generalize i*k=ik at*
 generalize j*k=jk at*
 generalize hn:ts.length=n at*
 refine Ct.go Tryz.func273 Tryz.ntmps273 fun w0=> ?_
 repeat(refine sv ?_;intros)
 refine G.loop (X:=Nat) (fun c=>c≤k) (fun c=>[(13,.int .i64 (c:Int)),(12,.int .i64 (k:Int)),(0,pv bx),(1,.int .i64 (i:Int)),(2,.int .i64 (j:Int))])
  (fun c=>[[(bx,row [pv g.bb,.int .i64 (k:Int),.int .i64 (n:Int),.int .i64 o.c0,.int .i64 o.c1,.int .i64 o.c2,.int .i64 o.c3,.int .i64 o.c4] 218)],[(g.bb,row [.slice (some ⟨g.br,0,none⟩) g.n g.n] 177)],[(g.br,row (C c) 174)]])
  (fun c=>k-c) 0 oM (body:= ?_)
 intro c hc
 by_cases ac:c<k
 ·have h3:=an c ac
  have h4:=ao c ac
  obtain⟨h5,h6⟩:=hM c ac
  have h7:=ap c ac
  have h8:=ak c
  have h9:=al c ac
  have a2:=am c ac
  have e1:((ik:Int)+(c:Int)).toNat=ik+c:=oM
  have e2:((jk:Int)+(c:Int)).toNat=jk+c:=oM
  repeat(refine sv ?_;intros)
  exact Dn.round (c+1) oM oM
 ·have aw:k=c:=oM
  subst aw
  repeat(refine sv ?_;intros)
  (refine Dn.postEnd (Hr:=[[(bx,row [pv g.bb,.int .i64 (k:Int),.int .i64 (n:Int),.int .i64 o.c0,.int .i64 o.c1,.int .i64 o.c2,.int .i64 o.c3,.int .i64 o.c4] 218)],[(g.bb,row [.slice (some ⟨g.br,0,none⟩) g.n g.n] 177)],[(g.br,row (C k) 174)]]) Tryz.results273 (hR:= ?_);exact⟨rfl,rfl⟩)
instance:Meth AC 216 "Less" 272:=Meth.of (by kernel_rfl)
instance:Meth AC 216 "Swap" 273:=Meth.of (by kernel_rfl)
instance:Meth AC 216 "Len" 271:=Meth.of (by kernel_rfl)
abbrev aQw (bx:Nat):Value:= .iface 216 (pv bx)
structure aKf (g:Gr) (k n:Nat) (ts:List T5):Prop where
 k1:1≤k
 k5:k≤5
 gn:g.n≤1000000000
 fit:n*k≤g.n
 len:ts.length=n
 ok:∀t∈ts,okT k t
theorem sw_mem {ts:List T5} {i j:Nat} (hi:i<ts.length) (hj:j<ts.length) {t:T5} (h:t∈sw ts i j):t∈ts:=by
 have hm:∀q,q<ts.length→at_ ts q∈ts:=fun q hq=>by
  unfold at_;rw[AN,AE hq];exact B5 hq
 unfold sw at h
 rcases List.mem_or_eq_of_mem_set h with h|h
 ·rcases List.mem_or_eq_of_mem_set h with h|h
  ·exact h
  ·rw[h];exact hm j hj
 ·rw[h];exact hm i hi
theorem aKf.sw {g:Gr} {k n:Nat} {ts:List T5} (h:aKf g k n ts) {i j:Nat} (hi:i<n) (hj:j<n):aKf g k n (sw ts i j):=
 {h with len:=(by rw[aPe];exact h.len),ok:=fun t ht=>h.ok t (sw_mem (by rw[h.len];exact hi) (by rw[h.len];exact hj) ht)}
theorem aKf.n_le {g:Gr} {k n:Nat} {ts:List T5} (h:aKf g k n ts):n≤1000000000:=BB (Nat.le_mul_of_pos_right n h.k1) (BB h.fit h.gn)
theorem aSv {g:Gr} {k n:Nat} {ts:List T5} (h:aKf g k n ts) (bx:Nat) (o:T5) (rest:List Int) (i j:Nat) (hi:i<n) (hj:j<n):
  CtQ AC 272 [pv bx,.int .i64 (i:Int),.int .i64 (j:Int)] (aEz bx g k o ts rest) (.bool (ltO o (at_ ts i) (at_ ts j))):=
 bLv bx g k o ts rest h.k1 h.k5 h.gn (by rw[h.len];exact h.fit) h.ok i j (by rw[h.len];exact hi) (by rw[h.len];exact hj)
theorem aSw {g:Gr} {k n:Nat} {ts:List T5} (h:aKf g k n ts) (bx:Nat) (o:T5) (rest:List Int) (i j:Nat) (hi:i<n) (hj:j<n) (aa:i≠j):
  Ct AC 273 [pv bx,.int .i64 (i:Int),.int .i64 (j:Int)] (aEz bx g k o ts rest) fun v H'=>v= .tuple #[]∧H'=aEz bx g k o (sw ts i j) rest:=
 bLw bx g k o ts rest h.k1 h.k5 h.gn (by rw[h.len];exact h.fit) h.ok i j (by rw[h.len];exact hi) (by rw[h.len];exact hj) aa
theorem Seg.mono {α:Type} [Inhabited α] {lt:α→α→Bool} {l:List α} {a b c d:Nat} (h:Seg lt l a b) (h1:a≤c) (h2:d≤b):Seg lt l c d:=fun i j i1 i2 i3=>h i j oM i2 oM
section
variable (bx:Nat) (g:Gr) (k n:Nat) (o:T5) (rest:List Int)
theorem aIl (ts:List T5) (h:aKf g k n ts) (a b m:Nat) (ac:a+m≤b) (hb:b+m≤n):
  Ct AC 253 [aQw bx,.int .i64 (a:Int),.int .i64 (b:Int),.int .i64 (m:Int)] (aEz bx g k o ts rest) fun v H'=>
   v= .tuple #[]∧∃ts',H'=aEz bx g k o ts' rest∧aKf g k n ts'∧∀q,at_ ts' q=bFk ts a b m q:=by
 have ad:=h.n_le
 refine Ct.go Tryz.func253 Tryz.ntmps253 fun w0=> ?_
 repeat(refine st ?_;intros)
 refine G.loop (X:=Nat×List T5) (fun x=>x.1≤m∧aKf g k n x.2∧∀q,at_ x.2 q=bFk ts a b x.1 q) (fun x=>[(8,.int .i64 (x.1:Int)),(0,aQw bx),(1,.int .i64 (a:Int)),(2,.int .i64 (b:Int)),(3,.int .i64 (m:Int))])
  (fun x=>aEz bx g k o x.2 rest) (fun x=>m-x.1) (0,ts) ⟨AS _,h,fun q=>by unfold bFk;rw[if_neg oM,if_neg oM]⟩ (body:= ?_)
 rintro⟨i,us⟩ ⟨hi,aa,hq⟩
 dsimp only at hi aa hq⊢
 by_cases ab:i<m
 ·have hS:=aSw aa bx o rest (a+i) (b+i) oM oM oM
  have e1:AJ .i64 ((a:Int)+(i:Int))=((a+i:Nat):Int):=by rw[←DA];exact aAd oM
  have e2:AJ .i64 ((b:Int)+(i:Int))=((b+i:Nat):Int):=by rw[←DA];exact aAd oM
  repeat(refine st ?_;intros)
  refine R.invoke (hct:=hS) (h:= ?_)
  rintro _ _ ⟨rfl,rfl⟩
  try dsimp only[AA,AB]
  repeat(refine st ?_;intros)
  exact Dn.round (i+1,sw us (a+i) (b+i)) ⟨ab,aa.sw oM oM,bLs ac (by rw[h.len];exact hb) (by rw[aa.len,h.len]) hq ab⟩ oD
 ·obtain rfl:i=m:=by omega
  repeat(refine st ?_;intros)
  (refine Dn.postEnd (Hr:=aEz bx g k o us rest) Tryz.results253 (hR:= ?_);exact⟨rfl,us,rfl,aa,hq⟩)
theorem bHe (ts:List T5) (h:aKf g k n ts) (a m b:Nat) (al:a<m) (am:m<b) (hb:b≤n):
  Ct AC 251 [aQw bx,.int .i64 (a:Int),.int .i64 (m:Int),.int .i64 (b:Int)] (aEz bx g k o ts rest) fun v H'=>
   v= .tuple #[]∧∃ts',H'=aEz bx g k o ts' rest∧aKf g k n ts'∧∀q,at_ ts' q=aHq ts a m b q:=by
 have an:=h.n_le
 have e1:AJ .i64 ((m:Int)-(a:Int))=((m-a:Nat):Int):=by rw[aAd oM];omega
 have e2:AJ .i64 ((b:Int)-(m:Int))=((b-m:Nat):Int):=by rw[aAd oM];omega
 refine Ct.go Tryz.func251 Tryz.ntmps251 fun w0=> ?_
 repeat(refine st ?_;intros)
 refine G.loop (X:=Nat×Nat×List T5) (fun x=>0<x.1∧x.1≤m∧0<x.2.1∧m+x.2.1≤n∧aKf g k n x.2.2∧∀q,aHq x.2.2 (m-x.1) m (m+x.2.1) q=aHq ts a m b q)
  (fun x=>[(9,.int .i64 (x.2.1:Int)),(8,.int .i64 (x.1:Int)),(0,aQw bx),(2,.int .i64 (m:Int))])
  (fun x=>aEz bx g k o x.2.2 rest) (fun x=>x.1+x.2.1) (m-a,b-m,ts) ⟨oD,oD,oD,oD,h,fun q=>by dsimp only;rw[show m-(m-a)=a by omega,show m+(b-m)=b by omega]⟩ (body:= ?_)
 rintro⟨i,j,us⟩ ⟨ag,ad,ah,ai,ae,hq⟩
 dsimp only at ag ad ah ai ae hq⊢
 have e3:AJ .i64 ((m:Int)-(i:Int))=((m-i:Nat):Int):=by rw[aAd oM];omega
 by_cases aj:i=j
 ·subst aj
  have hS:=aIl bx g k n o rest us ae (m-i) m i oM oM
  repeat(refine st ?_;intros)
  refine R.call (hct:=hS) (h:= ?_)
  rintro _ _ ⟨rfl,ab,rfl,aa,ac⟩
  try dsimp only[AA,AB]
  repeat(refine st ?_;intros)
  (refine Dn.postEnd (Hr:=aEz bx g k o ab rest) Tryz.results251 (hR:= ?_);exact⟨rfl,ab,rfl,aa,fun q=>by rw[←hq];exact bLt ad ac q⟩)
 ·by_cases ak:j<i
  ·have hS:=aIl bx g k n o rest us ae (m-i) m j oM oM
   have e4:AJ .i64 ((i:Int)-(j:Int))=((i-j:Nat):Int):=by rw[aAd oM];omega
   repeat(refine st ?_;intros)
   refine R.call (hct:=hS) (h:= ?_)
   rintro _ _ ⟨rfl,ab,rfl,aa,ac⟩
   try dsimp only[AA,AB]
   repeat(refine st ?_;intros)
   exact Dn.round (i-j,j,ab) ⟨oM,oM,oM,oM,aa,fun q=>by rw[←hq];exact bGy ad ak ac q⟩ oD
  ·have hS:=aIl bx g k n o rest us ae (m-i) (m+j-i) i oM oM
   have e4:AJ .i64 ((j:Int)-(i:Int))=((j-i:Nat):Int):=by rw[aAd oM];omega
   have e5:AJ .i64 ((m:Int)+(j:Int))=((m+j:Nat):Int):=by rw[←DA];exact aAd oM
   have e6:AJ .i64 (((m+j:Nat):Int)-(i:Int))=((m+j-i:Nat):Int):=by rw[aAd oM];omega
   repeat(refine st ?_;intros)
   refine R.call (hct:=hS) (h:= ?_)
   rintro _ _ ⟨rfl,ab,rfl,aa,ac⟩
   try dsimp only[AA,AB]
   repeat(refine st ?_;intros)
   exact Dn.round (i,j-i,ab) ⟨oD,oD,oD,oD,aa,fun q=>by rw[←hq];exact bGz ad oM ac q⟩ oD
def Srt (o:T5) (ts ts':List T5) (a b:Nat):Prop:=Go.Srt.Sp (ltO o) false ts ts'∧Ins ts ts' a b
theorem aRp (ts:List T5) (h:aKf g k n ts) (a b:Nat) (ap:a≤b) (hb:b≤n):
  Ct AC 248 [aQw bx,.int .i64 (a:Int),.int .i64 (b:Int)] (aEz bx g k o ts rest) fun v H'=>
   v= .tuple #[]∧∃ts',H'=aEz bx g k o ts' rest∧aKf g k n ts'∧Srt o ts ts' a b∧Seg (ltO o) ts' a b:=by
 have aq:=h.n_le
 have ah:=aBy o
 refine Ct.go Tryz.func248 Tryz.ntmps248 fun w0=> ?_
 repeat(first|(refine st ?_;intros)|refine cq hL ?_)
 refine G.loop (X:=Nat×List T5) (fun x=>a<x.1∧(x.1≤b∨x.1=a+1)∧aKf g k n x.2∧Srt o ts x.2 a b∧Seg (ltO o) x.2 a x.1)
  (fun x=>[(6,.int .i64 (x.1:Int)),(0,aQw bx),(1,.int .i64 (a:Int)),(2,.int .i64 (b:Int))])
  (fun x=>aEz bx g k o x.2 rest) (fun x=>b+1-x.1) (a+1,ts) ⟨Nat.lt_succ_self _,.inr rfl,h,⟨Go.Srt.Sp.refl _ _,Ins.refl _ _ _⟩,fun i j i1 i2 i3=>by dsimp only at i3;omega⟩ (body:= ?_)
 rintro⟨i,us⟩ ⟨am,an,ai,⟨aj,ae⟩,ag⟩
 dsimp only at am an ai aj ae ag⊢
 by_cases hi:i<b
 ·repeat(first|(refine st ?_;intros)|refine cq hL ?_)
  refine G.loop (X:=Nat×List T5) (fun x=>a≤x.1∧x.1≤i∧aKf g k n x.2∧Srt o ts x.2 a b∧bLu (ltO o) x.2 a i x.1)
   (fun x=>[(7,.int .i64 (x.1:Int)),(6,.int .i64 (i:Int)),(0,aQw bx),(1,.int .i64 (a:Int)),(2,.int .i64 (b:Int))])
   (fun x=>aEz bx g k o x.2 rest) (fun x=>x.1) (i,us) ⟨oD,AG _,ai,⟨aj,ae⟩,bLu.start ag⟩ (body:= ?_)
  rintro⟨j,vs⟩ ⟨ak,al,aa,⟨ad,ab⟩,ac⟩
  dsimp only at ak al aa ad ab ac⊢
  by_cases ao:a<j
  ·have hL:=aSv aa bx o rest j (j-1) oM oM
   have e1:AJ .i64 ((j:Int)-1)=((j-1:Nat):Int):=by rw[aAd oM];omega
   cases hlt:ltO o (at_ vs j) (at_ vs (j-1)) with
   |true=>
    rw[hlt] at hL
    have hS:=aSw aa bx o rest j (j-1) oM oM oM
    repeat(first|(refine st ?_;intros)|refine cq hL ?_)
    refine R.invoke (hct:=hS) (h:= ?_)
    rintro _ _ ⟨rfl,rfl⟩
    try dsimp only[AA,AB]
    repeat(first|(refine st ?_;intros)|refine cq hL ?_)
    refine Dn.round (j-1,sw vs j (j-1)) ⟨oM,oM,aa.sw oM oM,⟨ad.trans (sw_sp ah oM (by rw[aa.len];omega) hlt),ab.trans (sw_ins oM oM (by rw[aa.len];omega))⟩,ac.step ah ao al (by rw[aa.len];omega) hlt⟩ oD
   |false=>
    rw[hlt] at hL
    repeat(first|(refine st ?_;intros)|refine cq hL ?_)
    exact Dn.round (i+1,vs) ⟨oM,.inl oM,aa,⟨ad,ab⟩,ac.stop ah (.inr hlt) ak⟩ oD
  ·repeat(first|(refine st ?_;intros)|refine cq hL ?_)
   exact Dn.round (i+1,vs) ⟨oM,.inl oM,aa,⟨ad,ab⟩,ac.stop ah (.inl oM) ak⟩ oD
 ·repeat(first|(refine st ?_;intros)|refine cq hL ?_)
  (refine Dn.postEnd (Hr:=aEz bx g k o us rest) Tryz.results248 (hR:= ?_);exact⟨rfl,us,rfl,ai,⟨aj,ae⟩,Seg.mono ag (AG _) oM⟩)
end
end Go.Proofs.YtaofijjjheiknaaGreat
namespace Go.Srt
variable {α:Type} {lt:α→α→Bool} [Inhabited α]
theorem rot_up {l c:List α} {a k:Nat} (hk:a≤k) (hl:k+1<c.length) (h:∀q,at_ c q=aHq l a (a+1) (k+1) q):∀q,at_ (sw c k (k+1)) q=aHq l a (a+1) (k+2) q:=by
 intro q
 rw[aKe _ _ _ _ oM oM]
 simp only[h,aHq]
 (repeat' split)<;>first|rfl|(exfalso;omega)|(congr 1;omega)
theorem bLx {l c:List α} {m k:Nat} (hk:0<k) (aa:k≤m) (hl:m<c.length) (h:∀q,at_ c q=aHq l k m (m+1) q):∀q,at_ (sw c k (k-1)) q=aHq l (k-1) m (m+1) q:=by
 intro q
 rw[aKe _ _ _ _ oM oM]
 simp only[h,aHq]
 (repeat' split)<;>first|rfl|(exfalso;omega)|(congr 1;omega)
theorem ins1 (h:Swo lt) {l l1:List α} {a m b i:Nat} (hm:m=a+1) (h1:m≤i) (h2:i≤b) (s2:Seg lt l m b) (f1:i=m∨lt (at_ l (i-1)) (at_ l a)=true) (f2:i=b∨lt (at_ l i) (at_ l a)=false)
  (hr:∀q,at_ l1 q=aHq l a m i q):(∀x y,a≤x→x<m→m≤y→y<i→lt (at_ l y) (at_ l x)=true)∧Seg lt l1 a b:=by
 subst hm
 have hC:∀y,a+1≤y→y<i→lt (at_ l y) (at_ l a)=true:=by
  intro y y1 y2
  rcases f1 with f1|f1
  ·omega
  ·cases hlt:lt (at_ l y) (at_ l a) with
   |true=>rfl
   |false=>
    exfalso
    have g1:lt (at_ l (i-1)) (at_ l y)=false:=by
     by_cases hy:y=i-1
     ·subst hy;exact h.irr _
     ·exact s2 _ _ y1 oM oM
    have:=h.ntrans _ _ _ g1 hlt
    rw[f1] at this;cases this
 have hD:∀y,i≤y→y<b→lt (at_ l y) (at_ l a)=false:=by
  intro y y1 y2
  rcases f2 with f2|f2
  ·omega
  ·by_cases hy:y=i
   ·subst hy;exact f2
   ·exact h.ntrans _ _ _ (s2 _ _ h1 oM y2) f2
 refine⟨fun x y x1 x2 y1 y2=>by rw[show x=a by omega];exact hC y y1 y2,?_⟩
 intro p q p1 p2 p3
 rw[hr,hr]
 unfold aHq
 by_cases c1:q<i-1
 ·rw[if_pos oM,if_pos oM]
  exact s2 _ _ oM oM oM
 ·by_cases c2:q=i-1
  ·rw[if_neg oM,if_pos oM,if_pos oM]
   rw[show q-(i-(a+1))=a by omega]
   exact h.asym _ _ (hC _ oM oM)
  ·rw[if_neg oM,if_neg oM]
   by_cases c3:p<i-1
   ·rw[if_pos oM]
    exact s2 _ _ oM oM oM
   ·by_cases c4:p=i-1
    ·rw[if_neg oM,if_pos oM,show p-(i-(a+1))=a by omega]
     exact hD _ oM p3
    ·rw[if_neg oM,if_neg oM]
     exact s2 _ _ oM oM oM
theorem ins2 (h:Swo lt) {l l1:List α} {a m b i:Nat} (hb:b=m+1) (h1:a≤i) (h2:i≤m) (s1:Seg lt l a m) (f1:i=a∨lt (at_ l m) (at_ l (i-1))=false) (f2:i=m∨lt (at_ l m) (at_ l i)=true)
  (hr:∀q,at_ l1 q=aHq l i m b q):(∀x y,i≤x→x<m→m≤y→y<b→lt (at_ l y) (at_ l x)=true)∧Seg lt l1 a b:=by
 subst hb
 have hC:∀x,i≤x→x<m→lt (at_ l m) (at_ l x)=true:=by
  intro x x1 x2
  rcases f2 with f2|f2
  ·omega
  ·cases hlt:lt (at_ l m) (at_ l x) with
   |true=>rfl
   |false=>
    exfalso
    have g1:lt (at_ l x) (at_ l i)=false:=by
     by_cases hy:x=i
     ·subst hy;exact h.irr _
     ·exact s1 _ _ h1 oM x2
    have:=h.ntrans _ _ _ hlt g1
    rw[f2] at this;cases this
 have hD:∀x,a≤x→x<i→lt (at_ l m) (at_ l x)=false:=by
  intro x x1 x2
  rcases f1 with f1|f1
  ·omega
  ·by_cases hy:x=i-1
   ·subst hy;exact f1
   ·exact h.ntrans _ _ _ f1 (s1 _ _ x1 oM oM)
 refine⟨fun x y x1 x2 y1 y2=>by rw[show y=m by omega];exact hC x x1 x2,?_⟩
 intro p q p1 p2 p3
 rw[hr,hr]
 unfold aHq
 by_cases c1:q<i
 ·rw[if_neg oM,if_neg oM,if_neg oM,if_neg oM]
  exact s1 _ _ p1 p2 oM
 ·by_cases c2:q=i
  ·rw[if_pos oM,if_neg oM,if_neg oM,show q+(m-i)=m by omega]
   exact hD _ p1 oM
  ·rw[if_neg oM,if_pos oM]
   by_cases c3:p<i
   ·rw[if_neg oM,if_neg oM]
    exact s1 _ _ p1 oM oM
   ·by_cases c4:p=i
    ·rw[if_pos oM,show p+(m-i)=m by omega]
     exact h.asym _ _ (hC _ oM oM)
    ·rw[if_neg oM,if_pos oM]
     exact s1 _ _ oM oM oM
end Go.Srt
