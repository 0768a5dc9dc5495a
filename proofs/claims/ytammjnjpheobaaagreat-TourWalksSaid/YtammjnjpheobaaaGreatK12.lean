/-
  Parts of the proof, put together: User, Lay, Scan, Maker. No condition.
-/
import Derived.Test.YtammjnjpheobaaaGreatK11
set_option linter.unusedVariables false
set_option linter.unusedSimpArgs false
set_option linter.unnecessarySimpa false
set_option maxHeartbeats 4000000
namespace Go.Proofs.YtammjnjpheobaaaGreat
open Go.SL Go.Spc Go.Tup
def IsWr (bw bx:Nat) (W:Wk) (first nb k bound:Nat) (g:Gr) (ps:List T5) (cx cb:Chunk):Prop:=
 g.n=W.δ.size∧∃buf,cx=[(bx,row (wrCells bw first nb k ps.length bound g.bb ((ps.length%holds W.δ.size k)*k) (ps.length/holds W.δ.size k) false) 178)]∧cb=[(g.br,row (wcells buf) 158)]∧
  WrOk W.δ.disk W.δ.size k nb bound first ps buf
def ClosedWr (bx:Nat) (cx:Chunk):Prop:=∃bw first nb k cnt bound bb n a,cx=[(bx,row (wrCells bw first nb k cnt bound bb n a true) 178)]
def IsRd (bw bx:Nat) (W:Wk) (f:Fl) (ts:List T5) (g:Gr) (pos:Nat) (cx cb:Chunk):Prop:=
 g.n=W.δ.size∧∃buf n a,cx=[(bx,row (rdCells bw f g.bb n a (nblocks W.δ.size f.width pos) pos false) 155)]∧cb=[(g.br,row (wcells buf) 158)]∧RdOk W.δ.size f.width f.count ts pos buf n a
def ClosedRd (bx:Nat) (cx:Chunk):Prop:=∃bw f bb n a kb pos,cx=[(bx,row (rdCells bw f bb n a kb pos true) 155)]
def Keep (Lv:List Ext) (W W':Wk):Prop:=∀x,inF Lv x→W'.δ.disk x=W.δ.disk x
theorem Keep.refl (Lv:List Ext) (W:Wk):Keep Lv W W:=fun _ _=>rfl
theorem Keep.trans {Lv:List Ext} {W W1 W2:Wk} (h:Keep Lv W W1) (h2:Keep Lv W1 W2):Keep Lv W W2:=fun x hx=>(h2 x hx).trans (h x hx)
theorem Keep.sub {Lv Lv':List Ext} {W W1:Wk} (h:Keep Lv W W1) (hs:∀e∈Lv',e∈Lv):Keep Lv' W W1:=fun x ⟨e,he,h2⟩=>h x ⟨e,hs e he,h2⟩
theorem keep_out {σ:Sp} {live Lv:List Ext} {first nb:Nat} (hv:Live σ live) (hl:LvOf first nb Lv live) {d d':Nat→Option (List Int)} (h:∀x,¬(first≤x∧x<first+nb)→d' x=d x):∀x,inF Lv x→d' x=d x:=by
 intro x hx
 apply h
 rintro⟨h1,h2⟩
 unfold LvOf at hl
 by_cases h0:nb=0
 ·omega
 ·rw[if_neg h0] at hl
  exact(hv.perm hl).other (e:=(first,nb)) h1 h2 hx
theorem IsRd.move {bw bx:Nat} {W W':Wk} {f:Fl} {ts:List T5} {g:Gr} {pos:Nat} {cx cb:Chunk} (h:IsRd bw bx W f ts g pos cx cb) (hs:W'.δ.size=W.δ.size):IsRd bw bx W' f ts g pos cx cb:=by
 unfold IsRd at*
 rw[hs];exact h
theorem IsWr.move {bw bx:Nat} {W W':Wk} {first nb k bound:Nat} {g:Gr} {ps:List T5} {cx cb:Chunk} (h:IsWr bw bx W first nb k bound g ps cx cb) (hs:W'.δ.size=W.δ.size) (hd:∀x,first≤x→x<first+nb→W'.δ.disk x=W.δ.disk x):IsWr bw bx W' first nb k bound g ps cx cb:=by
 unfold IsWr at*
 rw[hs]
 obtain⟨h1,buf,h2,h3,h4⟩:=h
 refine⟨h1,buf,h2,h3,{h4 with onto:=fun j hj=> ?_}⟩
 rw[←h4.onto j hj,hd]
 ·omega
 ·have hq:ps.length/holds W.δ.size k≤nb:=by
   rw[h4.nbe]
   refine Nat.le_trans ?_ (nblocks_mono h4.cnt)
   unfold nblocks
   by_cases hh:holds W.δ.size k=0
   ·rw[hh];simp
   ·exact Nat.div_le_div_right (by omega)
  omega
theorem Put_u (bw bd ba bs:Nat) (W:Wk) (cd ca cs:Chunk) (h:Wc bd ba bs W cd ca cs) (bx first nb k bound:Nat) (g:Gr) (ps:List T5) (cx cb:Chunk) (hw:IsWr bw bx W first nb k bound g ps cx cb) (Gs:List Gr) (hg:W.α.gs.Perm (g::Gs))
  (Lv:List Ext) (hl:LvOf first nb Lv W.live) (hlt:ps.length<bound) (t:T5) (ht:okT k t) (hac:W.δ.acts≤1000000000000):
  Ct Tryz.prog 74 [pv bx,tv t] [wrow bw bd ba bs,cd,ca,cs,cx,cb] fun v H'=>
   ∃cd' ca' cs' W' cx' cb',H'=[wrow bw bd ba bs,cd',ca',cs',cx',cb']∧Wc bd ba bs W' cd' ca' cs'∧Ev W W' ((ps.length+1)/holds W.δ.size k-ps.length/holds W.δ.size k) 0∧Keep Lv W W'∧
    ((v= .int .i64 0∧W'.α=W.α∧W'.σ=W.σ∧W'.live=W.live∧IsWr bw bx W' first nb k bound g (ps++[t]) cx' cb')∨
     (v= .int .i64 6∧W.δ.fault=0∧W'.δ=W.δ.failed∧W'.α.gs.Perm Gs∧W'.live.Perm Lv∧ClosedWr bx cx')):=by
 obtain⟨hgn,buf,rfl,rfl,ho⟩:=hw
 refine(Put_walk bw bd ba bs W cd ca cs h bx first nb k bound g Gs hg hgn Lv hl ps buf ho hlt t ht hac).mono ?_
 rintro v H' (⟨rfl,cd',ca',δ',buf',rfl,hp,hd,e1,e2,e3,e4,e5,e6⟩|⟨rfl,hf,cb',cd',ca',cs',W',cnt,n,a,rfl,hW,hE,e1,e2,e3⟩)
 ·refine⟨cd',ca',cs,{W with δ:=δ'},_,_,rfl,⟨hd,h.ar.perm hp,h.sp,e2.trans h.nn,h.live⟩,⟨e1,rfl,⟨by rw[e4];exact Nat.le_add_right _ _,by rw[e4];exact Nat.le_refl _⟩,e3,rfl,Nat.le_refl _⟩,keep_out h.live hl e5,.inl ⟨rfl,rfl,rfl,rfl,?_⟩⟩
  unfold IsWr
  dsimp only
  rw[e1]
  refine⟨hgn,buf',by simp,rfl,e6⟩
 ·exact⟨cd',ca',cs',W',_,_,rfl,hW,hE.weak (Nat.zero_le _) (Nat.le_refl _),fun x _=>by rw[e1];rfl,.inr ⟨rfl,hf,e1,e2,e3,_,_,_,_,_,_,_,_,_,rfl⟩⟩
theorem Close_u (bw bd ba bs:Nat) (W:Wk) (cd ca cs:Chunk) (h:Wc bd ba bs W cd ca cs) (bx first nb k bound:Nat) (g:Gr) (ps:List T5) (cx cb:Chunk) (hw:IsWr bw bx W first nb k bound g ps cx cb) (Gs:List Gr) (hg:W.α.gs.Perm (g::Gs))
  (Lv:List Ext) (hl:LvOf first nb Lv W.live) (hac:W.δ.acts≤1000000000000):
  Ct Tryz.prog 76 [pv bx] [wrow bw bd ba bs,cd,ca,cs,cx,cb] fun v H'=>
   ∃cd' ca' cs' W' cx' cb',H'=[wrow bw bd ba bs,cd',ca',cs',cx',cb']∧Wc bd ba bs W' cd' ca' cs'∧Ev W W' (nblocks W.δ.size k ps.length-ps.length/holds W.δ.size k) 0∧Keep Lv W W'∧W'.α.gs.Perm Gs∧ClosedWr bx cx'∧
    ((∃f,v= .tuple #[flv f,.int .i64 0]∧W'.live=(if f.blocks=0 then Lv else f.ext::Lv)∧f.width=k∧f.count=ps.length∧FileOk W'.δ.disk W.δ.size [f.ext] f ps)∨
     (v= .tuple #[flv ⟨0,0,0,0⟩,.int .i64 6]∧W.δ.fault=0∧W'.δ=W.δ.failed∧W'.live.Perm Lv)):=by
 obtain⟨hgn,buf,rfl,rfl,ho⟩:=hw
 refine(Close_walk bw bd ba bs W cd ca cs h bx first nb k bound g Gs hg hgn Lv hl ps buf ho hac).mono ?_
 rintro v H' (⟨cd',ca',cs',W',f,n,rfl,rfl,hW,hE,e1,e2,e3,e4,e5,e6,e7,e8⟩|⟨rfl,hf,cd',ca',cs',W',cnt,n,a,rfl,hW,hE,e1,e2,e3⟩)
 ·refine⟨cd',ca',cs',W',_,_,rfl,hW,{hE with acts:=⟨hE.acts.1,Nat.le_of_eq e1⟩},keep_out h.live hl e8,e2,⟨_,_,_,_,_,_,_,_,_,rfl⟩,.inl ⟨f,rfl,e3,e4,e5,?_⟩⟩
  refine⟨by rw[e4];exact ho.w1,by rw[e4];exact ho.w2,e5.symm,?_,by rw[e6,e4,e5],?_,?_,fun _=>List.mem_singleton.2 rfl⟩
  ·rw[e5];exact Nat.le_trans ho.cnt ho.hb
  ·rw[e4];exact ho.fit
  ·rw[e4];exact e7
 ·exact⟨cd',ca',cs',W',_,_,rfl,hW,hE.weak (Nat.zero_le _) (Nat.le_refl _),fun x _=>by rw[e1];rfl,e2,⟨_,_,_,_,_,_,_,_,_,rfl⟩,.inr ⟨rfl,hf,e1,e3⟩⟩
theorem Drop_uB (bw bd ba bs:Nat) (W:Wk) (cd ca cs:Chunk) (h:Wc bd ba bs W cd ca cs) (bx first nb k bound:Nat) (g:Gr) (ps:List T5) (cx cb:Chunk) (hw:IsWr bw bx W first nb k bound g ps cx cb) (Gs:List Gr) (hg:W.α.gs.Perm (g::Gs))
  (Lv:List Ext) (hl:LvOf first nb Lv W.live):
  Cb Tryz.prog 75 [pv bx] [wrow bw bd ba bs,cd,ca,cs,cx,cb] fun v H'=>
   ∃cd' ca' cs' W' cx' cb',v= .tuple #[]∧H'=[wrow bw bd ba bs,cd',ca',cs',cx',cb']∧Wc bd ba bs W' cd' ca' cs'∧Ev W W' 0 0∧W'.δ=W.δ∧W'.α.gs.Perm Gs∧W'.live.Perm Lv∧ClosedWr bx cx':=by
 obtain⟨hgn,buf,rfl,rfl,ho⟩:=hw
 refine(Drop_cb bw bd ba bs W cd ca cs h bx first nb k ps.length bound _ _ g Gs hg Lv hl [(g.br,row (wcells buf) 158)]).mono ?_
 rintro v H' ⟨rfl,cd',ca',cs',W',cnt,n,a,rfl,hW,hE,e1,e2,e3⟩
 exact⟨cd',ca',cs',W',_,_,rfl,rfl,hW,hE,e1,e2,e3,_,_,_,_,_,_,_,_,_,rfl⟩
theorem Dropped_uB (bx:Nat) (cx:Chunk) (h:ClosedWr bx cx):Cb Tryz.prog 75 [pv bx] [cx] (fun v' H'=>v'= .tuple #[]∧H'=[cx]):=by
 obtain⟨bw,first,nb,k,cnt,bound,bb,n,a,rfl⟩:=h
 exact Drop_closedB bw first nb k cnt bound bb n a bx
theorem Dropped_u (bx:Nat) (cx:Chunk) (h:ClosedWr bx cx):CtQ Tryz.prog 75 [pv bx] [cx] (.tuple #[]):=(Dropped_uB bx cx h).1
theorem Next_u (bw bd ba bs:Nat) (W:Wk) (cd ca cs:Chunk) (h:Wc bd ba bs W cd ca cs) (bx:Nat) (f:Fl) (ts:List T5) (Lv:List Ext) (hfo:FileOk W.δ.disk W.δ.size Lv f ts) (hsub:∀e∈Lv,e∈W.live) (g:Gr) (Gs:List Gr) (hg:W.α.gs.Perm (g::Gs))
  (pos:Nat) (cx cb:Chunk) (hr:IsRd bw bx W f ts g pos cx cb) (t:T5) (ht:ts[pos]? =some t) (hac:W.δ.acts≤1000000000000):
  Ct Tryz.prog 55 [pv bx] [wrow bw bd ba bs,cd,ca,cs,cx,cb] fun v H'=>
   ∃cd' ca' W' cx' cb',H'=[wrow bw bd ba bs,cd',ca',cs,cx',cb']∧Wc bd ba bs W' cd' ca' cs∧Ev W W' (nblocks W.δ.size f.width (pos+1)-nblocks W.δ.size f.width pos) 0∧W'.δ.disk=W.δ.disk∧W'.σ=W.σ∧W'.live=W.live∧
    ((v= .tuple #[tv t,.bool true,.int .i64 0]∧W'.α=W.α∧IsRd bw bx W' f ts g (pos+1) cx' cb')∨
     (v= .tuple #[tv T5.zero,.bool false,.int .i64 6]∧W.δ.fault=0∧W'.δ=W.δ.failed∧W'.α.gs.Perm Gs∧ClosedRd bx cx')):=by
 obtain⟨hgn,buf,n,a,rfl,rfl,ho⟩:=hr
 have hlt:pos<f.count:=by have:=(List.getElem?_eq_some_iff.1 ht).1;have:=hfo.len;omega
 refine(Next_walk bw bd ba bs W cd ca cs h bx f ts Lv hfo hsub g Gs hg hgn pos n a buf ho hlt t ht hac).mono ?_
 rintro v H' (⟨cd',ca',δ',buf',n',a',rfl,rfl,hp,hd,e1,e2,e3,e4,e5,e6⟩|⟨rfl,hf,cd',ca',α',n',a',kb,pos',rfl,hd,hA,e1,e2⟩)
 ·refine⟨cd',ca',{W with δ:=δ'},_,_,rfl,⟨hd,h.ar.perm hp,h.sp,e2.trans h.nn,h.live⟩,⟨e1,rfl,⟨by rw[e4];exact Nat.le_add_right _ _,by rw[e4];exact Nat.le_refl _⟩,e3,rfl,Nat.le_refl _⟩,e5,rfl,rfl,.inl ⟨rfl,rfl,?_⟩⟩
  unfold IsRd
  dsimp only
  rw[e1]
  exact⟨hgn,buf',n',a',rfl,rfl,e6⟩
 ·exact⟨cd',ca',{W with δ:=W.δ.failed,α:=α'},_,_,rfl,⟨hd,hA,h.sp,h.nn,h.live⟩,⟨rfl,rfl,⟨Nat.le_refl _,Nat.le_add_right _ _⟩,fun _=>rfl,e2,Nat.le_refl _⟩,rfl,rfl,rfl,.inr ⟨rfl,hf,rfl,e1,_,_,_,_,_,_,_,rfl⟩⟩
theorem NextEnd_u (bw bx:Nat) (W:Wk) (f:Fl) (ts:List T5) (g:Gr) (cx cb:Chunk) (hr:IsRd bw bx W f ts g f.count cx cb):
  CtQ Tryz.prog 55 [pv bx] [cx] (.tuple #[tv T5.zero,.bool false,.int .i64 0]):=by
 obtain⟨hgn,buf,n,a,rfl,rfl,ho⟩:=hr
 exact Next_end bw bx f g.bb n a _
theorem RClose_uB (bw bd ba bs:Nat) (W:Wk) (cd ca cs:Chunk) (h:Wc bd ba bs W cd ca cs) (bx:Nat) (f:Fl) (ts:List T5) (g:Gr) (Gs:List Gr) (hg:W.α.gs.Perm (g::Gs)) (pos:Nat) (cx cb:Chunk) (hr:IsRd bw bx W f ts g pos cx cb):
  Cb Tryz.prog 54 [pv bx] [wrow bw bd ba bs,ca,cx] fun v H'=>
   ∃ca' α' cx',v= .tuple #[]∧H'=[wrow bw bd ba bs,ca',cx']∧Wc bd ba bs {W with α:=α'} cd ca' cs∧Ev W {W with α:=α'} 0 0∧α'.gs.Perm Gs∧ClosedRd bx cx':=by
 obtain⟨hgn,buf,n,a,rfl,rfl,ho⟩:=hr
 refine(RClose_cb bw bd ba bs W.α ca h.ar f n a _ pos bx g Gs hg).mono ?_
 rintro v H' ⟨ca',α',rfl,hA,e1,e2,rfl⟩
 exact⟨ca',α',_,rfl,rfl,⟨h.dev,hA,h.sp,h.nn,h.live⟩,⟨rfl,rfl,⟨Nat.le_refl _,Nat.le_refl _⟩,id,e2,Nat.le_refl _⟩,e1,_,_,_,_,_,_,_,rfl⟩
theorem RClose_u (bw bd ba bs:Nat) (W:Wk) (cd ca cs:Chunk) (h:Wc bd ba bs W cd ca cs) (bx:Nat) (f:Fl) (ts:List T5) (g:Gr) (Gs:List Gr) (hg:W.α.gs.Perm (g::Gs)) (pos:Nat) (cx cb:Chunk) (hr:IsRd bw bx W f ts g pos cx cb):
  Ct Tryz.prog 54 [pv bx] [wrow bw bd ba bs,ca,cx] fun v H'=>
   ∃ca' α' cx',v= .tuple #[]∧H'=[wrow bw bd ba bs,ca',cx']∧Wc bd ba bs {W with α:=α'} cd ca' cs∧Ev W {W with α:=α'} 0 0∧α'.gs.Perm Gs∧ClosedRd bx cx':=(RClose_uB bw bd ba bs W cd ca cs h bx f ts g Gs hg pos cx cb hr).1
theorem RClosed_uB (bx:Nat) (cx:Chunk) (h:ClosedRd bx cx):Cb Tryz.prog 54 [pv bx] [cx] (fun v' H'=>v'= .tuple #[]∧H'=[cx]):=by
 obtain⟨bw,f,bb,n,a,kb,pos,rfl⟩:=h
 exact RClose_closedB bw f bb n a kb pos bx
theorem RClosed_u (bx:Nat) (cx:Chunk) (h:ClosedRd bx cx):CtQ Tryz.prog 54 [pv bx] [cx] (.tuple #[]):=(RClosed_uB bx cx h).1
theorem Read_u (bw bd ba bs:Nat) (W:Wk) (cd ca cs:Chunk) (h:Wc bd ba bs W cd ca cs) (f:Fl) (ts:List T5) (Lv:List Ext) (hfo:FileOk W.δ.disk W.δ.size Lv f ts) (hr:W.δ.size≤W.α.room-W.α.used):
  Ct Tryz.prog 53 [pv bw,flv f] [wrow bw bd ba bs,cd,ca,cs] fun v H'=>
   ∃bx g ca' α' cx cb,v= .tuple #[pv bx,.int .i64 0]∧H'=[wrow bw bd ba bs,cd,ca',cs,cx,cb]∧Wc bd ba bs {W with α:=α'} cd ca' cs∧Ev W {W with α:=α'} 0 0∧α'.gs.Perm (g::W.α.gs)∧g.n=W.δ.size∧IsRd bw bx {W with α:=α'} f ts g 0 cx cb:=by
 refine(Read_make bw bd ba bs W cd ca cs h f hfo.w1 hfo.w2 hfo.cnt hfo.blk hr).mono ?_
 rintro v H' ⟨bx,g,ca',α',rfl,rfl,hA,hgn,e1,e2⟩
 obtain⟨hs,_⟩:=h.dev.num
 have hp:=holds_pos hs.1 hfo.w1 hfo.w2
 refine⟨bx,g,ca',α',_,_,rfl,rfl,⟨h.dev,hA,h.sp,h.nn,h.live⟩,⟨rfl,rfl,⟨Nat.le_refl _,Nat.le_refl _⟩,id,e2,Nat.le_refl _⟩,e1,hgn,hgn,List.replicate W.δ.size 0,0,0,?_,rfl,RdOk.start hp hfo.len⟩
 show _=[(bx,row (rdCells bw f g.bb 0 0 (nblocks W.δ.size f.width 0) 0 false) 155)]
 rw[nblocks_zero hp]
theorem Write_u (bw bd ba bs:Nat) (W:Wk) (cd ca cs:Chunk) (h:Wc bd ba bs W cd ca cs) (k bound:Nat) (h1:1≤k) (h2:k≤5) (hb:bound≤100000000) (hr:W.δ.size≤W.α.room-W.α.used):
  Ct Tryz.prog 73 [pv bw,.int .i64 (k:Int),.int .i64 (bound:Int)] [wrow bw bd ba bs,cd,ca,cs] fun v H'=>
   (nblocks W.δ.size k bound≤big W.σ.free∧∃bx first g cd' ca' cs' W' cx cb,v= .tuple #[pv bx,.int .i64 0]∧H'=[wrow bw bd ba bs,cd',ca',cs',cx,cb]∧Wc bd ba bs W' cd' ca' cs'∧Ev W W' 0 (nblocks W.δ.size k bound)∧W'.δ=W.δ∧
    W'.α.gs.Perm (g::W.α.gs)∧g.n=W.δ.size∧LvOf first (nblocks W.δ.size k bound) W.live W'.live∧IsWr bw bx W' first (nblocks W.δ.size k bound) k bound g [] cx cb)∨
   (big W.σ.free<nblocks W.δ.size k bound∧v= .tuple #[.pointer none,.int .i64 5]∧∃cd' ca' cs' W',H'=[wrow bw bd ba bs,cd',ca',cs']∧Wc bd ba bs W' cd' ca' cs'∧Ev W W' 0 0∧W'.δ=W.δ∧W'.live=W.live∧W'.α.gs.Perm W.α.gs):=by
 refine(Write_ct bw bd ba bs W cd ca cs h k bound h1 h2 hb hr).mono ?_
 obtain⟨hs,_⟩:=h.dev.num
 have hp:=holds_pos hs.1 h1 h2
 rintro v H' (⟨hfit,bx,first,g,cd',ca',cs',W',rfl,rfl,hW,hE,e1,e2,e3,e4⟩|⟨hf,rfl,cd',ca',cs',W',rfl,hW,hE,e1,e2,e3,e4⟩)
 ·left
  refine⟨hfit,bx,first,g,cd',ca',cs',W',_,_,rfl,rfl,hW,hE,e1,e3,e2,?_,by rw[e1];exact e2,List.replicate W.δ.size 0,?_,rfl,?_⟩
  ·unfold LvOf
   split at e4
   ·rename_i h0;rw[if_pos h0,e4.1]
   ·rename_i h0;rw[if_neg h0,e4]
  ·rw[e1];simp
  ·rw[e1]
   exact⟨h1,h2,hb,rfl,Nat.zero_le _,by simp,by simp,fun j hj=>by simp at hj,by simp⟩
 ·exact .inr ⟨hf,rfl,cd',ca',cs',W',rfl,hW,hE,e1,e3,e4⟩
theorem Free_u (bw bd ba bs:Nat) (W:Wk) (cd ca cs:Chunk) (h:Wc bd ba bs W cd ca cs) (f:Fl) (Lv:List Ext) (hl:LvOf f.first f.blocks Lv W.live):
  Ct Tryz.prog 96 [pv bw,flv f] [wrow bw bd ba bs,cs] fun v H'=>
   ∃cs' W',v= .int .i64 0∧H'=[wrow bw bd ba bs,cs']∧Wc bd ba bs W' cd ca cs'∧Ev W W' 0 0∧W'.δ=W.δ∧W'.α=W.α∧W'.live=Lv:=by
 unfold LvOf at hl
 unfold flv wrow
 by_cases h0:f.blocks=0
 ·rw[if_pos h0] at hl
  rw[h0]
  refine Ct.intro Tryz.func96 rfl Tryz.ntmps96 (nle rfl) fun w0=> ?_;dsimp only[argSlots,Nat.reduceAdd]
  repeat(first|(refine st ?_;intros)|refine G.draw [] (h:= ?_))
  (refine Dn.post (Hr:=[[(bw,row [pv bd,pv ba,pv bs] 101)],cs]) Tryz.results96 (hR:= ?_);exact⟨cs,{W with live:=Lv},rfl,rfl,⟨h.dev,h.ar,h.sp,h.nn,h.live.perm hl⟩,⟨rfl,rfl,⟨Nat.le_refl _,Nat.le_refl _⟩,id,rfl,Nat.le_refl _⟩,rfl,rfl,rfl⟩)
 ·rw[if_neg h0] at hl
  have hlv:=h.live.perm hl
  obtain⟨⟨f1,f2⟩,f3⟩:=live_free hlv
  have hGv:=Give_ct bs W.σ cs h.sp f.first f.blocks f1 f2 f3
  refine Ct.intro Tryz.func96 rfl Tryz.ntmps96 (nle rfl) fun w0=> ?_;dsimp only[argSlots,Nat.reduceAdd]
  repeat(first|(refine st ?_;intros)|refine G.draw [] (h:= ?_))
  refine R.call (hct:=hGv) (h:= ?_)
  rintro _ _ ⟨cs',σ',rfl,hS',e1,e3,e4,e5,rfl⟩
  try dsimp only[List.cons_append,List.nil_append]
  repeat(first|(refine st ?_;intros)|refine G.draw [] (h:= ?_))
  (refine Dn.post (Hr:=[[(bw,row [pv bd,pv ba,pv bs] 101)],cs']) Tryz.results96 (hR:= ?_);exact⟨cs',{W with σ:=σ',live:=Lv},rfl,rfl,⟨h.dev,h.ar,hS',h.nn.trans e1.symm,live_give hlv e1 e3 e4⟩,⟨rfl,e1,⟨Nat.le_refl _,Nat.le_refl _⟩,id,rfl,by show _≤big σ'.free+0;omega⟩,rfl,rfl,rfl⟩)
structure LayX where
 i:Nat
 cd:Chunk
 ca:Chunk
 cs:Chunk
 cx:Chunk
 cb:Chunk
 W:Wk
theorem Lay_ct (bw bd ba bs:Nat) (W:Wk) (cd ca cs:Chunk) (h:Wc bd ba bs W cd ca cs) (k:Nat) (h1:1≤k) (h2:k≤5) (p:Option Addr) (n cap:Nat) (ts:List T5) (c:Chunk) (hv:RV p n ts c) (hn:n≤100000000) (hok:∀t∈ts,okT k t)
  (hr:W.δ.size≤W.α.room-W.α.used) (hf:W.δ.fault= -1) (hac:W.δ.acts≤100000000000):
  Ct Tryz.prog 34 [pv bw,.int .i64 (k:Int),.slice p n cap] [wrow bw bd ba bs,cd,ca,cs,c] fun v H'=>
   ∃cd' ca' cs' W',H'=[wrow bw bd ba bs,cd',ca',cs',c]∧Wc bd ba bs W' cd' ca' cs'∧Ev W W' (nblocks W.δ.size k n) (nblocks W.δ.size k n)∧Keep W.live W W'∧W'.α.gs.Perm W.α.gs∧
    ((nblocks W.δ.size k n≤big W.σ.free∧∃f,v= .tuple #[flv f,.int .i64 0]∧W'.live=(if f.blocks=0 then W.live else f.ext::W.live)∧f.width=k∧f.count=n∧FileOk W'.δ.disk W.δ.size [f.ext] f ts)∨
     (big W.σ.free<nblocks W.δ.size k n∧v= .tuple #[flv ⟨0,0,0,0⟩,.int .i64 5]∧W'.live=W.live∧W'.δ=W.δ)):=by
 have hWr:=Write_u bw bd ba bs W cd ca cs h k n h1 h2 hn hr
 have htl:=hv.1
 obtain⟨⟨hs1,hs2⟩,_⟩:=h.dev.num
 have hp:=holds_pos hs1 h1 h2
 refine Ct.intro Tryz.func34 rfl Tryz.ntmps34 (nle rfl) fun w0=> ?_;dsimp only[argSlots,Nat.reduceAdd]
 repeat(refine st ?_;intros)
 apply R.call
 ·exact rfl
 ·exact hWr
 ·exact(by repeat(first|exact Split.nil|(apply Split.cons;·(repeat(first|exact Take.here|apply Take.there|exact Take.nil)))))
 ·exact rfl
 ·exact nle rfl
 rintro _ _ (⟨hfit,bx,first,g,cd',ca',cs',W1,cx,cb,rfl,rfl,hW1,hE1,e1,e2,e3,e4,e5⟩|⟨hfull,rfl,cd',ca',cs',W1,rfl,hW1,hE1,e1,e2,e3⟩)
 ·repeat(refine st ?_;intros)
  rename_i b6
  refine G.loop (X:=LayX) (fun x=>x.i≤n∧Wc bd ba bs x.W x.cd x.ca x.cs∧Ev W x.W (x.i/holds W.δ.size k) (nblocks W.δ.size k n)∧Keep W.live W x.W∧x.W.α.gs.Perm (g::W.α.gs)∧LvOf first (nblocks W.δ.size k n) W.live x.W.live∧IsWr bw bx x.W first (nblocks W.δ.size k n) k n g (ts.take x.i) x.cx x.cb)
   (fun x=>[(27,.int .i64 (x.i:Int)),(26,.int .i64 (n:Int)),(25,.slice p n cap),(8,pv bx),(6,.pointer (some ⟨b6,0,none⟩))])
   (fun x=>[[(b6,row [.int .i64 0,.int .i64 0,.int .i64 0,.int .i64 0] 27)],wrow bw bd ba bs,x.cd,x.ca,x.cs,x.cx,x.cb,c]) (fun x=>n-x.i) ⟨0,cd',ca',cs',cx,cb,W1⟩
   ⟨Nat.zero_le _,hW1,by simpa using hE1,fun x _=>by rw[e1],e2,e4,e5⟩ (body:= ?_)
  rintro⟨i,cd1,ca1,cs1,cx1,cb1,W2⟩ ⟨hi,hW2,hE2,hK2,hg2,hl2,hw2⟩
  dsimp only at hi hW2 hE2 hK2 hg2 hl2 hw2⊢
  have hacts:=hE2.acts
  have hsz:=hE2.size
  have hfl:=hE2.fault hf
  have hdl:i/holds W.δ.size k≤n:=Nat.le_trans (Nat.div_le_self _ _) hi
  by_cases hin:i<n
  ·obtain⟨b,off,cs0,T,fz,rfl,rfl,hread⟩:=hv.pos (by omega)
   have hti:=hread i hin
   have hlt:i<ts.length:=by omega
   have hgd:ts.getD i ⟨0,0,0,0,0⟩=ts[i]:=by simp[List.getD_eq_getElem?_getD,hlt]
   rw[hgd] at hti
   have htk:ts.take (i+1)=ts.take i++[ts[i]]:=by rw[List.take_add_one];simp[hlt]
   have hlen:(ts.take i).length=i:=by simp;omega
   have hPt:=Put_u bw bd ba bs W2 cd1 ca1 cs1 hW2 bx first _ k n g (ts.take i) cx1 cb1 hw2 W.α.gs hg2 W.live hl2 (by omega) ts[i] (hok _ (List.getElem_mem hlt)) (by omega)
   have htv:tv ts[i]= .agg (tcells ts[i]).toArray:=rfl
   rw[htv] at hPt
   have htcl:(tcells ts[i]).length=5:=rfl
   have hall:(tcells ts[i]).all Value.oneCell'=true:=rfl
   have hset5:setL [.int .i64 0,.int .i64 0,.int .i64 0,.int .i64 0,.int .i64 0] 0 (tcells ts[i])=tcells ts[i]:=rfl
   have hd5:((tcells ts[i]).drop 0).take 5=tcells ts[i]:=rfl
   generalize tcells ts[i]=tc at*
   repeat(refine st ?_;intros)
   refine R.call (hct:=hPt) (h:= ?_)
   rintro _ _ ⟨cd3,ca3,cs3,W3,cx3,cb3,rfl,hW3,hE3,hK3,⟨rfl,e6,e7,e8,e9⟩|⟨rfl,e6,_⟩⟩
   try dsimp only[List.cons_append,List.nil_append]
   ·repeat(refine st ?_;intros)
    refine Dn.round ⟨i+1,cd3,ca3,cs3,cx3,cb3,W3⟩ ⟨hin,hW3,?_,hK2.trans hK3,by rw[e6];exact hg2,by rw[e8];exact hl2,by rw[htk];exact e9⟩ (by dsimp only;omega)
    have:=hE2.trans hE3
    rw[hlen,hsz] at this
    refine this.weak ?_ (Nat.le_refl _)
    have hm:i/holds W.δ.size k≤(i+1)/holds W.δ.size k:=Nat.div_le_div_right (by omega)
    dsimp only
    omega
   ·omega
  ·obtain rfl:i=n:=by omega
   have htk:ts.take i=ts:=by rw[←htl];exact List.take_length
   rw[htk] at hw2
   have hCl:=Close_u bw bd ba bs W2 cd1 ca1 cs1 hW2 bx first _ k i g ts cx1 cb1 hw2 W.α.gs hg2 W.live hl2 (by omega)
   rw[hsz,htl] at hCl
   repeat(refine st ?_;intros)
   refine R.call (hct:=hCl) (h:= ?_)
   rintro _ _ ⟨cd3,ca3,cs3,W3,cx3,cb3,rfl,hW3,hE3,hK3,hg3,hx3,⟨f,rfl,e6,e7,e8,e9⟩|⟨rfl,e6,_⟩⟩
   try dsimp only[List.cons_append,List.nil_append]
   ·repeat(refine st ?_;intros)
    (refine Dn.post (Hr:=[wrow bw bd ba bs,cd3,ca3,cs3,c]) Tryz.results34 (hR:= ?_);refine⟨cd3,ca3,cs3,W3,rfl,hW3,?_,hK2.trans hK3,hg3,.inl ⟨hfit,f,rfl,e6,e7,e8,e9⟩⟩)
    have:=hE2.trans hE3
    refine this.weak ?_ (Nat.le_refl _)
    have hm:i/holds W.δ.size k≤nblocks W.δ.size k i:=by
     unfold nblocks;exact Nat.div_le_div_right (by omega)
    omega
   ·omega
 ·repeat(refine st ?_;intros)
  (refine Dn.post (Hr:=[wrow bw bd ba bs,cd',ca',cs',c]) Tryz.results34 (hR:= ?_);exact⟨cd',ca',cs',W1,rfl,hW1,hE1.weak (Nat.zero_le _) (Nat.zero_le _),fun x _=>by rw[e1],e3,.inr ⟨hfull,rfl,e2,e1⟩⟩)
structure ListX where
 i:Nat
 cd:Chunk
 ca:Chunk
 cx:Chunk
 cb:Chunk
 W:Wk
 p:Option Addr
 cap:Nat
 co:Chunk
theorem flat_take_succ {ts:List T5} {i:Nat} (hi:i<ts.length):flat (ts.take (i+1))=flat (ts.take i)++tcells ts[i]:=by
 rw[List.take_add_one,flat_append]
 simp[hi,flat]
theorem List_ct (bw bd ba bs:Nat) (W:Wk) (cd ca cs:Chunk) (h:Wc bd ba bs W cd ca cs) (f:Fl) (ts:List T5) (Lv:List Ext) (hfo:FileOk W.δ.disk W.δ.size Lv f ts) (hsub:∀e∈Lv,e∈W.live)
  (hr:W.δ.size≤W.α.room-W.α.used) (hf:W.δ.fault= -1) (hac:W.δ.acts≤100000000000) (hcnt:f.count≤1000000):
  Ct Tryz.prog 21 [pv bw,flv f] [wrow bw bd ba bs,cd,ca,cs] fun v H'=>
   ∃cd' ca' W' p cap co,v= .tuple #[.slice p f.count cap,.int .i64 0]∧H'=[wrow bw bd ba bs,cd',ca',cs,co]∧Wc bd ba bs W' cd' ca' cs∧Ev W W' (nblocks W.δ.size f.width f.count) 0∧W'.δ.disk=W.δ.disk∧W'.live=W.live∧W'.α.gs.Perm W.α.gs∧
    Vec 49 5 p f.count cap (flat ts) co:=by
 have hRd:=Read_u bw bd ba bs W cd ca cs h f ts Lv hfo hr
 have htl:=hfo.len
 obtain⟨⟨hs1,hs2⟩,_⟩:=h.dev.num
 have hp:=holds_pos hs1 hfo.w1 hfo.w2
 have hfl:flv f= .agg #[.int .i64 (f.first:Int),.int .i64 (f.blocks:Int),.int .i64 (f.width:Int),.int .i64 (f.count:Int)]:=rfl
 rw[hfl] at hRd⊢
 refine Ct.introD Tryz.func21 rfl Tryz.ntmps21 (nle rfl) fun w0=> ?_;dsimp only[argSlots,Nat.reduceAdd]
 repeat(refine st ?_;intros)
 refine R.call (hct:=hRd) (h:= ?_)
 rintro _ _ ⟨bx,g,ca1,α1,cx,cb,rfl,rfl,hW1,hE1,hg1,hgn,hr1⟩
 try dsimp only[List.cons_append,List.nil_append]
 repeat(refine st ?_;intros)
 refine G.loop (X:=ListX) (fun x=>x.i≤f.count∧Wc bd ba bs x.W x.cd x.ca cs∧Ev W x.W (nblocks W.δ.size f.width x.i) 0∧x.W.δ.disk=W.δ.disk∧x.W.live=W.live∧x.W.α.gs.Perm (g::W.α.gs)∧IsRd bw bx x.W f ts g x.i x.cx x.cb∧Vec 49 5 x.p x.i x.cap (flat (ts.take x.i)) x.co)
  (fun x=>[(6,pv bx),(8,.slice x.p x.i x.cap)])
  (fun x=>[wrow bw bd ba bs,x.cd,x.ca,cs,x.cx,x.cb,x.co]) (fun x=>f.count-x.i) ⟨0,cd,ca1,cx,cb,{W with α:=α1},none,0,[]⟩
  ⟨Nat.zero_le _,hW1,by rw[nblocks_zero hp];exact hE1,rfl,rfl,hg1,hr1,Vec.nil _ _⟩ (by repeat(first|exact trivial|refine⟨rfl,?_⟩)) (by repeat(first|exact Split.nil|(apply Split.cons;·(first|exact Take.nil|(repeat(first|exact Take.here|apply Take.there)))))) ?_
 rintro⟨i,cd1,ca1,cx1,cb1,W2,p,cap,co⟩ ⟨hi,hW2,hE2,hd2,hl2,hg2,hr2,hV⟩
 dsimp only at hi hW2 hE2 hd2 hl2 hg2 hr2 hV⊢
 have hacts:=hE2.acts
 have hsz:=hE2.size
 have hflt:=hE2.fault hf
 have hdl:nblocks W.δ.size f.width i≤i:=by
  unfold nblocks
  rw[Nat.div_le_iff_le_mul_add_pred (by omega)]
  have:=Nat.le_mul_of_pos_left i (show 0<holds W.δ.size f.width by omega)
  omega
 by_cases hin:i<f.count
 ·have hlt:i<ts.length:=by omega
  have hNx:=Next_u bw bd ba bs W2 cd1 ca1 cs hW2 bx f ts Lv (by rw[hd2,hsz];exact hfo) (by rw[hl2];exact hsub) g W.α.gs hg2 i cx1 cb1 hr2 ts[i] (List.getElem?_eq_getElem hlt) (by omega)
  have htv:tv ts[i]= .agg (tcells ts[i]).toArray:=rfl
  rw[htv] at hNx
  have htcl:(tcells ts[i]).length=5:=rfl
  have htcl2:(tcells ts[i]).length=1*5:=rfl
  have hall:(tcells ts[i]).all Value.oneCell'=true:=rfl
  have hset5:setL [.int .i64 0,.int .i64 0,.int .i64 0,.int .i64 0,.int .i64 0] 0 (tcells ts[i])=tcells ts[i]:=rfl
  have hd5:((tcells ts[i]).drop 0).take 5=tcells ts[i]:=rfl
  have hd51:((tcells ts[i]).drop 0).take (1*5)=tcells ts[i]:=rfl
  have hft:=flat_take_succ hlt
  generalize ts[i]=t at*
  repeat(refine st ?_;intros)
  refine R.call (hct:=hNx) (h:= ?_)
  rintro _ _ ⟨cd3,ca3,W3,cx3,cb3,rfl,hW3,hE3,hd3,hs3,hl3,⟨rfl,e6,e9⟩|⟨rfl,e6,_⟩⟩
  try dsimp only[List.cons_append,List.nil_append]
  ·repeat(refine st ?_;intros)
   rename_i p' cap' c' hV'
   have hV3:Vec 49 5 p' (i+1) cap' (flat (ts.take i)++tcells t) c':=hV'
   rw[←hft] at hV3
   refine Dn.round ⟨i+1,cd3,ca3,cx3,cb3,W3,p',cap',c'⟩ ⟨hin,hW3,?_,hd3.trans hd2,hl3.trans hl2,by rw[e6];exact hg2,e9,hV3⟩ (by dsimp only;omega)
   have:=hE2.trans hE3
   rw[hsz] at this
   refine this.weak ?_ (Nat.le_refl _)
   have hm:nblocks W.δ.size f.width i≤nblocks W.δ.size f.width (i+1):=nblocks_mono (by omega)
   dsimp only
   omega
  ·omega
 ·have hic:f.count=i:=by omega
  subst hic
  have hNe:=NextEnd_u bw bx W2 f ts g cx1 cb1 hr2
  have hRc:=(RClose_uB bw bd ba bs W2 cd1 ca1 cs hW2 bx f ts g W.α.gs hg2 f.count cx1 cb1 hr2).2
  have hz:tv T5.zero= .agg (tcells T5.zero).toArray:=rfl
  rw[hz] at hNe
  repeat(refine st ?_;intros)
  refine R.call (hct:=hNe) (h:= ?_)
  rintro _ _ ⟨rfl,rfl⟩
  try dsimp only[List.cons_append,List.nil_append]
  repeat(refine st ?_;intros)
  refine Go.SL.Lv.call (hc:=hRc) (h:= ?_)
  rintro _ _ ⟨ca3,α3,cx3,rfl,rfl,hW3,hE3,hg3,hx3⟩
  try dsimp only[List.cons_append,List.nil_append]
  (refine Go.SL.Lv.nil (Hr:=[wrow bw bd ba bs,cd1,ca3,cs,co]) Tryz.results21 (hR:= ?_);refine⟨cd1,ca3,{W2 with α:=α3},p,cap,co,rfl,rfl,hW3,by simpa using hE2.trans hE3,hd2,hl2,hg3,?_⟩)
  rw[←htl,List.take_length] at hV
  rw[←htl];exact hV
structure Seer (K:Type) where
 own:K→List Gr
 C:K→Chunk
 J:Wk→K→Nat→Prop
 B:Wk→K→Int→Prop
 κ:Nat
structure Seer.Ok {K:Type} (Z:Seer K):Prop where
 stay:∀W W' r i,Z.J W r i→W'.δ.size=W.δ.size→W'.δ.disk=W.δ.disk→W'.σ=W.σ→W'.live=W.live→(W.δ.fault= -1→W'.δ.fault= -1)→Z.J W' r i
 flt:∀W W' r i,Z.J W r i→W.δ.fault=0→W'.δ=W.δ.failed→W'.σ=W.σ→W'.live=W.live→Z.B W' r 6
 stayB:∀W α r e,Z.B W r e→Z.B {W with α:=α} r e
def SeeCt (bw bd ba bs:Nat) {K:Type} (Z:Seer K) (size room:Nat) (f:Fl) (ts:List T5) (fid:Nat) (fs us:List Value):Prop:=
 ∀(base:List Gr) (W:Wk) (cd ca cs:Chunk) (r:K) (i:Nat) (t:T5),Wc bd ba bs W cd ca cs→W.α.gs.Perm (Z.own r++base)→W.α.room=room→W.δ.size=size→Z.J W r i→ts[i]? =some t→W.δ.acts≤100000000000→
  Ct Tryz.prog fid (fs++[tv t]++us) [wrow bw bd ba bs,cd,ca,cs,Z.C r] fun v H'=>
   ∃cd' ca' cs' W' r' e,v= .int .i64 e∧H'=[wrow bw bd ba bs,cd',ca',cs',Z.C r']∧Wc bd ba bs W' cd' ca' cs'∧Ev W W' Z.κ 0∧W'.α.gs.Perm (Z.own r'++base)∧(e=0→Z.J W' r' (i+1))∧(e≠0→Z.B W' r' e)
structure OverX (K:Type) where
 i:Nat
 cd:Chunk
 ca:Chunk
 cs:Chunk
 cx:Chunk
 cb:Chunk
 W:Wk
 r:K
theorem Over_ct (bw bd ba bs:Nat) {K:Type} (Z:Seer K) (hZ:Z.Ok) (f:Fl) (ts:List T5) (Lv:List Ext) (fid:Nat) (hcal:Callable Tryz.prog fid) (fs us:List Value) (size room:Nat) (hsee:SeeCt bw bd ba bs Z size room f ts fid fs us) (W:Wk) (cd ca cs:Chunk) (h:Wc bd ba bs W cd ca cs) (r:K) (base:List Gr) (hg:W.α.gs.Perm (Z.own r++base)) (hrm:W.α.room=room) (hsz:W.δ.size=size) (hJ:Z.J W r 0)
  (hfo:∀W r i,Z.J W r i→FileOk W.δ.disk size Lv f ts∧∀e∈Lv,e∈W.live) (hr:W.δ.size≤W.α.room-W.α.used) (hac:W.δ.acts+nblocks size f.width f.count+f.count*Z.κ≤100000000000) (hcn:f.count≤1000000):
  Ct Tryz.prog 90 [pv bw,flv f,.func (.func fid) fs.toArray us.toArray] [wrow bw bd ba bs,cd,ca,cs,Z.C r] fun v H'=>
   ∃cd' ca' cs' W' r' e,v= .int .i64 e∧H'=[wrow bw bd ba bs,cd',ca',cs',Z.C r']∧Wc bd ba bs W' cd' ca' cs'∧Ev W W' (nblocks size f.width f.count+f.count*Z.κ) 0∧W'.α.gs.Perm (Z.own r'++base)∧(e=0→Z.J W' r' f.count)∧(e≠0→Z.B W' r' e):=by
 obtain⟨⟨hs1,hs2⟩,hbk,hfr⟩:=h.dev.num
 obtain⟨hfo0,hsub0⟩:=hfo W r 0 hJ
 have hk1:=hfo0.w1
 have hk5:=hfo0.w2
 have htl:=hfo0.len
 have hp:=holds_pos hs1 hk1 hk5
 have hRd:=Read_u bw bd ba bs W cd ca cs h f ts Lv (by rw[hsz];exact hfo0) hr
 have hflv:flv f= .agg #[.int .i64 (f.first:Int),.int .i64 (f.blocks:Int),.int .i64 (f.width:Int),.int .i64 (f.count:Int)]:=rfl
 rw[hflv] at hRd⊢
 refine Ct.introD Tryz.func90 rfl Tryz.ntmps90 (nle rfl) fun w0=> ?_;dsimp only[argSlots,Nat.reduceAdd]
 repeat(refine st ?_;intros)
 refine R.call (hct:=hRd) (h:= ?_)
 rintro _ _ ⟨bx,g,ca1,α1,cx,cb,rfl,rfl,hW1,hE1,hg1,hgn,hr1⟩
 try dsimp only[List.cons_append,List.nil_append]
 repeat(refine st ?_;intros)
 rename_i b4
 have hJ1:Z.J {W with α:=α1} r 0:=hZ.stay _ _ _ _ hJ rfl rfl rfl rfl id
 refine G.loop (X:=OverX K) (fun x=>x.i≤f.count∧Wc bd ba bs x.W x.cd x.ca x.cs∧Ev W x.W (nblocks size f.width x.i+x.i*Z.κ) 0∧x.W.α.gs.Perm (g::(Z.own x.r++base))∧Z.J x.W x.r x.i∧IsRd bw bx x.W f ts g x.i x.cx x.cb)
  (fun _=>[(7,pv bx),(2,.func (.func fid) fs.toArray us.toArray)]) (fun x=>[wrow bw bd ba bs,x.cd,x.ca,x.cs,Z.C x.r,x.cx,x.cb]) (fun x=>f.count-x.i) ⟨0,cd,ca1,cs,cx,cb,{W with α:=α1},r⟩
  ⟨Nat.zero_le _,hW1,hE1.weak (Nat.zero_le _) (Nat.le_refl _),hg1.trans (hg.cons _),hJ1,hr1⟩ (body:= ?_)
 rintro⟨i,cd2,ca2,cs2,cx2,cb2,W2,r2⟩ ⟨hi,hW2,hE2,hg2,hJ2,hrd2⟩
 dsimp only at hi hW2 hE2 hg2 hJ2 hrd2⊢
 have hsz2:W2.δ.size=size:=hE2.size.trans hsz
 have hrm2:W2.α.room=room:=hE2.room.trans hrm
 have hac2:=hE2.acts.2
 obtain⟨hfo2,hsub2⟩:=hfo W2 r2 i hJ2
 have hmi:nblocks size f.width i≤nblocks size f.width f.count:=nblocks_mono hi
 have hki:i*Z.κ≤f.count*Z.κ:=Nat.mul_le_mul_right _ hi
 have hz:tv T5.zero= .agg #[.int .i64 T5.zero.c0,.int .i64 T5.zero.c1,.int .i64 T5.zero.c2,.int .i64 T5.zero.c3,.int .i64 T5.zero.c4]:=rfl
 by_cases hlt:i<f.count
 ·have htg:ts[i]? =some ts[i]:=List.getElem?_eq_getElem (by omega)
  have hNx:=Next_u bw bd ba bs W2 cd2 ca2 cs2 hW2 bx f ts Lv (by rw[hsz2];exact hfo2) hsub2 g _ hg2 i cx2 cb2 hrd2 _ htg (by omega)
  have htv:tv ts[i]= .agg #[.int .i64 (ts[i]).c0,.int .i64 (ts[i]).c1,.int .i64 (ts[i]).c2,.int .i64 (ts[i]).c3,.int .i64 (ts[i]).c4]:=rfl
  rw[htv,hz,hsz2] at hNx
  have hS0:=fun W cd ca cs=>hsee (g::base) W cd ca cs r2 i ts[i]
  generalize ht:ts[i]=t at*
  have htv2:tv t= .agg #[.int .i64 t.c0,.int .i64 t.c1,.int .i64 t.c2,.int .i64 t.c3,.int .i64 t.c4]:=rfl
  have hm1:nblocks size f.width (i+1)≤nblocks size f.width f.count:=nblocks_mono hlt
  have hm2:nblocks size f.width i≤nblocks size f.width (i+1):=nblocks_mono (by omega)
  have hk1':(i+1)*Z.κ=i*Z.κ+Z.κ:=Nat.succ_mul _ _
  have hk2':(i+1)*Z.κ≤f.count*Z.κ:=Nat.mul_le_mul_right _ hlt
  repeat(refine st ?_;intros)
  refine R.call (hct:=hNx) (h:= ?_)
  rintro _ _ ⟨cd3,ca3,W3,cx3,cb3,rfl,hW3,hE3,hd3,hσ3,hl3,⟨rfl,hα3,hr3⟩|⟨rfl,hf3,hδ3,hg3,hx3⟩⟩
  try dsimp only[List.cons_append,List.nil_append]
  ·have hJ3:Z.J W3 r2 i:=hZ.stay _ _ _ _ hJ2 hE3.size hd3 hσ3 hl3 hE3.fault
   have hac3:=hE3.acts.2
   have hgp:W3.α.gs.Perm (Z.own r2++(g::base)):=by rw[hα3];exact hg2.trans List.perm_middle.symm
   have hS:=hS0 W3 cd3 ca3 cs2 hW3 hgp (by rw[hα3];exact hrm2) (hE3.size.trans hsz2) hJ3 htg (by omega)
   rw[htv2] at hS
   repeat(refine st ?_;intros)
   apply R.callV
   ·exact rfl
   ·exact hcal
   ·exact rfl
   ·exact hS
   ·exact(by repeat(first|exact Split.nil|(apply Split.cons;·(repeat(first|exact Take.here|apply Take.there|exact Take.nil)))))
   ·exact rfl
   ·exact nle rfl
   rintro _ _ ⟨cd4,ca4,cs4,W4,r4,e,rfl,rfl,hW4,hE4,hg4,hJ4,hB4⟩
   dsimp only[List.cons_append,List.nil_append]
   have hr4:IsRd bw bx W4 f ts g (i+1) cx3 cb3:=hr3.move hE4.size
   have hE24:=(hE2.trans hE3).trans hE4
   have hg5:W4.α.gs.Perm (g::(Z.own r4++base)):=hg4.trans List.perm_middle
   by_cases he:e=0
   ·subst he
    repeat(refine st ?_;intros)
    refine Dn.round ⟨i+1,cd4,ca4,cs4,cx3,cb3,W4,r4⟩ ⟨hlt,hW4,hE24.weak (by dsimp only;omega) (Nat.le_refl _),hg5,hJ4 rfl,hr4⟩ (by dsimp only;omega)
   ·repeat(refine st ?_;intros)
    have hRc:=RClose_uB bw bd ba bs W4 cd4 ca4 cs4 hW4 bx f ts g _ hg5 (i+1) cx3 cb3 hr4
    refine Go.SL.Lv.call (hc:=hRc.2) (h:= ?_)
    rintro _ _ ⟨ca5,α5,cx5,rfl,rfl,hW5,hE5,hg6,hx5⟩
    try dsimp only[List.cons_append,List.nil_append]
    (refine Go.SL.Lv.nil (Hr:=[wrow bw bd ba bs,cd4,ca5,cs4,Z.C r4]) Tryz.results90 (hR:= ?_);exact⟨cd4,ca5,cs4,_,r4,e,rfl,rfl,hW5,(hE24.trans hE5).weak (by omega) (Nat.le_refl _),hg6,fun h0=>absurd h0 he,fun _=>hZ.stayB _ _ _ _ (hB4 he)⟩)
  ·have hB3:Z.B W3 r2 6:=hZ.flt W2 W3 r2 i hJ2 hf3 hδ3 hσ3 hl3
   repeat(refine st ?_;intros)
   have hRc:=RClosed_uB bx cx3 hx3
   refine Go.SL.Lv.call (hc:=hRc.2) (h:= ?_)
   rintro _ _ ⟨rfl,rfl⟩
   try dsimp only[List.cons_append,List.nil_append]
   (refine Go.SL.Lv.nil (Hr:=[wrow bw bd ba bs,cd3,ca3,cs2,Z.C r2]) Tryz.results90 (hR:= ?_);exact⟨cd3,ca3,cs2,W3,r2,6,rfl,rfl,hW3,(hE2.trans hE3).weak (by omega) (Nat.le_refl _),hg3,fun h0=>by omega,fun _=>hB3⟩)
 ·obtain rfl:i=f.count:=by omega
  have hNe:=NextEnd_u bw bx W2 f ts g cx2 cb2 hrd2
  rw[hz] at hNe
  repeat(refine st ?_;intros)
  refine R.call (hct:=hNe) (h:= ?_)
  rintro _ _ ⟨rfl,rfl⟩
  try dsimp only[List.cons_append,List.nil_append]
  repeat(refine st ?_;intros)
  have hRc:=RClose_uB bw bd ba bs W2 cd2 ca2 cs2 hW2 bx f ts g _ hg2 f.count cx2 cb2 hrd2
  refine Go.SL.Lv.call (hc:=hRc.2) (h:= ?_)
  rintro _ _ ⟨ca5,α5,cx5,rfl,rfl,hW5,hE5,hg6,hx5⟩
  try dsimp only[List.cons_append,List.nil_append]
  (refine Go.SL.Lv.nil (Hr:=[wrow bw bd ba bs,cd2,ca5,cs2,Z.C r2]) Tryz.results90 (hR:= ?_);exact⟨cd2,ca5,cs2,_,r2,0,rfl,rfl,hW5,(hE2.trans hE5).weak (by omega) (Nat.le_refl _),hg6,fun _=>hZ.stay _ _ _ _ hJ2 rfl rfl rfl rfl id,fun h0=>absurd rfl h0⟩)
def putV (bx:Nat):Value:= .func (.func 74) #[pv bx] #[]
def Putter (bx kk:Nat) (Pst:List T5→Chunk→Prop) (Br:Chunk→Prop) (bnd:Nat):Prop:=
 ∀ps X t,Pst ps X→okT kk t→ps.length<bnd→Ct Tryz.prog 74 [pv bx,tv t] [X] fun v H'=>
  ∃X',H'=[X']∧((v= .int .i64 0∧Pst (ps++[t]) X')∨(v= .int .i64 6∧Br X'))
structure Maker (K:Type) where
 C:K→Hp
 outs:K→T5→List T5
 next:K→T5→K
 err:K→T5→Option Nat
def MakeU {K:Type} (M:Maker K) (kk:Nat) (ok:K→T5→Prop) (mk:Nat) (fs us:List Value):Prop:=
 ∀bx Pst Br bnd,Putter bx kk Pst Br bnd→∀ps X k t,Pst ps X→ok k t→ps.length+(M.outs k t).length≤bnd→
  Ct Tryz.prog mk (fs++[tv t,putV bx]++us) (X::M.C k) fun v H'=>∃X' k',H'=X'::M.C k'∧
   ((v= .int .i64 0∧M.err k t=none∧k'=M.next k t∧Pst (ps++M.outs k t) X')∨(v= .int .i64 6∧Br X')∨
    (∃n:Nat,M.err k t=some n∧n≠0∧v= .int .i64 (n:Int)∧∃ps',Pst ps' X'))
namespace Maker
variable {K:Type} (M:Maker K)
def st:K→List T5→K
 |k,[]=>k
 |k,t::ts=>st (M.next k t) ts
def all:K→List T5→List T5
 |_,[]=>[]
 |k,t::ts=>M.outs k t++all (M.next k t) ts
def bad:K→List T5→Option Nat
 |_,[]=>none
 |k,t::ts=>match M.err k t with
  |some n=>some n
  |none=>bad (M.next k t) ts
def oks (ok:K→T5→Prop):K→List T5→Prop
 |_,[]=>True
 |k,t::ts=>ok k t∧(M.err k t=none→oks ok (M.next k t) ts)
variable {M}
theorem st_app:∀(a b:List T5) (k:K),M.st k (a++b)=M.st (M.st k a) b
 |[],_,_=>rfl
 |t::a,b,k=>st_app a b (M.next k t)
theorem all_app:∀(a b:List T5) (k:K),M.all k (a++b)=M.all k a++M.all (M.st k a) b
 |[],_,_=>rfl
 |t::a,b,k=>by simp only[List.cons_append,all,st,all_app a b,List.append_assoc]
theorem bad_app:∀(a b:List T5) (k:K),M.bad k (a++b)=(match M.bad k a with|some n=>some n|none=>M.bad (M.st k a) b)
 |[],_,_=>rfl
 |t::a,b,k=>by
  simp only[List.cons_append,bad,st]
  cases M.err k t with
  |some n=>rfl
  |none=>exact bad_app a b _
theorem oks_at {ok:K→T5→Prop}:∀{ts:List T5} {k:K} {i:Nat} {t:T5},M.oks ok k ts→M.bad k (ts.take i)=none→ts[i]? =some t→ok (M.st k (ts.take i)) t
 |[],_,_,_,_,_,h=>by simp at h
 |t::ts,k,0,u,h,_,h2=>by simp only[List.getElem?_cons_zero,Option.some.injEq] at h2;subst h2;exact h.1
 |t::ts,k,i+1,u,h,hb,h2=>by
  simp only[List.take_succ_cons,bad] at hb
  cases he:M.err k t with
  |some n=>rw[he] at hb;cases hb
  |none=>
   rw[he] at hb
   exact oks_at (ts:=ts) (h.2 he) hb (by simpa using h2)
theorem take_succ {ts:List T5} {i:Nat} {t:T5} (h:ts[i]? =some t):ts.take (i+1)=ts.take i++[t]:=by rw[List.take_add_one,h];rfl
theorem all_le {ts:List T5} {k:K} (i:Nat):(M.all k (ts.take i)).length≤(M.all k ts).length:=by
 have:=congrArg List.length (all_app (M:=M) (ts.take i) (ts.drop i) k)
 rw[List.take_append_drop,List.length_append] at this
 omega
theorem bad_take {ts:List T5} {k:K} {i n:Nat} (h:M.bad k (ts.take i)=some n):M.bad k ts=some n:=by
 have:=bad_app (M:=M) (ts.take i) (ts.drop i) k
 rw[List.take_append_drop,h] at this
 exact this
theorem oks_app {ok:K→T5→Prop}:∀{a b:List T5} {k:K},M.oks ok k (a++b)→M.oks ok k a∧(M.bad k a=none→M.oks ok (M.st k a) b)
 |[],_,_,h=>⟨trivial,fun _=>h⟩
 |t::a,b,k,h=>by
  refine⟨⟨h.1,fun he=>(oks_app (h.2 he)).1⟩,fun hb=> ?_⟩
  simp only[bad] at hb
  cases he:M.err k t with
  |some n=>rw[he] at hb;cases hb
  |none=>rw[he] at hb;exact(oks_app (h.2 he)).2 hb
theorem all_len {n:Nat} (h:∀k t,(M.outs k t).length≤n):∀(ts:List T5) (k:K),(M.all k ts).length≤ts.length*n
 |[],_=>Nat.zero_le _
 |t::ts,k=>by
  have h1:=h k t
  have h2:=all_len h ts (M.next k t)
  simp only[all,List.length_append,List.length_cons,Nat.succ_mul]
  omega
end Maker
theorem flatTwo (X:Chunk) (H:Hp):(X::H).flatten.Perm ([X,H.flatten].flatten):=by simp
def eachC (bm bx2:Nat) (mk:Nat) (fs us:List Value) (bx:Nat):Hp:=[[(bm,row [.func (.func mk) fs.toArray us.toArray] 88)],[(bx2,row [pv bx] 120)]]
theorem Each1ct {K:Type} (M:Maker K) (kk:Nat) (ok:K→T5→Prop) (mk:Nat) (hcal:Callable Tryz.prog mk) (fs us:List Value) (hM:MakeU M kk ok mk fs us) (bm bx2 bx:Nat) (Pst:List T5→Chunk→Prop) (Br:Chunk→Prop) (bnd:Nat) (hP:Putter bx kk Pst Br bnd)
  (ps:List T5) (X:Chunk) (k:K) (t:T5) (hX:Pst ps X) (hk:ok k t) (hb:ps.length+(M.outs k t).length≤bnd):
  Ct Tryz.prog 126 [tv t,pv bm,pv bx2] [[(bm,row [.func (.func mk) fs.toArray us.toArray] 88)],[(bx2,row [pv bx] 120)],X,(M.C k).flatten] fun v H'=>
   ∃X' k',H'=[[(bm,row [.func (.func mk) fs.toArray us.toArray] 88)],[(bx2,row [pv bx] 120)],X',(M.C k').flatten]∧
   ((v= .int .i64 0∧M.err k t=none∧k'=M.next k t∧Pst (ps++M.outs k t) X')∨(v= .int .i64 6∧Br X')∨
    (∃n:Nat,M.err k t=some n∧n≠0∧v= .int .i64 (n:Int)∧∃ps',Pst ps' X')):=by
 have hC:Ct Tryz.prog mk (fs++[tv t,putV bx]++us) [X,(M.C k).flatten] fun v H'=>∃X' k',H'=[X',(M.C k').flatten]∧
   ((v= .int .i64 0∧M.err k t=none∧k'=M.next k t∧Pst (ps++M.outs k t) X')∨(v= .int .i64 6∧Br X')∨
    (∃n:Nat,M.err k t=some n∧n≠0∧v= .int .i64 (n:Int)∧∃ps',Pst ps' X')):=by
  refine Ct.convP (hM bx Pst Br bnd hP ps X k t hX hk hb) (flatTwo _ _).symm ?_
  rintro v H' ⟨X',k',rfl,h⟩
  exact⟨_,⟨X',k',rfl,h⟩,flatTwo _ _⟩
 have htv:tv t= .agg #[.int .i64 t.c0,.int .i64 t.c1,.int .i64 t.c2,.int .i64 t.c3,.int .i64 t.c4]:=rfl
 rw[htv] at hC⊢
 unfold putV at hC
 refine Ct.intro Tryz.func126 rfl Tryz.ntmps126 (nle rfl) fun w0=> ?_;dsimp only[argSlots,Nat.reduceAdd]
 repeat(refine st ?_;intros)
 apply R.callV
 ·exact rfl
 ·exact hcal
 ·exact rfl
 ·exact hC
 ·exact(by repeat(first|exact Split.nil|(apply Split.cons;·(repeat(first|exact Take.here|apply Take.there|exact Take.nil)))))
 ·exact rfl
 ·exact nle rfl
 rintro _ _ ⟨X',k',rfl,h⟩
 dsimp only[List.cons_append,List.nil_append]
 obtain⟨e,rfl⟩:∃e:Int,_=Value.int .i64 e:=by
  rcases h with⟨e,_⟩|⟨e,_⟩|⟨n,_,_,e,_⟩
  ·exact⟨_,e⟩
  ·exact⟨_,e⟩
  ·exact⟨_,e⟩
 repeat(refine st ?_;intros)
 (refine Dn.post (Hr:=[[(bm,row [.func (.func mk) fs.toArray us.toArray] 88)],[(bx2,row [pv bx] 120)],X',(M.C k').flatten]) Tryz.results126 (hR:= ?_);exact⟨X',k',rfl,h⟩)
end Go.Proofs.YtammjnjpheobaaaGreat
