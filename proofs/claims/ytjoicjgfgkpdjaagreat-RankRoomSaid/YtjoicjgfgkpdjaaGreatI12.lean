/-
  Parts of the proof, put together: User, Lay, SrtPlain, SrtPlain2. No condition.
-/
import Derived.Test.YtjoicjgfgkpdjaaGreatI11
set_option linter.unusedVariables false
set_option linter.unusedSimpArgs false
set_option linter.unnecessarySimpa false
set_option maxHeartbeats 4000000
namespace Go.Proofs.YtjoicjgfgkpdjaaGreat
open Go.SL Go.Spc Go.Tup
def IsWr (bw bx:Nat) (W:Wk) (first nb k bound:Nat) (g:Gr) (ps:List T5) (cx cb:Chunk):Prop:=
 g.n=W.δ.size∧∃buf,cx=[(bx,row (wrCells bw first nb k ps.length bound g.bb ((ps.length%holds W.δ.size k)*k) (ps.length/holds W.δ.size k) false) 142)]∧cb=[(g.br,row (wcells buf) 125)]∧
  WrOk W.δ.disk W.δ.size k nb bound first ps buf
def ClosedWr (bx:Nat) (cx:Chunk):Prop:=∃bw first nb k cnt bound bb n a,cx=[(bx,row (wrCells bw first nb k cnt bound bb n a true) 142)]
def IsRd (bw bx:Nat) (W:Wk) (f:Fl) (ts:List T5) (g:Gr) (pos:Nat) (cx cb:Chunk):Prop:=
 g.n=W.δ.size∧∃buf n a,cx=[(bx,row (rdCells bw f g.bb n a (nblocks W.δ.size f.width pos) pos false) 153)]∧cb=[(g.br,row (wcells buf) 125)]∧RdOk W.δ.size f.width f.count ts pos buf n a
def ClosedRd (bx:Nat) (cx:Chunk):Prop:=∃bw f bb n a kb pos,cx=[(bx,row (rdCells bw f bb n a kb pos true) 153)]
def Keep (Lv:List Ext) (W W':Wk):Prop:=∀x,inF Lv x→W'.δ.disk x=W.δ.disk x
theorem Keep.refl (Lv:List Ext) (W:Wk):Keep Lv W W:=fun _ _=>rfl
theorem Keep.trans {Lv:List Ext} {W W1 W2:Wk} (h:Keep Lv W W1) (h2:Keep Lv W1 W2):Keep Lv W W2:=fun x hx=>(h2 x hx).trans (h x hx)
theorem Keep.sub {Lv Lv':List Ext} {W W1:Wk} (h:Keep Lv W W1) (hs:∀e∈Lv',e∈Lv):Keep Lv' W W1:=fun x ⟨e,he,h2⟩=>h x ⟨e,hs e he,h2⟩
theorem keep_out {σ:Sp} {live Lv:List Ext} {first nb:Nat} (hv:Live σ live) (hl:LvOf first nb Lv live) {d d':Nat→Option (List Int)} (h:∀x,¬(first≤x∧x<first+nb)→d' x=d x):∀x,inF Lv x→d' x=d x:=by
 intro x hx
 apply h
 rintro⟨h1,h2⟩
 unfold LvOf at hl
 by_cases h0:nb=0
 ·omega
 ·rw[if_neg h0] at hl
  exact(hv.perm hl).other (e:=(first,nb)) h1 h2 hx
theorem IsRd.move {bw bx:Nat} {W W':Wk} {f:Fl} {ts:List T5} {g:Gr} {pos:Nat} {cx cb:Chunk} (h:IsRd bw bx W f ts g pos cx cb) (hs:W'.δ.size=W.δ.size):IsRd bw bx W' f ts g pos cx cb:=by
 unfold IsRd at*
 rw[hs];exact h
theorem IsWr.move {bw bx:Nat} {W W':Wk} {first nb k bound:Nat} {g:Gr} {ps:List T5} {cx cb:Chunk} (h:IsWr bw bx W first nb k bound g ps cx cb) (hs:W'.δ.size=W.δ.size) (hd:∀x,first≤x→x<first+nb→W'.δ.disk x=W.δ.disk x):IsWr bw bx W' first nb k bound g ps cx cb:=by
 unfold IsWr at*
 rw[hs]
 obtain⟨h1,buf,h2,h3,h4⟩:=h
 refine⟨h1,buf,h2,h3,{h4 with onto:=fun j hj=> ?_}⟩
 rw[←h4.onto j hj,hd]
 ·omega
 ·have hq:ps.length/holds W.δ.size k≤nb:=by
   rw[h4.nbe]
   refine Nat.le_trans ?_ (nblocks_mono h4.cnt)
   unfold nblocks
   by_cases hh:holds W.δ.size k=0
   ·rw[hh];simp
   ·exact Nat.div_le_div_right (by omega)
  omega
theorem Put_u (bw bd ba bs:Nat) (W:Wk) (cd ca cs:Chunk) (h:Wc bd ba bs W cd ca cs) (bx first nb k bound:Nat) (g:Gr) (ps:List T5) (cx cb:Chunk) (hw:IsWr bw bx W first nb k bound g ps cx cb) (Gs:List Gr) (hg:W.α.gs.Perm (g::Gs))
  (Lv:List Ext) (hl:LvOf first nb Lv W.live) (hlt:ps.length<bound) (t:T5) (ht:okT k t) (hac:W.δ.acts≤1000000000000):
  Ct Tryz.prog 46 [pv bx,tv t] [wrow bw bd ba bs,cd,ca,cs,cx,cb] fun v H'=>
   ∃cd' ca' cs' W' cx' cb',H'=[wrow bw bd ba bs,cd',ca',cs',cx',cb']∧Wc bd ba bs W' cd' ca' cs'∧Ev W W' ((ps.length+1)/holds W.δ.size k-ps.length/holds W.δ.size k) 0∧Keep Lv W W'∧
    ((v= .int .i64 0∧W'.α=W.α∧W'.σ=W.σ∧W'.live=W.live∧IsWr bw bx W' first nb k bound g (ps++[t]) cx' cb')∨
     (v= .int .i64 6∧W.δ.fault=0∧W'.δ=W.δ.failed∧W'.α.gs.Perm Gs∧W'.live.Perm Lv∧ClosedWr bx cx')):=by
 obtain⟨hgn,buf,rfl,rfl,ho⟩:=hw
 refine(Put_walk bw bd ba bs W cd ca cs h bx first nb k bound g Gs hg hgn Lv hl ps buf ho hlt t ht hac).mono ?_
 rintro v H' (⟨rfl,cd',ca',δ',buf',rfl,hp,hd,e1,e2,e3,e4,e5,e6⟩|⟨rfl,hf,cb',cd',ca',cs',W',cnt,n,a,rfl,hW,hE,e1,e2,e3⟩)
 ·refine⟨cd',ca',cs,{W with δ:=δ'},_,_,rfl,⟨hd,h.ar.perm hp,h.sp,e2.trans h.nn,h.live⟩,⟨e1,rfl,⟨by rw[e4];exact Nat.le_add_right _ _,by rw[e4];exact Nat.le_refl _⟩,e3,rfl,Nat.le_refl _⟩,keep_out h.live hl e5,.inl ⟨rfl,rfl,rfl,rfl,?_⟩⟩
  unfold IsWr
  dsimp only
  rw[e1]
  refine⟨hgn,buf',by simp,rfl,e6⟩
 ·exact⟨cd',ca',cs',W',_,_,rfl,hW,hE.weak (Nat.zero_le _) (Nat.le_refl _),fun x _=>by rw[e1];rfl,.inr ⟨rfl,hf,e1,e2,e3,_,_,_,_,_,_,_,_,_,rfl⟩⟩
theorem Close_u (bw bd ba bs:Nat) (W:Wk) (cd ca cs:Chunk) (h:Wc bd ba bs W cd ca cs) (bx first nb k bound:Nat) (g:Gr) (ps:List T5) (cx cb:Chunk) (hw:IsWr bw bx W first nb k bound g ps cx cb) (Gs:List Gr) (hg:W.α.gs.Perm (g::Gs))
  (Lv:List Ext) (hl:LvOf first nb Lv W.live) (hac:W.δ.acts≤1000000000000):
  Ct Tryz.prog 48 [pv bx] [wrow bw bd ba bs,cd,ca,cs,cx,cb] fun v H'=>
   ∃cd' ca' cs' W' cx' cb',H'=[wrow bw bd ba bs,cd',ca',cs',cx',cb']∧Wc bd ba bs W' cd' ca' cs'∧Ev W W' (nblocks W.δ.size k ps.length-ps.length/holds W.δ.size k) 0∧Keep Lv W W'∧W'.α.gs.Perm Gs∧ClosedWr bx cx'∧
    ((∃f,v= .tuple #[flv f,.int .i64 0]∧W'.live=(if f.blocks=0 then Lv else f.ext::Lv)∧f.width=k∧f.count=ps.length∧FileOk W'.δ.disk W.δ.size [f.ext] f ps)∨
     (v= .tuple #[flv ⟨0,0,0,0⟩,.int .i64 6]∧W.δ.fault=0∧W'.δ=W.δ.failed∧W'.live.Perm Lv)):=by
 obtain⟨hgn,buf,rfl,rfl,ho⟩:=hw
 refine(Close_walk bw bd ba bs W cd ca cs h bx first nb k bound g Gs hg hgn Lv hl ps buf ho hac).mono ?_
 rintro v H' (⟨cd',ca',cs',W',f,n,rfl,rfl,hW,hE,e1,e2,e3,e4,e5,e6,e7,e8⟩|⟨rfl,hf,cd',ca',cs',W',cnt,n,a,rfl,hW,hE,e1,e2,e3⟩)
 ·refine⟨cd',ca',cs',W',_,_,rfl,hW,{hE with acts:=⟨hE.acts.1,Nat.le_of_eq e1⟩},keep_out h.live hl e8,e2,⟨_,_,_,_,_,_,_,_,_,rfl⟩,.inl ⟨f,rfl,e3,e4,e5,?_⟩⟩
  refine⟨by rw[e4];exact ho.w1,by rw[e4];exact ho.w2,e5.symm,?_,by rw[e6,e4,e5],?_,?_,fun _=>List.mem_singleton.2 rfl⟩
  ·rw[e5];exact Nat.le_trans ho.cnt ho.hb
  ·rw[e4];exact ho.fit
  ·rw[e4];exact e7
 ·exact⟨cd',ca',cs',W',_,_,rfl,hW,hE.weak (Nat.zero_le _) (Nat.le_refl _),fun x _=>by rw[e1];rfl,e2,⟨_,_,_,_,_,_,_,_,_,rfl⟩,.inr ⟨rfl,hf,e1,e3⟩⟩
theorem Drop_uB (bw bd ba bs:Nat) (W:Wk) (cd ca cs:Chunk) (h:Wc bd ba bs W cd ca cs) (bx first nb k bound:Nat) (g:Gr) (ps:List T5) (cx cb:Chunk) (hw:IsWr bw bx W first nb k bound g ps cx cb) (Gs:List Gr) (hg:W.α.gs.Perm (g::Gs))
  (Lv:List Ext) (hl:LvOf first nb Lv W.live):
  Cb Tryz.prog 47 [pv bx] [wrow bw bd ba bs,cd,ca,cs,cx,cb] fun v H'=>
   ∃cd' ca' cs' W' cx' cb',v= .tuple #[]∧H'=[wrow bw bd ba bs,cd',ca',cs',cx',cb']∧Wc bd ba bs W' cd' ca' cs'∧Ev W W' 0 0∧W'.δ=W.δ∧W'.α.gs.Perm Gs∧W'.live.Perm Lv∧ClosedWr bx cx':=by
 obtain⟨hgn,buf,rfl,rfl,ho⟩:=hw
 refine(Drop_cb bw bd ba bs W cd ca cs h bx first nb k ps.length bound _ _ g Gs hg Lv hl [(g.br,row (wcells buf) 125)]).mono ?_
 rintro v H' ⟨rfl,cd',ca',cs',W',cnt,n,a,rfl,hW,hE,e1,e2,e3⟩
 exact⟨cd',ca',cs',W',_,_,rfl,rfl,hW,hE,e1,e2,e3,_,_,_,_,_,_,_,_,_,rfl⟩
theorem Dropped_uB (bx:Nat) (cx:Chunk) (h:ClosedWr bx cx):Cb Tryz.prog 47 [pv bx] [cx] (fun v' H'=>v'= .tuple #[]∧H'=[cx]):=by
 obtain⟨bw,first,nb,k,cnt,bound,bb,n,a,rfl⟩:=h
 exact Drop_closedB bw first nb k cnt bound bb n a bx
theorem Dropped_u (bx:Nat) (cx:Chunk) (h:ClosedWr bx cx):CtQ Tryz.prog 47 [pv bx] [cx] (.tuple #[]):=(Dropped_uB bx cx h).1
theorem Next_u (bw bd ba bs:Nat) (W:Wk) (cd ca cs:Chunk) (h:Wc bd ba bs W cd ca cs) (bx:Nat) (f:Fl) (ts:List T5) (Lv:List Ext) (hfo:FileOk W.δ.disk W.δ.size Lv f ts) (hsub:∀e∈Lv,e∈W.live) (g:Gr) (Gs:List Gr) (hg:W.α.gs.Perm (g::Gs))
  (pos:Nat) (cx cb:Chunk) (hr:IsRd bw bx W f ts g pos cx cb) (t:T5) (ht:ts[pos]? =some t) (hac:W.δ.acts≤1000000000000):
  Ct Tryz.prog 51 [pv bx] [wrow bw bd ba bs,cd,ca,cs,cx,cb] fun v H'=>
   ∃cd' ca' W' cx' cb',H'=[wrow bw bd ba bs,cd',ca',cs,cx',cb']∧Wc bd ba bs W' cd' ca' cs∧Ev W W' (nblocks W.δ.size f.width (pos+1)-nblocks W.δ.size f.width pos) 0∧W'.δ.disk=W.δ.disk∧W'.σ=W.σ∧W'.live=W.live∧
    ((v= .tuple #[tv t,.bool true,.int .i64 0]∧W'.α=W.α∧IsRd bw bx W' f ts g (pos+1) cx' cb')∨
     (v= .tuple #[tv T5.zero,.bool false,.int .i64 6]∧W.δ.fault=0∧W'.δ=W.δ.failed∧W'.α.gs.Perm Gs∧ClosedRd bx cx')):=by
 obtain⟨hgn,buf,n,a,rfl,rfl,ho⟩:=hr
 have hlt:pos<f.count:=by have:=(List.getElem?_eq_some_iff.1 ht).1;have:=hfo.len;omega
 refine(Next_walk bw bd ba bs W cd ca cs h bx f ts Lv hfo hsub g Gs hg hgn pos n a buf ho hlt t ht hac).mono ?_
 rintro v H' (⟨cd',ca',δ',buf',n',a',rfl,rfl,hp,hd,e1,e2,e3,e4,e5,e6⟩|⟨rfl,hf,cd',ca',α',n',a',kb,pos',rfl,hd,hA,e1,e2⟩)
 ·refine⟨cd',ca',{W with δ:=δ'},_,_,rfl,⟨hd,h.ar.perm hp,h.sp,e2.trans h.nn,h.live⟩,⟨e1,rfl,⟨by rw[e4];exact Nat.le_add_right _ _,by rw[e4];exact Nat.le_refl _⟩,e3,rfl,Nat.le_refl _⟩,e5,rfl,rfl,.inl ⟨rfl,rfl,?_⟩⟩
  unfold IsRd
  dsimp only
  rw[e1]
  exact⟨hgn,buf',n',a',rfl,rfl,e6⟩
 ·exact⟨cd',ca',{W with δ:=W.δ.failed,α:=α'},_,_,rfl,⟨hd,hA,h.sp,h.nn,h.live⟩,⟨rfl,rfl,⟨Nat.le_refl _,Nat.le_add_right _ _⟩,fun _=>rfl,e2,Nat.le_refl _⟩,rfl,rfl,rfl,.inr ⟨rfl,hf,rfl,e1,_,_,_,_,_,_,_,rfl⟩⟩
theorem NextEnd_u (bw bx:Nat) (W:Wk) (f:Fl) (ts:List T5) (g:Gr) (cx cb:Chunk) (hr:IsRd bw bx W f ts g f.count cx cb):
  CtQ Tryz.prog 51 [pv bx] [cx] (.tuple #[tv T5.zero,.bool false,.int .i64 0]):=by
 obtain⟨hgn,buf,n,a,rfl,rfl,ho⟩:=hr
 exact Next_end bw bx f g.bb n a _
theorem RClose_uB (bw bd ba bs:Nat) (W:Wk) (cd ca cs:Chunk) (h:Wc bd ba bs W cd ca cs) (bx:Nat) (f:Fl) (ts:List T5) (g:Gr) (Gs:List Gr) (hg:W.α.gs.Perm (g::Gs)) (pos:Nat) (cx cb:Chunk) (hr:IsRd bw bx W f ts g pos cx cb):
  Cb Tryz.prog 50 [pv bx] [wrow bw bd ba bs,ca,cx] fun v H'=>
   ∃ca' α' cx',v= .tuple #[]∧H'=[wrow bw bd ba bs,ca',cx']∧Wc bd ba bs {W with α:=α'} cd ca' cs∧Ev W {W with α:=α'} 0 0∧α'.gs.Perm Gs∧ClosedRd bx cx':=by
 obtain⟨hgn,buf,n,a,rfl,rfl,ho⟩:=hr
 refine(RClose_cb bw bd ba bs W.α ca h.ar f n a _ pos bx g Gs hg).mono ?_
 rintro v H' ⟨ca',α',rfl,hA,e1,e2,rfl⟩
 exact⟨ca',α',_,rfl,rfl,⟨h.dev,hA,h.sp,h.nn,h.live⟩,⟨rfl,rfl,⟨Nat.le_refl _,Nat.le_refl _⟩,id,e2,Nat.le_refl _⟩,e1,_,_,_,_,_,_,_,rfl⟩
theorem RClose_u (bw bd ba bs:Nat) (W:Wk) (cd ca cs:Chunk) (h:Wc bd ba bs W cd ca cs) (bx:Nat) (f:Fl) (ts:List T5) (g:Gr) (Gs:List Gr) (hg:W.α.gs.Perm (g::Gs)) (pos:Nat) (cx cb:Chunk) (hr:IsRd bw bx W f ts g pos cx cb):
  Ct Tryz.prog 50 [pv bx] [wrow bw bd ba bs,ca,cx] fun v H'=>
   ∃ca' α' cx',v= .tuple #[]∧H'=[wrow bw bd ba bs,ca',cx']∧Wc bd ba bs {W with α:=α'} cd ca' cs∧Ev W {W with α:=α'} 0 0∧α'.gs.Perm Gs∧ClosedRd bx cx':=(RClose_uB bw bd ba bs W cd ca cs h bx f ts g Gs hg pos cx cb hr).1
theorem RClosed_uB (bx:Nat) (cx:Chunk) (h:ClosedRd bx cx):Cb Tryz.prog 50 [pv bx] [cx] (fun v' H'=>v'= .tuple #[]∧H'=[cx]):=by
 obtain⟨bw,f,bb,n,a,kb,pos,rfl⟩:=h
 exact RClose_closedB bw f bb n a kb pos bx
theorem RClosed_u (bx:Nat) (cx:Chunk) (h:ClosedRd bx cx):CtQ Tryz.prog 50 [pv bx] [cx] (.tuple #[]):=(RClosed_uB bx cx h).1
theorem Read_u (bw bd ba bs:Nat) (W:Wk) (cd ca cs:Chunk) (h:Wc bd ba bs W cd ca cs) (f:Fl) (ts:List T5) (Lv:List Ext) (hfo:FileOk W.δ.disk W.δ.size Lv f ts) (hr:W.δ.size≤W.α.room-W.α.used):
  Ct Tryz.prog 49 [pv bw,flv f] [wrow bw bd ba bs,cd,ca,cs] fun v H'=>
   ∃bx g ca' α' cx cb,v= .tuple #[pv bx,.int .i64 0]∧H'=[wrow bw bd ba bs,cd,ca',cs,cx,cb]∧Wc bd ba bs {W with α:=α'} cd ca' cs∧Ev W {W with α:=α'} 0 0∧α'.gs.Perm (g::W.α.gs)∧g.n=W.δ.size∧IsRd bw bx {W with α:=α'} f ts g 0 cx cb:=by
 refine(Read_make bw bd ba bs W cd ca cs h f hfo.w1 hfo.w2 hfo.cnt hfo.blk hr).mono ?_
 rintro v H' ⟨bx,g,ca',α',rfl,rfl,hA,hgn,e1,e2⟩
 obtain⟨hs,_⟩:=h.dev.num
 have hp:=holds_pos hs.1 hfo.w1 hfo.w2
 refine⟨bx,g,ca',α',_,_,rfl,rfl,⟨h.dev,hA,h.sp,h.nn,h.live⟩,⟨rfl,rfl,⟨Nat.le_refl _,Nat.le_refl _⟩,id,e2,Nat.le_refl _⟩,e1,hgn,hgn,List.replicate W.δ.size 0,0,0,?_,rfl,RdOk.start hp hfo.len⟩
 show _=[(bx,row (rdCells bw f g.bb 0 0 (nblocks W.δ.size f.width 0) 0 false) 153)]
 rw[nblocks_zero hp]
theorem Write_u (bw bd ba bs:Nat) (W:Wk) (cd ca cs:Chunk) (h:Wc bd ba bs W cd ca cs) (k bound:Nat) (h1:1≤k) (h2:k≤5) (hb:bound≤100000000) (hr:W.δ.size≤W.α.room-W.α.used):
  Ct Tryz.prog 45 [pv bw,.int .i64 (k:Int),.int .i64 (bound:Int)] [wrow bw bd ba bs,cd,ca,cs] fun v H'=>
   (nblocks W.δ.size k bound≤big W.σ.free∧∃bx first g cd' ca' cs' W' cx cb,v= .tuple #[pv bx,.int .i64 0]∧H'=[wrow bw bd ba bs,cd',ca',cs',cx,cb]∧Wc bd ba bs W' cd' ca' cs'∧Ev W W' 0 (nblocks W.δ.size k bound)∧W'.δ=W.δ∧
    W'.α.gs.Perm (g::W.α.gs)∧g.n=W.δ.size∧LvOf first (nblocks W.δ.size k bound) W.live W'.live∧IsWr bw bx W' first (nblocks W.δ.size k bound) k bound g [] cx cb)∨
   (big W.σ.free<nblocks W.δ.size k bound∧v= .tuple #[.pointer none,.int .i64 5]∧∃cd' ca' cs' W',H'=[wrow bw bd ba bs,cd',ca',cs']∧Wc bd ba bs W' cd' ca' cs'∧Ev W W' 0 0∧W'.δ=W.δ∧W'.live=W.live∧W'.α.gs.Perm W.α.gs):=by
 refine(Write_ct bw bd ba bs W cd ca cs h k bound h1 h2 hb hr).mono ?_
 obtain⟨hs,_⟩:=h.dev.num
 have hp:=holds_pos hs.1 h1 h2
 rintro v H' (⟨hfit,bx,first,g,cd',ca',cs',W',rfl,rfl,hW,hE,e1,e2,e3,e4⟩|⟨hf,rfl,cd',ca',cs',W',rfl,hW,hE,e1,e2,e3,e4⟩)
 ·left
  refine⟨hfit,bx,first,g,cd',ca',cs',W',_,_,rfl,rfl,hW,hE,e1,e3,e2,?_,by rw[e1];exact e2,List.replicate W.δ.size 0,?_,rfl,?_⟩
  ·unfold LvOf
   split at e4
   ·rename_i h0;rw[if_pos h0,e4.1]
   ·rename_i h0;rw[if_neg h0,e4]
  ·rw[e1];simp
  ·rw[e1]
   exact⟨h1,h2,hb,rfl,Nat.zero_le _,by simp,by simp,fun j hj=>by simp at hj,by simp⟩
 ·exact .inr ⟨hf,rfl,cd',ca',cs',W',rfl,hW,hE,e1,e3,e4⟩
theorem Free_u (bw bd ba bs:Nat) (W:Wk) (cd ca cs:Chunk) (h:Wc bd ba bs W cd ca cs) (f:Fl) (Lv:List Ext) (hl:LvOf f.first f.blocks Lv W.live):
  Ct Tryz.prog 75 [pv bw,flv f] [wrow bw bd ba bs,cs] fun v H'=>
   ∃cs' W',v= .int .i64 0∧H'=[wrow bw bd ba bs,cs']∧Wc bd ba bs W' cd ca cs'∧Ev W W' 0 0∧W'.δ=W.δ∧W'.α=W.α∧W'.live=Lv:=by
 unfold LvOf at hl
 unfold flv wrow
 by_cases h0:f.blocks=0
 ·rw[if_pos h0] at hl
  rw[h0]
  refine Ct.intro Tryz.func75 rfl Tryz.ntmps75 (nle rfl) fun w0=> ?_;dsimp only[argSlots,Nat.reduceAdd]
  repeat(first|(refine st ?_;intros)|refine G.draw [] (h:= ?_))
  (refine Dn.post (Hr:=[[(bw,row [pv bd,pv ba,pv bs] 87)],cs]) Tryz.results75 (hR:= ?_);exact⟨cs,{W with live:=Lv},rfl,rfl,⟨h.dev,h.ar,h.sp,h.nn,h.live.perm hl⟩,⟨rfl,rfl,⟨Nat.le_refl _,Nat.le_refl _⟩,id,rfl,Nat.le_refl _⟩,rfl,rfl,rfl⟩)
 ·rw[if_neg h0] at hl
  have hlv:=h.live.perm hl
  obtain⟨⟨f1,f2⟩,f3⟩:=live_free hlv
  have hGv:=Give_ct bs W.σ cs h.sp f.first f.blocks f1 f2 f3
  refine Ct.intro Tryz.func75 rfl Tryz.ntmps75 (nle rfl) fun w0=> ?_;dsimp only[argSlots,Nat.reduceAdd]
  repeat(first|(refine st ?_;intros)|refine G.draw [] (h:= ?_))
  refine R.call (hct:=hGv) (h:= ?_)
  rintro _ _ ⟨cs',σ',rfl,hS',e1,e3,e4,e5,rfl⟩
  try dsimp only[List.cons_append,List.nil_append]
  repeat(first|(refine st ?_;intros)|refine G.draw [] (h:= ?_))
  (refine Dn.post (Hr:=[[(bw,row [pv bd,pv ba,pv bs] 87)],cs']) Tryz.results75 (hR:= ?_);exact⟨cs',{W with σ:=σ',live:=Lv},rfl,rfl,⟨h.dev,h.ar,hS',h.nn.trans e1.symm,live_give hlv e1 e3 e4⟩,⟨rfl,e1,⟨Nat.le_refl _,Nat.le_refl _⟩,id,rfl,by show _≤big σ'.free+0;omega⟩,rfl,rfl,rfl⟩)
structure LayX where
 i:Nat
 cd:Chunk
 ca:Chunk
 cs:Chunk
 cx:Chunk
 cb:Chunk
 W:Wk
theorem Lay_ct (bw bd ba bs:Nat) (W:Wk) (cd ca cs:Chunk) (h:Wc bd ba bs W cd ca cs) (k:Nat) (h1:1≤k) (h2:k≤5) (p:Option Addr) (n cap:Nat) (ts:List T5) (c:Chunk) (hv:RV p n ts c) (hn:n≤100000000) (hok:∀t∈ts,okT k t)
  (hr:W.δ.size≤W.α.room-W.α.used) (hf:W.δ.fault= -1) (hac:W.δ.acts≤100000000000):
  Ct Tryz.prog 19 [pv bw,.int .i64 (k:Int),.slice p n cap] [wrow bw bd ba bs,cd,ca,cs,c] fun v H'=>
   ∃cd' ca' cs' W',H'=[wrow bw bd ba bs,cd',ca',cs',c]∧Wc bd ba bs W' cd' ca' cs'∧Ev W W' (nblocks W.δ.size k n) (nblocks W.δ.size k n)∧Keep W.live W W'∧W'.α.gs.Perm W.α.gs∧
    ((nblocks W.δ.size k n≤big W.σ.free∧∃f,v= .tuple #[flv f,.int .i64 0]∧W'.live=(if f.blocks=0 then W.live else f.ext::W.live)∧f.width=k∧f.count=n∧FileOk W'.δ.disk W.δ.size [f.ext] f ts)∨
     (big W.σ.free<nblocks W.δ.size k n∧v= .tuple #[flv ⟨0,0,0,0⟩,.int .i64 5]∧W'.live=W.live∧W'.δ=W.δ)):=by
 have hWr:=Write_u bw bd ba bs W cd ca cs h k n h1 h2 hn hr
 have htl:=hv.1
 obtain⟨⟨hs1,hs2⟩,_⟩:=h.dev.num
 have hp:=holds_pos hs1 h1 h2
 refine Ct.intro Tryz.func19 rfl Tryz.ntmps19 (nle rfl) fun w0=> ?_;dsimp only[argSlots,Nat.reduceAdd]
 repeat(refine st ?_;intros)
 apply R.call
 ·exact rfl
 ·exact hWr
 ·exact(by repeat(first|exact Split.nil|(apply Split.cons;·(repeat(first|exact Take.here|apply Take.there|exact Take.nil)))))
 ·exact rfl
 ·exact nle rfl
 rintro _ _ (⟨hfit,bx,first,g,cd',ca',cs',W1,cx,cb,rfl,rfl,hW1,hE1,e1,e2,e3,e4,e5⟩|⟨hfull,rfl,cd',ca',cs',W1,rfl,hW1,hE1,e1,e2,e3⟩)
 ·repeat(refine st ?_;intros)
  rename_i b6
  refine G.loop (X:=LayX) (fun x=>x.i≤n∧Wc bd ba bs x.W x.cd x.ca x.cs∧Ev W x.W (x.i/holds W.δ.size k) (nblocks W.δ.size k n)∧Keep W.live W x.W∧x.W.α.gs.Perm (g::W.α.gs)∧LvOf first (nblocks W.δ.size k n) W.live x.W.live∧IsWr bw bx x.W first (nblocks W.δ.size k n) k n g (ts.take x.i) x.cx x.cb)
   (fun x=>[(27,.int .i64 (x.i:Int)),(26,.int .i64 (n:Int)),(25,.slice p n cap),(8,pv bx),(6,.pointer (some ⟨b6,0,none⟩))])
   (fun x=>[[(b6,row [.int .i64 0,.int .i64 0,.int .i64 0,.int .i64 0] 27)],wrow bw bd ba bs,x.cd,x.ca,x.cs,x.cx,x.cb,c]) (fun x=>n-x.i) ⟨0,cd',ca',cs',cx,cb,W1⟩
   ⟨Nat.zero_le _,hW1,by simpa using hE1,fun x _=>by rw[e1],e2,e4,e5⟩ (body:= ?_)
  rintro⟨i,cd1,ca1,cs1,cx1,cb1,W2⟩ ⟨hi,hW2,hE2,hK2,hg2,hl2,hw2⟩
  dsimp only at hi hW2 hE2 hK2 hg2 hl2 hw2⊢
  have hacts:=hE2.acts
  have hsz:=hE2.size
  have hfl:=hE2.fault hf
  have hdl:i/holds W.δ.size k≤n:=Nat.le_trans (Nat.div_le_self _ _) hi
  by_cases hin:i<n
  ·obtain⟨b,off,cs0,T,fz,rfl,rfl,hread⟩:=hv.pos (by omega)
   have hti:=hread i hin
   have hlt:i<ts.length:=by omega
   have hgd:ts.getD i ⟨0,0,0,0,0⟩=ts[i]:=by simp[List.getD_eq_getElem?_getD,hlt]
   rw[hgd] at hti
   have htk:ts.take (i+1)=ts.take i++[ts[i]]:=by rw[List.take_add_one];simp[hlt]
   have hlen:(ts.take i).length=i:=by simp;omega
   have hPt:=Put_u bw bd ba bs W2 cd1 ca1 cs1 hW2 bx first _ k n g (ts.take i) cx1 cb1 hw2 W.α.gs hg2 W.live hl2 (by omega) ts[i] (hok _ (List.getElem_mem hlt)) (by omega)
   have htv:tv ts[i]= .agg (tcells ts[i]).toArray:=rfl
   rw[htv] at hPt
   have htcl:(tcells ts[i]).length=5:=rfl
   have hall:(tcells ts[i]).all Value.oneCell'=true:=rfl
   have hset5:setL [.int .i64 0,.int .i64 0,.int .i64 0,.int .i64 0,.int .i64 0] 0 (tcells ts[i])=tcells ts[i]:=rfl
   have hd5:((tcells ts[i]).drop 0).take 5=tcells ts[i]:=rfl
   generalize tcells ts[i]=tc at*
   repeat(refine st ?_;intros)
   refine R.call (hct:=hPt) (h:= ?_)
   rintro _ _ ⟨cd3,ca3,cs3,W3,cx3,cb3,rfl,hW3,hE3,hK3,⟨rfl,e6,e7,e8,e9⟩|⟨rfl,e6,_⟩⟩
   try dsimp only[List.cons_append,List.nil_append]
   ·repeat(refine st ?_;intros)
    refine Dn.round ⟨i+1,cd3,ca3,cs3,cx3,cb3,W3⟩ ⟨hin,hW3,?_,hK2.trans hK3,by rw[e6];exact hg2,by rw[e8];exact hl2,by rw[htk];exact e9⟩ (by dsimp only;omega)
    have:=hE2.trans hE3
    rw[hlen,hsz] at this
    refine this.weak ?_ (Nat.le_refl _)
    have hm:i/holds W.δ.size k≤(i+1)/holds W.δ.size k:=Nat.div_le_div_right (by omega)
    dsimp only
    omega
   ·omega
  ·obtain rfl:i=n:=by omega
   have htk:ts.take i=ts:=by rw[←htl];exact List.take_length
   rw[htk] at hw2
   have hCl:=Close_u bw bd ba bs W2 cd1 ca1 cs1 hW2 bx first _ k i g ts cx1 cb1 hw2 W.α.gs hg2 W.live hl2 (by omega)
   rw[hsz,htl] at hCl
   repeat(refine st ?_;intros)
   refine R.call (hct:=hCl) (h:= ?_)
   rintro _ _ ⟨cd3,ca3,cs3,W3,cx3,cb3,rfl,hW3,hE3,hK3,hg3,hx3,⟨f,rfl,e6,e7,e8,e9⟩|⟨rfl,e6,_⟩⟩
   try dsimp only[List.cons_append,List.nil_append]
   ·repeat(refine st ?_;intros)
    (refine Dn.post (Hr:=[wrow bw bd ba bs,cd3,ca3,cs3,c]) Tryz.results19 (hR:= ?_);refine⟨cd3,ca3,cs3,W3,rfl,hW3,?_,hK2.trans hK3,hg3,.inl ⟨hfit,f,rfl,e6,e7,e8,e9⟩⟩)
    have:=hE2.trans hE3
    refine this.weak ?_ (Nat.le_refl _)
    have hm:i/holds W.δ.size k≤nblocks W.δ.size k i:=by
     unfold nblocks;exact Nat.div_le_div_right (by omega)
    omega
   ·omega
 ·repeat(refine st ?_;intros)
  (refine Dn.post (Hr:=[wrow bw bd ba bs,cd',ca',cs',c]) Tryz.results19 (hR:= ?_);exact⟨cd',ca',cs',W1,rfl,hW1,hE1.weak (Nat.zero_le _) (Nat.zero_le _),fun x _=>by rw[e1],e3,.inr ⟨hfull,rfl,e2,e1⟩⟩)
structure ListX where
 i:Nat
 cd:Chunk
 ca:Chunk
 cx:Chunk
 cb:Chunk
 W:Wk
 p:Option Addr
 cap:Nat
 co:Chunk
theorem flat_take_succ {ts:List T5} {i:Nat} (hi:i<ts.length):flat (ts.take (i+1))=flat (ts.take i)++tcells ts[i]:=by
 rw[List.take_add_one,flat_append]
 simp[hi,flat]
theorem List_ct (bw bd ba bs:Nat) (W:Wk) (cd ca cs:Chunk) (h:Wc bd ba bs W cd ca cs) (f:Fl) (ts:List T5) (Lv:List Ext) (hfo:FileOk W.δ.disk W.δ.size Lv f ts) (hsub:∀e∈Lv,e∈W.live)
  (hr:W.δ.size≤W.α.room-W.α.used) (hf:W.δ.fault= -1) (hac:W.δ.acts≤100000000000) (hcnt:f.count≤1000000):
  Ct Tryz.prog 21 [pv bw,flv f] [wrow bw bd ba bs,cd,ca,cs] fun v H'=>
   ∃cd' ca' W' p cap co,v= .tuple #[.slice p f.count cap,.int .i64 0]∧H'=[wrow bw bd ba bs,cd',ca',cs,co]∧Wc bd ba bs W' cd' ca' cs∧Ev W W' (nblocks W.δ.size f.width f.count) 0∧W'.δ.disk=W.δ.disk∧W'.live=W.live∧W'.α.gs.Perm W.α.gs∧
    Vec 38 5 p f.count cap (flat ts) co:=by
 have hRd:=Read_u bw bd ba bs W cd ca cs h f ts Lv hfo hr
 have htl:=hfo.len
 obtain⟨⟨hs1,hs2⟩,_⟩:=h.dev.num
 have hp:=holds_pos hs1 hfo.w1 hfo.w2
 have hfl:flv f= .agg #[.int .i64 (f.first:Int),.int .i64 (f.blocks:Int),.int .i64 (f.width:Int),.int .i64 (f.count:Int)]:=rfl
 rw[hfl] at hRd⊢
 refine Ct.introD Tryz.func21 rfl Tryz.ntmps21 (nle rfl) fun w0=> ?_;dsimp only[argSlots,Nat.reduceAdd]
 repeat(refine st ?_;intros)
 refine R.call (hct:=hRd) (h:= ?_)
 rintro _ _ ⟨bx,g,ca1,α1,cx,cb,rfl,rfl,hW1,hE1,hg1,hgn,hr1⟩
 try dsimp only[List.cons_append,List.nil_append]
 repeat(refine st ?_;intros)
 refine G.loop (X:=ListX) (fun x=>x.i≤f.count∧Wc bd ba bs x.W x.cd x.ca cs∧Ev W x.W (nblocks W.δ.size f.width x.i) 0∧x.W.δ.disk=W.δ.disk∧x.W.live=W.live∧x.W.α.gs.Perm (g::W.α.gs)∧IsRd bw bx x.W f ts g x.i x.cx x.cb∧Vec 38 5 x.p x.i x.cap (flat (ts.take x.i)) x.co)
  (fun x=>[(6,pv bx),(8,.slice x.p x.i x.cap)])
  (fun x=>[wrow bw bd ba bs,x.cd,x.ca,cs,x.cx,x.cb,x.co]) (fun x=>f.count-x.i) ⟨0,cd,ca1,cx,cb,{W with α:=α1},none,0,[]⟩
  ⟨Nat.zero_le _,hW1,by rw[nblocks_zero hp];exact hE1,rfl,rfl,hg1,hr1,Vec.nil _ _⟩ (by repeat(first|exact trivial|refine⟨rfl,?_⟩)) (by repeat(first|exact Split.nil|(apply Split.cons;·(first|exact Take.nil|(repeat(first|exact Take.here|apply Take.there)))))) ?_
 rintro⟨i,cd1,ca1,cx1,cb1,W2,p,cap,co⟩ ⟨hi,hW2,hE2,hd2,hl2,hg2,hr2,hV⟩
 dsimp only at hi hW2 hE2 hd2 hl2 hg2 hr2 hV⊢
 have hacts:=hE2.acts
 have hsz:=hE2.size
 have hflt:=hE2.fault hf
 have hdl:nblocks W.δ.size f.width i≤i:=by
  unfold nblocks
  rw[Nat.div_le_iff_le_mul_add_pred (by omega)]
  have:=Nat.le_mul_of_pos_left i (show 0<holds W.δ.size f.width by omega)
  omega
 by_cases hin:i<f.count
 ·have hlt:i<ts.length:=by omega
  have hNx:=Next_u bw bd ba bs W2 cd1 ca1 cs hW2 bx f ts Lv (by rw[hd2,hsz];exact hfo) (by rw[hl2];exact hsub) g W.α.gs hg2 i cx1 cb1 hr2 ts[i] (List.getElem?_eq_getElem hlt) (by omega)
  have htv:tv ts[i]= .agg (tcells ts[i]).toArray:=rfl
  rw[htv] at hNx
  have htcl:(tcells ts[i]).length=5:=rfl
  have htcl2:(tcells ts[i]).length=1*5:=rfl
  have hall:(tcells ts[i]).all Value.oneCell'=true:=rfl
  have hset5:setL [.int .i64 0,.int .i64 0,.int .i64 0,.int .i64 0,.int .i64 0] 0 (tcells ts[i])=tcells ts[i]:=rfl
  have hd5:((tcells ts[i]).drop 0).take 5=tcells ts[i]:=rfl
  have hd51:((tcells ts[i]).drop 0).take (1*5)=tcells ts[i]:=rfl
  have hft:=flat_take_succ hlt
  generalize ts[i]=t at*
  repeat(refine st ?_;intros)
  refine R.call (hct:=hNx) (h:= ?_)
  rintro _ _ ⟨cd3,ca3,W3,cx3,cb3,rfl,hW3,hE3,hd3,hs3,hl3,⟨rfl,e6,e9⟩|⟨rfl,e6,_⟩⟩
  try dsimp only[List.cons_append,List.nil_append]
  ·repeat(refine st ?_;intros)
   rename_i p' cap' c' hV'
   have hV3:Vec 38 5 p' (i+1) cap' (flat (ts.take i)++tcells t) c':=hV'
   rw[←hft] at hV3
   refine Dn.round ⟨i+1,cd3,ca3,cx3,cb3,W3,p',cap',c'⟩ ⟨hin,hW3,?_,hd3.trans hd2,hl3.trans hl2,by rw[e6];exact hg2,e9,hV3⟩ (by dsimp only;omega)
   have:=hE2.trans hE3
   rw[hsz] at this
   refine this.weak ?_ (Nat.le_refl _)
   have hm:nblocks W.δ.size f.width i≤nblocks W.δ.size f.width (i+1):=nblocks_mono (by omega)
   dsimp only
   omega
  ·omega
 ·have hic:f.count=i:=by omega
  subst hic
  have hNe:=NextEnd_u bw bx W2 f ts g cx1 cb1 hr2
  have hRc:=(RClose_uB bw bd ba bs W2 cd1 ca1 cs hW2 bx f ts g W.α.gs hg2 f.count cx1 cb1 hr2).2
  have hz:tv T5.zero= .agg (tcells T5.zero).toArray:=rfl
  rw[hz] at hNe
  repeat(refine st ?_;intros)
  refine R.call (hct:=hNe) (h:= ?_)
  rintro _ _ ⟨rfl,rfl⟩
  try dsimp only[List.cons_append,List.nil_append]
  repeat(refine st ?_;intros)
  refine Go.SL.Lv.call (hc:=hRc) (h:= ?_)
  rintro _ _ ⟨ca3,α3,cx3,rfl,rfl,hW3,hE3,hg3,hx3⟩
  try dsimp only[List.cons_append,List.nil_append]
  (refine Go.SL.Lv.nil (Hr:=[wrow bw bd ba bs,cd1,ca3,cs,co]) Tryz.results21 (hR:= ?_);refine⟨cd1,ca3,{W2 with α:=α3},p,cap,co,rfl,rfl,hW3,by simpa using hE2.trans hE3,hd2,hl2,hg3,?_⟩)
  rw[←htl,List.take_length] at hV
  rw[←htl];exact hV
end Go.Proofs.YtjoicjgfgkpdjaaGreat
namespace Go.Srt
set_option linter.unusedSectionVars false
structure Swo {α:Type} (lt:α→α→Bool):Prop where
 asym:∀a b,lt a b=true→lt b a=false
 ntrans:∀a b c,lt a b=false→lt b c=false→lt a c=false
variable {α:Type} {lt:α→α→Bool}
theorem Swo.irr (h:Swo lt) (a:α):lt a a=false:=by
 cases hl:lt a a with
 |false=>rfl
 |true=>have:=h.asym a a hl;rw[hl] at this;cases this
def eqv (lt:α→α→Bool) (a b:α):Bool:= !lt a b&& !lt b a
theorem eqv_iff {a b:α}:eqv lt a b=true↔lt a b=false∧lt b a=false:=by simp[eqv]
theorem eqv_self (h:Swo lt) (a:α):eqv lt a a=true:=eqv_iff.2 ⟨h.irr a,h.irr a⟩
theorem eqv_symm {a b:α} (h:eqv lt a b=true):eqv lt b a=true:=eqv_iff.2 ⟨(eqv_iff.1 h).2,(eqv_iff.1 h).1⟩
theorem eqv_trans (h:Swo lt) {a b c:α} (h1:eqv lt a b=true) (h2:eqv lt b c=true):eqv lt a c=true:=
 eqv_iff.2 ⟨h.ntrans _ _ _ (eqv_iff.1 h1).1 (eqv_iff.1 h2).1,h.ntrans _ _ _ (eqv_iff.1 h2).2 (eqv_iff.1 h1).2⟩
def keepC (once:Bool) (l:List α):List α:=if once then l.take 1 else l
def Sd (lt:α→α→Bool) (once:Bool) (l:List α):Prop:=l.Pairwise fun a b=>if once then lt a b=true else lt b a=false
def Sp (lt:α→α→Bool) (once:Bool) (l1 l2:List α):Prop:=∀x,keepC once (l1.filter (eqv lt x))=keepC once (l2.filter (eqv lt x))
theorem Sp.refl (once:Bool) (l:List α):Sp lt once l l:=fun _=>rfl
theorem Sp.symm {once:Bool} {l1 l2:List α} (h:Sp lt once l1 l2):Sp lt once l2 l1:=fun x=>(h x).symm
theorem Sp.trans {once:Bool} {l1 l2 l3:List α} (h:Sp lt once l1 l2) (h2:Sp lt once l2 l3):Sp lt once l1 l3:=fun x=>(h x).trans (h2 x)
theorem keepC_app (once:Bool) (a b:List α):keepC once (a++b)=keepC once (keepC once a++keepC once b):=by
 cases once with
 |false=>rfl
 |true=>
  simp only[keepC,if_true]
  cases a with
  |nil=>cases b<;>simp
  |cons x a=>simp
theorem Sp.app {once:Bool} {a b c d:List α} (h1:Sp lt once a b) (h2:Sp lt once c d):Sp lt once (a++c) (b++d):=fun x=>by
 rw[List.filter_append,List.filter_append,keepC_app,h1 x,h2 x,←keepC_app]
theorem Sp.once_of {once:Bool} {a b:List α} (h:Sp lt false a b):Sp lt once a b:=fun x=>by
 have:=h x
 simp only[keepC] at this
 simp only[Bool.false_eq_true,if_false] at this
 rw[this]
theorem Sp.swap (h:Swo lt) {once:Bool} {v x:List α} (hx:∀b∈x,∀a∈v,lt b a=true):Sp lt once (v++x) (x++v):=fun c=>by
 rw[List.filter_append,List.filter_append]
 by_cases hv:v.filter (eqv lt c)=[]
 ·rw[hv];simp
 ·have:x.filter (eqv lt c)=[]:=by
   rw[List.filter_eq_nil_iff]
   intro b hb hcb
   obtain⟨a,ha⟩:=List.exists_mem_of_ne_nil _ hv
   obtain⟨ha1,ha2⟩:=List.mem_filter.1 ha
   have h1:=eqv_trans h (eqv_symm hcb) ha2
   have h2:=hx b hb a ha1
   rw[(eqv_iff.1 h1).1] at h2;cases h2
  rw[this];simp
theorem sd_class (h:Swo lt) {once:Bool} {l:List α} (hs:Sd lt once l) (x:α):keepC once (l.filter (eqv lt x))=l.filter (eqv lt x):=by
 cases once with
 |false=>rfl
 |true=>
  have:(l.filter (eqv lt x)).Pairwise fun a b=>lt a b=true:=by
   have:=hs.sublist (List.filter_sublist (p:=eqv lt x))
   simpa using this
  have hm:∀a∈l.filter (eqv lt x),eqv lt x a=true:=fun a ha=>(List.mem_filter.1 ha).2
  simp only[keepC,if_true]
  revert this hm
  generalize l.filter (eqv lt x)=m
  intro h1 h2
  match m,h1,h2 with
  |[],_,_=>rfl
  |[_],_,_=>rfl
  |a::b::m,h1,h2=>
   exfalso
   have h3:=List.rel_of_pairwise_cons h1 (List.mem_cons_self (a:=b) (l:=m))
   have h4:=eqv_trans h (eqv_symm (h2 a (by simp))) (h2 b (by simp))
   rw[(eqv_iff.1 h4).1] at h3;cases h3
theorem Sd.weak (h:Swo lt) {once:Bool} {l:List α} (hs:Sd lt once l):Sd lt false l:=by
 cases once with
 |false=>exact hs
 |true=>exact List.Pairwise.imp (fun {a b} hab=>by simpa using h.asym a b (by simpa using hab)) hs
theorem unique (h:Swo lt):∀{l1 l2:List α},Sd lt false l1→Sd lt false l2→Sp lt false l1 l2→l1=l2
 |[],[],_,_,_=>rfl
 |[],b::l2,_,_,hp=>by have:=hp b;simp[keepC,eqv_self h] at this
 |a::l1,[],_,_,hp=>by have:=hp a;simp[keepC,eqv_self h] at this
 |a::l1,b::l2,h1,h2,hp=>by
  have hp':∀x,(a::l1).filter (eqv lt x)=(b::l2).filter (eqv lt x):=fun x=>by have:=hp x;simpa[keepC] using this
  have mem:∀x,x∈a::l1↔x∈b::l2:=fun x=>by
   have e:=hp' x
   constructor
   ·intro hm
    exact(List.mem_filter.1 (e▸List.mem_filter.2 ⟨hm,eqv_self h x⟩)).1
   ·intro hm
    exact(List.mem_filter.1 (e.symm▸List.mem_filter.2 ⟨hm,eqv_self h x⟩)).1
  have hba:lt b a=false:=by
   rcases List.mem_cons.1 ((mem b).2 List.mem_cons_self) with rfl|hm
   ·exact h.irr _
   ·simpa using List.rel_of_pairwise_cons h1 hm
  have hab:lt a b=false:=by
   rcases List.mem_cons.1 ((mem a).1 List.mem_cons_self) with rfl|hm
   ·exact h.irr _
   ·simpa using List.rel_of_pairwise_cons h2 hm
  have e1:eqv lt a b=true:=eqv_iff.2 ⟨hab,hba⟩
  have e:=hp' a
  simp only[List.filter_cons,eqv_self h,e1,if_true,List.cons.injEq] at e
  obtain⟨rfl,_⟩:=e
  congr 1
  refine unique h (List.Pairwise.of_cons h1) (List.Pairwise.of_cons h2) fun x=> ?_
  have:=hp' x
  simp only[List.filter_cons] at this
  simp only[keepC,Bool.false_eq_true,if_false]
  split at this
  ·exact(List.cons.inj this).2
  ·exact this
theorem unique1 (h:Swo lt) {once:Bool} {l1 l2:List α} (h1:Sd lt once l1) (h2:Sd lt once l2) (hp:Sp lt once l1 l2):l1=l2:=
 unique h (h1.weak h) (h2.weak h) fun x=>by
  have:=hp x
  rw[sd_class h h1,sd_class h h2] at this
  simpa[keepC] using this
variable [Inhabited α]
def sw (l:List α) (i j:Nat):List α:=(l.set i (l.getD j default)).set j (l.getD i default)
@[simp] theorem sw_length (l:List α) (i j:Nat):(sw l i j).length=l.length:=by simp[sw]
theorem getD_app_left (P S:List α) (i:Nat) (h:i<P.length):(P++S).getD i default=P.getD i default:=by
 simp[List.getD_eq_getElem?_getD,List.getElem?_append_left h]
theorem getD_app_right (P S:List α) (i:Nat) (h:P.length≤i):(P++S).getD i default=S.getD (i-P.length) default:=by
 simp[List.getD_eq_getElem?_getD,List.getElem?_append_right h]
abbrev at_ (l:List α) (k:Nat):α:=l.getD k default
theorem sw_at (l:List α) (i j k:Nat) (hi:i<l.length) (hj:j<l.length):at_ (sw l i j) k=if k=j then at_ l i else if k=i then at_ l j else at_ l k:=by
 unfold sw at_
 simp only[List.getD_eq_getElem?_getD,List.getElem?_set,List.length_set]
 by_cases h1:k=j
 ·subst h1;simp[hj]
 ·rw[if_neg (fun e=>h1 e.symm),if_neg h1]
  by_cases h2:k=i
  ·subst h2;simp[hi]
  ·rw[if_neg (fun e=>h2 e.symm),if_neg h2]
theorem ext_at {l1 l2:List α} (hl:l1.length=l2.length) (h:∀k,at_ l1 k=at_ l2 k):l1=l2:=by
 apply List.ext_getElem hl
 intro k h1 h2
 have:=h k
 simpa[at_,List.getD_eq_getElem?_getD,h1,h2] using this
def rotF (l:List α) (a m b k:Nat):α:=if a≤k∧k<a+(b-m) then at_ l (k+(m-a)) else if a+(b-m)≤k∧k<b then at_ l (k-(b-m)) else at_ l k
def swrF (l:List α) (a b n k:Nat):α:=if a≤k∧k<a+n then at_ l (k+(b-a)) else if b≤k∧k<b+n then at_ l (k-(b-a)) else at_ l k
theorem swr_step {l c:List α} {a b n i:Nat} (hab:a+n≤b) (hn:b+n≤l.length) (hc:c.length=l.length) (h:∀k,at_ c k=swrF l a b i k) (hi:i<n):∀k,at_ (sw c (a+i) (b+i)) k=swrF l a b (i+1) k:=by
 intro k
 rw[sw_at _ _ _ _ (by omega) (by omega)]
 simp only[h,swrF]
 (repeat' split)<;>first|rfl|(exfalso;omega)|(congr 1;omega)
theorem rot_stepL {c c':List α} {m i j:Nat} (hi:i≤m) (hij:j<i) (h:∀k,at_ c' k=swrF c (m-i) m j k):∀k,rotF c' (m-(i-j)) m (m+j) k=rotF c (m-i) m (m+j) k:=by
 intro k
 simp only[rotF,h,swrF]
 (repeat' split)<;>first|rfl|(exfalso;omega)|(congr 1;omega)
theorem rot_stepR {c c':List α} {m i j:Nat} (hi:i≤m) (hij:i<j) (h:∀k,at_ c' k=swrF c (m-i) (m+j-i) i k):∀k,rotF c' (m-i) m (m+(j-i)) k=rotF c (m-i) m (m+j) k:=by
 intro k
 simp only[rotF,h,swrF]
 (repeat' split)<;>first|rfl|(exfalso;omega)|(congr 1;omega)
theorem rot_last {c c':List α} {m i:Nat} (hi:i≤m) (h:∀k,at_ c' k=swrF c (m-i) m i k):∀k,at_ c' k=rotF c (m-i) m (m+i) k:=by
 intro k
 simp only[rotF,h,swrF]
 (repeat' split)<;>first|rfl|(exfalso;omega)|(congr 1;omega)
theorem rot_id (l:List α) {a m b:Nat} (h:a=m∨m=b) (h1:a≤m) (h2:m≤b):∀k,rotF l a m b k=at_ l k:=by
 intro k
 simp only[rotF]
 split
 ·congr 1;omega
 ·split
  ·congr 1;omega
  ·rfl
theorem slice_mem {l:List α} {a n:Nat} {x:α} (h:x∈(l.drop a).take n):∃k,a≤k∧k<a+n∧x=at_ l k:=by
 obtain⟨i,hi⟩:=List.getElem?_of_mem h
 rw[List.getElem?_take] at hi
 split at hi
 ·rename_i hin
  rw[List.getElem?_drop] at hi
  exact⟨a+i,by omega,by omega,by simp[at_,List.getD_eq_getElem?_getD,hi]⟩
 ·cases hi
theorem slice_at (l:List α) (a n k:Nat) (h:k<n):at_ ((l.drop a).take n) k=at_ l (a+k):=by
 simp[at_,List.getD_eq_getElem?_getD,List.getElem?_take,h]
theorem at_app (P S:List α) (k:Nat):at_ (P++S) k=if k<P.length then at_ P k else at_ S (k-P.length):=by
 split
 ·exact getD_app_left P S k (by assumption)
 ·exact getD_app_right P S k (by omega)
theorem cut4 (l:List α) {a m b:Nat} (h1:a≤m) (h2:m≤b) (hb:b≤l.length):l=l.take a++((l.drop a).take (m-a)++((l.drop m).take (b-m)++l.drop b)):=by
 have e1:(l.drop m).take (b-m)++l.drop b=l.drop m:=by
  have:=List.take_append_drop (b-m) (l.drop m)
  rwa[List.drop_drop,show m+(b-m)=b by omega] at this
 have e2:(l.drop a).take (m-a)++l.drop m=l.drop a:=by
  have:=List.take_append_drop (m-a) (l.drop a)
  rwa[List.drop_drop,show a+(m-a)=m by omega] at this
 rw[e1,e2,List.take_append_drop]
theorem rot_eq {l l':List α} {a m b:Nat} (h1:a≤m) (h2:m≤b) (hb:b≤l.length) (hl:l'.length=l.length) (hr:∀k,at_ l' k=rotF l a m b k):
  l'=l.take a++((l.drop m).take (b-m)++((l.drop a).take (m-a)++l.drop b)):=by
 apply ext_at
 ·simp;omega
 ·intro k
  rw[hr,at_app,at_app,at_app]
  simp only[rotF,List.length_take,List.length_drop]
  have e1:min a l.length=a:=by omega
  have e2:min (b-m) (l.length-m)=b-m:=by omega
  have e3:min (m-a) (l.length-a)=m-a:=by omega
  rw[e1,e2,e3]
  by_cases k1:k<a
  ·rw[if_neg (by omega),if_neg (by omega),if_pos k1]
   simp[at_,List.getD_eq_getElem?_getD,List.getElem?_take,k1]
  ·rw[if_neg k1]
   by_cases k2:k-a<b-m
   ·rw[if_pos (by omega),if_pos k2,slice_at _ _ _ _ k2]
    congr 1;omega
   ·rw[if_neg k2,if_neg (by omega)]
    by_cases k3:k-a-(b-m)<m-a
    ·rw[if_pos (by omega),if_pos k3,slice_at _ _ _ _ k3]
     congr 1;omega
    ·rw[if_neg (by omega),if_neg k3]
     simp[at_,List.getD_eq_getElem?_getD]
     congr 2;omega
theorem rot_sp (h:Swo lt) {l l':List α} {a m b:Nat} (h1:a≤m) (h2:m≤b) (hb:b≤l.length) (hl:l'.length=l.length) (hr:∀k,at_ l' k=rotF l a m b k)
  (hc:∀i j,a≤i→i<m→m≤j→j<b→lt (at_ l j) (at_ l i)=true):Sp lt false l l':=by
 rw[rot_eq h1 h2 hb hl hr]
 conv=>lhs;rw[cut4 l h1 h2 hb]
 refine Sp.app (Sp.refl _ _) ?_
 rw[←List.append_assoc,←List.append_assoc]
 refine Sp.app (Sp.swap h ?_) (Sp.refl _ _)
 intro x hx v hv
 obtain⟨j,j1,j2,rfl⟩:=slice_mem hx
 obtain⟨i,i1,i2,rfl⟩:=slice_mem hv
 exact hc i j i1 (by omega) j1 (by omega)
def Seg (lt:α→α→Bool) (l:List α) (a b:Nat):Prop:=∀i j,a≤i→i<j→j<b→lt (at_ l j) (at_ l i)=false
def Ins (l l':List α) (a b:Nat):Prop:=(∀k,a≤k→k<b→∃k',a≤k'∧k'<b∧at_ l' k=at_ l k')∧(∀k,k<a∨b≤k→at_ l' k=at_ l k)∧l'.length=l.length
theorem Ins.refl (l:List α) (a b:Nat):Ins l l a b:=⟨fun k h1 h2=>⟨k,h1,h2,rfl⟩,fun _ _=>rfl,rfl⟩
theorem Ins.trans {l1 l2 l3:List α} {a b:Nat} (h:Ins l1 l2 a b) (h2:Ins l2 l3 a b):Ins l1 l3 a b:=
 ⟨fun k k1 k2=>by
  obtain⟨k',e1,e2,e3⟩:=h2.1 k k1 k2
  obtain⟨k'',f1,f2,f3⟩:=h.1 k' e1 e2
  exact⟨k'',f1,f2,e3.trans f3⟩,fun k hk=>(h2.2.1 k hk).trans (h.2.1 k hk),h2.2.2.trans h.2.2⟩
theorem Ins.wide {l l':List α} {a b c d:Nat} (h:Ins l l' a b) (h1:c≤a) (h2:b≤d):Ins l l' c d:=
 ⟨fun k k1 k2=>by
  by_cases hk:a≤k∧k<b
  ·obtain⟨k',e1,e2,e3⟩:=h.1 k hk.1 hk.2
   exact⟨k',by omega,by omega,e3⟩
  ·exact⟨k,k1,k2,h.2.1 k (by omega)⟩,fun k hk=>h.2.1 k (by omega),h.2.2⟩
theorem Ins.rot {l l':List α} {a m b:Nat} (h1:a≤m) (h2:m≤b) (hl:l'.length=l.length) (hr:∀k,at_ l' k=rotF l a m b k):Ins l l' a b:=by
 refine⟨fun k k1 k2=> ?_,fun k hk=> ?_,hl⟩
 ·rw[hr];unfold rotF
  split
  ·exact⟨_,by omega,by omega,rfl⟩
  ·split
   ·exact⟨_,by omega,by omega,rfl⟩
   ·exact⟨k,k1,k2,rfl⟩
 ·rw[hr];unfold rotF
  rw[if_neg (by omega),if_neg (by omega)]
theorem Seg.out {l l':List α} {a b c d:Nat} (h:Seg lt l c d) (hi:Ins l l' a b) (hd:d≤a∨b≤c):Seg lt l' c d:=fun i j h1 h2 h3=>by
 rw[hi.2.1 i (by omega),hi.2.1 j (by omega)]
 exact h i j h1 h2 h3
theorem sym_facts (h:Swo lt) {l l1:List α} {a m b mid n start e low high:Nat} (ham:a<m) (hmb:m<b)
  (s1:Seg lt l a m) (s2:Seg lt l m b) (hmid:mid=(a+b)/2) (hn:n=mid+m) (he:e=n-start)
  (hlow:low=if mid<m then n-b else a) (hhigh:high=if mid<m then mid else m) (hls:low≤start) (hsh:start≤high)
  (f1:start=low∨lt (at_ l (n-start)) (at_ l (start-1))=false) (f2:start=high∨lt (at_ l (n-1-start)) (at_ l start)=true)
  (hr:∀k,at_ l1 k=rotF l start m e k):
  (∀i j,start≤i→i<m→m≤j→j<e→lt (at_ l j) (at_ l i)=true)∧
  (Seg lt l1 a start∧Seg lt l1 start mid∧Seg lt l1 mid e∧Seg lt l1 e b)∧
  (∀i j,a≤i→i<mid→mid≤j→j<b→lt (at_ l1 j) (at_ l1 i)=false)∧a≤start∧start≤m∧m≤e∧e≤b∧start≤mid∧mid≤e:=by
 have hb0:a≤start∧start≤m∧m≤e∧e≤b∧start≤mid∧mid≤e∧mid-start=e-m:=by
  split at hlow<;>split at hhigh<;>omega
 obtain⟨b1,b2,b3,b4,b5,b6,b7⟩:=hb0
 have hC1:∀i j,start≤i→i<m→m≤j→j<e→lt (at_ l j) (at_ l i)=true:=by
  intro i j i1 i2 j1 j2
  rcases f2 with f2|f2
  ·exfalso
   split at hhigh<;>omega
  ·rw[show n-1-start=e-1 by omega] at f2
   cases hlt:lt (at_ l j) (at_ l i) with
   |true=>rfl
   |false=>
    exfalso
    have g1:lt (at_ l (e-1)) (at_ l j)=false:=by
     by_cases hj:j=e-1
     ·subst hj;exact h.irr _
     ·exact s2 j (e-1) j1 (by omega) (by omega)
    have g2:lt (at_ l i) (at_ l start)=false:=by
     by_cases hj:i=start
     ·subst hj;exact h.irr _
     ·exact s1 start i b1 (by omega) i2
    have:=h.ntrans _ _ _ g1 (h.ntrans _ _ _ hlt g2)
    rw[f2] at this;cases this
 have r1:∀k,k<start→at_ l1 k=at_ l k:=fun k hk=>by rw[hr,rotF,if_neg (by omega),if_neg (by omega)]
 have r2:∀k,start≤k→k<mid→at_ l1 k=at_ l (k+(m-start)):=fun k h1 h2=>by rw[hr,rotF,if_pos (by omega)]
 have r3:∀k,mid≤k→k<e→at_ l1 k=at_ l (k-(e-m)):=fun k h1 h2=>by rw[hr,rotF,if_neg (by omega),if_pos (by omega)]
 have r4:∀k,e≤k→at_ l1 k=at_ l k:=fun k hk=>by rw[hr,rotF,if_neg (by omega),if_neg (by omega)]
 refine⟨hC1,⟨?_,?_,?_,?_⟩,?_,b1,b2,b3,b4,b5,b6⟩
 ·intro i j i1 i2 i3
  rw[r1 i (by omega),r1 j i3]
  exact s1 i j i1 i2 (by omega)
 ·intro i j i1 i2 i3
  rw[r2 i i1 (by omega),r2 j (by omega) i3]
  exact s2 _ _ (by omega) (by omega) (by omega)
 ·intro i j i1 i2 i3
  rw[r3 i i1 (by omega),r3 j (by omega) i3]
  exact s1 _ _ (by omega) (by omega) (by omega)
 ·intro i j i1 i2 i3
  rw[r4 i i1,r4 j (by omega)]
  exact s2 _ _ (by omega) (by omega) (by omega)
 ·intro i j i1 i2 j1 j2
  by_cases hi:i<start
  ·rw[r1 i hi]
   by_cases hj:j<e
   ·rw[r3 j j1 hj]
    exact s1 _ _ i1 (by omega) (by omega)
   ·rw[r4 j (by omega)]
    rcases f1 with f1|f1
    ·exfalso
     split at hlow<;>omega
    ·rw[←he] at f1
     have g1:lt (at_ l (start-1)) (at_ l i)=false:=by
      by_cases hh:i=start-1
      ·subst hh;exact h.irr _
      ·exact s1 _ _ i1 (by omega) (by omega)
     have g2:lt (at_ l j) (at_ l e)=false:=by
      by_cases hh:j=e
      ·subst hh;exact h.irr _
      ·exact s2 _ _ (by omega) (by omega) (by omega)
     exact h.ntrans _ _ _ g2 (h.ntrans _ _ _ f1 g1)
  ·rw[r2 i (by omega) i2]
   by_cases hj:j<e
   ·rw[r3 j j1 hj]
    exact h.asym _ _ (hC1 _ _ (by omega) (by omega) (by omega) (by omega))
   ·rw[r4 j (by omega)]
    exact s2 _ _ (by omega) (by omega) (by omega)
theorem seg_join {l:List α} {a mid b:Nat} (h1:Seg lt l a mid) (h2:Seg lt l mid b) (hc:∀i j,a≤i→i<mid→mid≤j→j<b→lt (at_ l j) (at_ l i)=false):Seg lt l a b:=by
 intro i j i1 i2 i3
 by_cases hi:j<mid
 ·exact h1 i j i1 i2 hi
 ·by_cases hj:i<mid
  ·exact hc i j i1 hj (by omega) i3
  ·exact h2 i j (by omega) i2 i3
theorem cross_keep {l l':List α} {a mid b:Nat} (hc:∀i j,a≤i→i<mid→mid≤j→j<b→lt (at_ l j) (at_ l i)=false) (h:Ins l l' a mid):
  ∀i j,a≤i→i<mid→mid≤j→j<b→lt (at_ l' j) (at_ l' i)=false:=by
 intro i j i1 i2 j1 j2
 obtain⟨k,k1,k2,k3⟩:=h.1 i i1 i2
 rw[k3,h.2.1 j (by omega)]
 exact hc k j k1 k2 j1 j2
theorem cross_keepR {l l':List α} {a mid b:Nat} (hc:∀i j,a≤i→i<mid→mid≤j→j<b→lt (at_ l j) (at_ l i)=false) (h:Ins l l' mid b):
  ∀i j,a≤i→i<mid→mid≤j→j<b→lt (at_ l' j) (at_ l' i)=false:=by
 intro i j i1 i2 j1 j2
 obtain⟨k,k1,k2,k3⟩:=h.1 j j1 j2
 rw[k3,h.2.1 i (by omega)]
 exact hc i k i1 i2 k1 k2
theorem sw_sp (h:Swo lt) {l:List α} {j:Nat} (hj:0<j) (hl:j<l.length) (hlt:lt (at_ l j) (at_ l (j-1))=true):Sp lt false l (sw l j (j-1)):=by
 refine rot_sp h (a:=j-1) (m:=j) (b:=j+1) (by omega) (by omega) (by omega) (by simp) ?_ ?_
 ·intro k
  rw[sw_at _ _ _ _ (by omega) (by omega)]
  unfold rotF
  by_cases h1:k=j-1
  ·rw[if_pos h1,if_pos (by omega)];congr 1;omega
  ·rw[if_neg h1]
   by_cases h2:k=j
   ·rw[if_pos h2,if_neg (by omega),if_pos (by omega)];congr 1;omega
   ·rw[if_neg h2,if_neg (by omega),if_neg (by omega)]
 ·intro i k i1 i2 k1 k2
  rw[show i=j-1 by omega,show k=j by omega];exact hlt
theorem sw_ins {l:List α} {i j a b:Nat} (hi:a≤i∧i<b) (hj:a≤j∧j<b) (hb:b≤l.length):Ins l (sw l i j) a b:=by
 refine⟨fun k k1 k2=> ?_,fun k hk=> ?_,by simp⟩
 ·rw[sw_at _ _ _ _ (by omega) (by omega)]
  split
  ·exact⟨i,hi.1,hi.2,rfl⟩
  ·split
   ·exact⟨j,hj.1,hj.2,rfl⟩
   ·exact⟨k,k1,k2,rfl⟩
 ·rw[sw_at _ _ _ _ (by omega) (by omega),if_neg (by omega),if_neg (by omega)]
def Down (lt:α→α→Bool) (l:List α) (a i j:Nat):Prop:=(∀p q,a≤p→p<q→q≤i→p≠j→q≠j→lt (at_ l q) (at_ l p)=false)∧(∀q,j<q→q≤i→lt (at_ l q) (at_ l j)=false)
theorem Down.start {l:List α} {a i:Nat} (h:Seg lt l a i):Down lt l a i i:=⟨fun p q h1 h2 h3 h4 h5=>h p q h1 h2 (by omega),fun q h1 h2=>by omega⟩
theorem Down.step (h:Swo lt) {l:List α} {a i j:Nat} (hd:Down lt l a i j) (haj:a<j) (hji:j≤i) (hl:i<l.length) (hlt:lt (at_ l j) (at_ l (j-1))=true):Down lt (sw l j (j-1)) a i (j-1):=by
 obtain⟨h1,h2⟩:=hd
 refine⟨fun p q p1 p2 p3 p4 p5=> ?_,fun q q1 q2=> ?_⟩
 ·rw[sw_at _ _ _ _ (by omega) (by omega),sw_at _ _ _ _ (by omega) (by omega),if_neg p5,if_neg p4]
  by_cases e1:q=j
  ·subst e1
   rw[if_pos rfl,if_neg (by omega)]
   exact h1 p (q-1) p1 (by omega) (by omega) (by omega) (by omega)
  ·rw[if_neg e1]
   by_cases e2:p=j
   ·subst e2
    rw[if_pos rfl]
    exact h1 (p-1) q (by omega) (by omega) p3 (by omega) e1
   ·rw[if_neg e2]
    exact h1 p q p1 p2 p3 e2 e1
 ·rw[sw_at _ _ _ _ (by omega) (by omega),sw_at _ _ _ _ (by omega) (by omega),if_neg (by omega),if_pos rfl]
  by_cases e1:q=j
  ·subst e1
   rw[if_pos rfl]
   exact h.asym _ _ hlt
  ·rw[if_neg e1]
   exact h2 q (by omega) q2
theorem Down.stop (h:Swo lt) {l:List α} {a i j:Nat} (hd:Down lt l a i j) (hs:j=a∨lt (at_ l j) (at_ l (j-1))=false) (haj:a≤j):Seg lt l a (i+1):=by
 obtain⟨h1,h2⟩:=hd
 intro p q p1 p2 p3
 by_cases e1:p=j
 ·subst e1;exact h2 q p2 (by omega)
 ·by_cases e2:q=j
  ·subst e2
   rcases hs with hs|hs
   ·omega
   ·by_cases e3:p=q-1
    ·subst e3;exact hs
    ·exact h.ntrans _ _ _ hs (h1 p (q-1) p1 (by omega) (by omega) (by omega) (by omega))
  ·exact h1 p q p1 p2 (by omega) e1 e2
theorem seg_sd {l:List α} (h:Seg lt l 0 l.length):Sd lt false l:=by
 unfold Sd
 rw[List.pairwise_iff_getElem]
 intro i j hi hj hij
 have:=h i j (by omega) hij hj
 simpa[at_,List.getD_eq_getElem?_getD,hi,hj] using this
end Go.Srt
namespace Go.Srt
variable {α:Type} {lt:α→α→Bool} [Inhabited α]
theorem rot_up {l c:List α} {a k:Nat} (hk:a≤k) (hl:k+1<c.length) (h:∀q,at_ c q=rotF l a (a+1) (k+1) q):∀q,at_ (sw c k (k+1)) q=rotF l a (a+1) (k+2) q:=by
 intro q
 rw[sw_at _ _ _ _ (by omega) (by omega)]
 simp only[h,rotF]
 (repeat' split)<;>first|rfl|(exfalso;omega)|(congr 1;omega)
theorem rot_down {l c:List α} {m k:Nat} (hk:0<k) (hkm:k≤m) (hl:m<c.length) (h:∀q,at_ c q=rotF l k m (m+1) q):∀q,at_ (sw c k (k-1)) q=rotF l (k-1) m (m+1) q:=by
 intro q
 rw[sw_at _ _ _ _ (by omega) (by omega)]
 simp only[h,rotF]
 (repeat' split)<;>first|rfl|(exfalso;omega)|(congr 1;omega)
theorem ins1 (h:Swo lt) {l l1:List α} {a m b i:Nat} (hm:m=a+1) (h1:m≤i) (h2:i≤b) (s2:Seg lt l m b) (f1:i=m∨lt (at_ l (i-1)) (at_ l a)=true) (f2:i=b∨lt (at_ l i) (at_ l a)=false)
  (hr:∀q,at_ l1 q=rotF l a m i q):(∀x y,a≤x→x<m→m≤y→y<i→lt (at_ l y) (at_ l x)=true)∧Seg lt l1 a b:=by
 subst hm
 have hC:∀y,a+1≤y→y<i→lt (at_ l y) (at_ l a)=true:=by
  intro y y1 y2
  rcases f1 with f1|f1
  ·omega
  ·cases hlt:lt (at_ l y) (at_ l a) with
   |true=>rfl
   |false=>
    exfalso
    have g1:lt (at_ l (i-1)) (at_ l y)=false:=by
     by_cases hy:y=i-1
     ·subst hy;exact h.irr _
     ·exact s2 _ _ y1 (by omega) (by omega)
    have:=h.ntrans _ _ _ g1 hlt
    rw[f1] at this;cases this
 have hD:∀y,i≤y→y<b→lt (at_ l y) (at_ l a)=false:=by
  intro y y1 y2
  rcases f2 with f2|f2
  ·omega
  ·by_cases hy:y=i
   ·subst hy;exact f2
   ·exact h.ntrans _ _ _ (s2 _ _ h1 (by omega) y2) f2
 refine⟨fun x y x1 x2 y1 y2=>by rw[show x=a by omega];exact hC y y1 y2,?_⟩
 intro p q p1 p2 p3
 rw[hr,hr]
 unfold rotF
 by_cases c1:q<i-1
 ·rw[if_pos (by omega),if_pos (by omega)]
  exact s2 _ _ (by omega) (by omega) (by omega)
 ·by_cases c2:q=i-1
  ·rw[if_neg (by omega),if_pos (by omega),if_pos (by omega)]
   rw[show q-(i-(a+1))=a by omega]
   exact h.asym _ _ (hC _ (by omega) (by omega))
  ·rw[if_neg (by omega),if_neg (by omega)]
   by_cases c3:p<i-1
   ·rw[if_pos (by omega)]
    exact s2 _ _ (by omega) (by omega) (by omega)
   ·by_cases c4:p=i-1
    ·rw[if_neg (by omega),if_pos (by omega),show p-(i-(a+1))=a by omega]
     exact hD _ (by omega) p3
    ·rw[if_neg (by omega),if_neg (by omega)]
     exact s2 _ _ (by omega) (by omega) (by omega)
theorem ins2 (h:Swo lt) {l l1:List α} {a m b i:Nat} (hb:b=m+1) (h1:a≤i) (h2:i≤m) (s1:Seg lt l a m) (f1:i=a∨lt (at_ l m) (at_ l (i-1))=false) (f2:i=m∨lt (at_ l m) (at_ l i)=true)
  (hr:∀q,at_ l1 q=rotF l i m b q):(∀x y,i≤x→x<m→m≤y→y<b→lt (at_ l y) (at_ l x)=true)∧Seg lt l1 a b:=by
 subst hb
 have hC:∀x,i≤x→x<m→lt (at_ l m) (at_ l x)=true:=by
  intro x x1 x2
  rcases f2 with f2|f2
  ·omega
  ·cases hlt:lt (at_ l m) (at_ l x) with
   |true=>rfl
   |false=>
    exfalso
    have g1:lt (at_ l x) (at_ l i)=false:=by
     by_cases hy:x=i
     ·subst hy;exact h.irr _
     ·exact s1 _ _ h1 (by omega) x2
    have:=h.ntrans _ _ _ hlt g1
    rw[f2] at this;cases this
 have hD:∀x,a≤x→x<i→lt (at_ l m) (at_ l x)=false:=by
  intro x x1 x2
  rcases f1 with f1|f1
  ·omega
  ·by_cases hy:x=i-1
   ·subst hy;exact f1
   ·exact h.ntrans _ _ _ f1 (s1 _ _ x1 (by omega) (by omega))
 refine⟨fun x y x1 x2 y1 y2=>by rw[show y=m by omega];exact hC x x1 x2,?_⟩
 intro p q p1 p2 p3
 rw[hr,hr]
 unfold rotF
 by_cases c1:q<i
 ·rw[if_neg (by omega),if_neg (by omega),if_neg (by omega),if_neg (by omega)]
  exact s1 _ _ p1 p2 (by omega)
 ·by_cases c2:q=i
  ·rw[if_pos (by omega),if_neg (by omega),if_neg (by omega),show q+(m-i)=m by omega]
   exact hD _ p1 (by omega)
  ·rw[if_neg (by omega),if_pos (by omega)]
   by_cases c3:p<i
   ·rw[if_neg (by omega),if_neg (by omega)]
    exact s1 _ _ p1 (by omega) (by omega)
   ·by_cases c4:p=i
    ·rw[if_pos (by omega),show p+(m-i)=m by omega]
     exact h.asym _ _ (hC _ (by omega) (by omega))
    ·rw[if_neg (by omega),if_pos (by omega)]
     exact s1 _ _ (by omega) (by omega) (by omega)
end Go.Srt
