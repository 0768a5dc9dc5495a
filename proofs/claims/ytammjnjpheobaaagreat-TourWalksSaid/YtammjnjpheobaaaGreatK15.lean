/-
  Parts of the proof, put together: LayRun, Form. No condition.
-/
import Derived.Test.YtammjnjpheobaaaGreatK14
set_option linter.unusedVariables false
set_option linter.unusedSimpArgs false
set_option linter.unnecessarySimpa false
set_option maxHeartbeats 4000000
namespace Go.Proofs.YtammjnjpheobaaaGreat
open Go.SL Go.Spc Go.Tup Go.Srt
def fcells (fs:List Fl):List Value:=fs.flatMap fun f=>[.int .i64 (f.first:Int),.int .i64 (f.blocks:Int),.int .i64 (f.width:Int),.int .i64 (f.count:Int)]
theorem fcells_app (a b:List Fl):fcells (a++b)=fcells a++fcells b:=by simp[fcells]
def addF (f:Fl) (live:List Ext):List Ext:=if f.blocks=0 then live else f.ext::live
theorem perm_move {α:Type} {ca c1 g A B X Y:List α} (h:ca.Perm (c1++g)):(ca++(A++(B++(X++Y)))).Perm (c1++(A++(B++(X++(g++Y))))):=by
 refine(h.append_right _).trans ?_
 rw[List.append_assoc]
 refine List.Perm.append_left _ ?_
 refine(List.perm_append_comm_assoc _ _ _).trans (List.Perm.append_left _ ?_)
 refine(List.perm_append_comm_assoc _ _ _).trans (List.Perm.append_left _ ?_)
 exact List.perm_append_comm_assoc _ _ _
structure LayRX where
 i:Nat
 cd:Chunk
 c1:Chunk
 cs:Chunk
 cx:Chunk
 cb:Chunk
 W:Wk
 last:T5
 some:Bool
theorem lay_ct (bz bw bd ba bs:Nat) (W:Wk) (cd ca cs:Chunk) (h:Wc bd ba bs W cd ca cs) (g:Gr) (hg:g∈W.α.gs) (by_ k:Nat) (o:T5) (once:Bool) (ts:List T5) (ws:List Int) (hws:ws.length=g.n) (hT:TsOk g k ts.length ts) (hw:ws.take (ts.length*k)=words k ts)
  (p:Option Addr) (cap:Nat) (last:T5) (some:Bool) (fs:List Fl) (vc:Chunk) (hV:Vec 27 4 p fs.length cap (fcells fs) vc) (hr:W.δ.size≤W.α.room-W.α.used) (hac:W.δ.acts≤100000000000) (hn:ts.length≤100000000) (hfs:fs.length≤100000000):
  Ct Tryz.prog 163 [pv bz,pv by_] [sRow bz bw o once p fs.length cap last some,wrow bw bd ba bs,cd,ca,cs,vc,[(by_,row (runCells g.bb k ts.length o) 211)],[(g.br,row (wcells ws) 158)]] fun v H'=>
   ∃cd' ca' cs' W' vc' ws' p' cap' last' some' fs',H'=[sRow bz bw o once p' fs'.length cap' last' some',wrow bw bd ba bs,cd',ca',cs',vc',[(by_,row (runCells g.bb k ts.length o) 211)],[(g.br,row (wcells ws') 158)]]∧Wc bd ba bs W' cd' ca' cs'∧
    Ev W W' (nblocks W.δ.size k ts.length) (nblocks W.δ.size k ts.length)∧Keep W.live W W'∧W'.α.gs.Perm W.α.gs∧ws'.length=g.n∧Vec 27 4 p' fs'.length cap' (fcells fs') vc'∧
    ((v= .int .i64 0∧∃f out,fs'=fs++[f]∧W'.live=addF f W.live∧f.width=k∧f.count≤ts.length∧FileOk W'.δ.disk W.δ.size [f.ext] f out∧Sd (ltO o) once out∧Go.Srt.Sp (ltO o) once ts out)∨
     (v= .int .i64 5∧fs'=fs∧big W.σ.free<nblocks W.δ.size k ts.length∧W'.live.Perm W.live)∨
     (v= .int .i64 6∧fs'=fs∧W.δ.fault≠-1∧W'.live.Perm W.live)):=by
 obtain⟨⟨hs1,hs2⟩,hbk,hfr⟩:=h.dev.num
 have hk1:=hT.k1
 have hk5:=hT.k5
 have hp:=holds_pos hs1 hk1 hk5
 obtain⟨c1,hc1⟩:=h.ar.open_ hg
 have h':Wc bd ba bs W cd (c1++[g.obj]) cs:=⟨h.dev,h.ar.perm hc1.symm,h.sp,h.nn,h.live⟩
 have hwsd:ws=words k ts++ws.drop (ts.length*k):=by rw[←hw,List.take_append_drop]
 obtain⟨rest,hrest⟩:∃rest,rest=ws.drop (ts.length*k):=⟨_,rfl⟩
 rw[←hrest] at hwsd
 have hrl:rest.length+ts.length*k=g.n:=by
  have:=congrArg List.length hwsd
  rw[List.length_append,words_length hk5,hws] at this
  omega
 subst hwsd
 clear hrest hw
 have hS:=Stable_ct by_ g k ts.length o rest ts hT
 refine Ct.permH (H2:=[sRow bz bw o once p fs.length cap last some,wrow bw bd ba bs,cd,c1,cs,vc,[(by_,row (runCells g.bb k ts.length o) 211)],[g.obj],[(g.br,row (wcells (words k ts++rest)) 158)]]) ?_ ?_
 ·unfold RunH at hS
  unfold sRow sCells
  generalize hob:[g.obj]=gobj at*
  refine Ct.intro Tryz.func163 rfl Tryz.ntmps163 (nle rfl) fun w0=> ?_;dsimp only[argSlots,Nat.reduceAdd]
  repeat(first|(refine st ?_;intros)|refine G.draw [] (h:= ?_)|(refine cq hA ?_))
  refine R.call (hct:=hS) (h:= ?_)
  rintro _ _ ⟨rfl,ts',rfl,hT',hsp,hsd⟩
  try dsimp only[List.cons_append,List.nil_append]
  clear hS
  have hlen:=hT'.len
  obtain⟨e1,e2⟩:=emits_law (once:=once) hsp hsd
  have hel:=emits_len o once ts'
  unfold runCells at*
  have hWr:=Write_u bw bd ba bs W cd _ cs h' k ts.length hk1 hk5 hn hr
  have hAt:=fun i hi=>At_ct by_ g k o ts' rest hk1 hk5 hT.gn (by rw[hlen];exact hT.fit) hT'.ok i hi
  unfold RunH runCells at hAt
  rw[hob,hlen] at hAt
  rw[hlen]
  repeat(first|(refine st ?_;intros)|refine G.draw [] (h:= ?_)|(refine cq hA ?_))
  apply R1.join (c1:=c1) (c2:=gobj)
  ·(repeat(first|exact Take.here|apply Take.there))
  ·(repeat(first|exact Take.here|apply Take.there))
  apply R.call
  ·exact rfl
  ·exact hWr
  ·exact(by repeat(first|exact Split.nil|(apply Split.cons;·(repeat(first|exact Take.here|apply Take.there|exact Take.nil)))))
  ·exact rfl
  ·exact nle rfl
  rintro _ _ (⟨hfit,bx,first,g1,cd',ca',cs',W1,cx,cb,rfl,rfl,hW1,hE1,e3,e4,e5,e6,e7⟩|⟨hfull,rfl,cd',ca',cs',W1,rfl,hW1,hE1,e3,e4,e5⟩)
  ·obtain⟨c2,hc2⟩:=hW1.ar.open_ (g:=g) (e4.mem_iff.2 (List.mem_cons_of_mem _ hg))
   rw[hob] at hc2
   apply R.open hc2
   ·(repeat(first|exact Take.here|apply Take.there))
   repeat(first|(refine st ?_;intros)|refine G.draw [] (h:= ?_)|(refine cq hA ?_))
   refine G.loop (X:=LayRX) (fun x=>x.i≤ts.length∧Wc bd ba bs x.W x.cd (x.c1++gobj) x.cs∧Ev W x.W ((emits o once (ts'.take x.i)).length/holds W.δ.size k) (nblocks W.δ.size k ts.length)∧Keep W.live W x.W∧x.W.α.gs.Perm (g1::W.α.gs)∧LvOf first (nblocks W.δ.size k ts.length) W.live x.W.live∧
     IsWr bw bx x.W first (nblocks W.δ.size k ts.length) k ts.length g1 (emits o once (ts'.take x.i)) x.cx x.cb∧Last (emits o once (ts'.take x.i)) x.last x.some)
    (fun x=>[(39,.int .i64 (x.i:Int)),(38,.int .i64 (ts.length:Int)),(5,pv bx),(0,pv bz),(1,pv by_)])
    (fun x=>[[(bz,row [pv bw,.int .i64 o.c0,.int .i64 o.c1,.int .i64 o.c2,.int .i64 o.c3,.int .i64 o.c4,.bool once,.slice p fs.length cap,.int .i64 x.last.c0,.int .i64 x.last.c1,.int .i64 x.last.c2,.int .i64 x.last.c3,.int .i64 x.last.c4,.bool x.some] 186)],wrow bw bd ba bs,x.cd,x.c1,x.cs,x.cx,x.cb,vc,[(by_,row [pv g.bb,.int .i64 (k:Int),.int .i64 (ts.length:Int),.int .i64 o.c0,.int .i64 o.c1,.int .i64 o.c2,.int .i64 o.c3,.int .i64 o.c4] 211)],gobj,[(g.br,row (wcells (words k ts'++rest)) 158)]])
    (fun x=>ts.length-x.i) ⟨0,cd',c2,cs',cx,cb,W1,last,false⟩
    ⟨Nat.zero_le _,⟨hW1.dev,hW1.ar.perm hc2.symm,hW1.sp,hW1.nn,hW1.live⟩,by simpa[emits] using hE1,fun x _=>by rw[e3],e4,e6,by simpa[emits] using e7,by simp[emits,Last]⟩ (body:= ?_)
   rintro⟨i,cd1,c3,cs1,cx1,cb1,W2,last1,some1⟩ ⟨hi,hW2,hE2,hK2,hg2,hl2,hw2,hL2⟩
   dsimp only at hi hW2 hE2 hK2 hg2 hl2 hw2 hL2⊢
   have hacts:=hE2.acts
   have hsz:=hE2.size
   have hel2:=emits_len o once (ts'.take i)
   rw[List.length_take] at hel2
   have hdl:(emits o once (ts'.take i)).length/holds W.δ.size k≤ts.length:=Nat.le_trans (Nat.div_le_self _ _) (by omega)
   have hnof:W2.δ.fault=0→W.δ.fault≠-1:=fun e0 e1=>by have:=hE2.fault e1;omega
   by_cases hin:i<ts.length
   ·have hlt:i<ts'.length:=by omega
    have hPt:=put_ct bz bw bd ba bs W2 cd1 _ cs1 hW2 bx first _ k ts.length g1 _ cx1 cb1 hw2 W.α.gs hg2 W.live hl2 (by omega) (at_ ts' i) (hT'.ok _ (by unfold at_;rw[List.getD_eq_getElem?_getD,List.getElem?_eq_getElem hlt];exact List.getElem_mem hlt)) (by omega) o once p fs.length cap last1 some1 hL2
    have hat:emit o once (emits o once (ts'.take i)) (at_ ts' i)=emits o once (ts'.take (i+1)):=by
     rw[emits_succ hlt];unfold at_;rw[List.getD_eq_getElem?_getD,List.getElem?_eq_getElem hlt];rfl
    rw[hat] at hPt
    have hA:=hAt i hin
    unfold sRow sCells at hPt
    repeat(first|(refine st ?_;intros)|refine G.draw [] (h:= ?_)|(refine cq hA ?_))
    apply R1.join (c1:=c3) (c2:=gobj)
    ·(repeat(first|exact Take.here|apply Take.there))
    ·(repeat(first|exact Take.here|apply Take.there))
    refine R.call (hct:=hPt) (h:= ?_)
    rintro _ _ ⟨cd3,ca3,cs3,W3,cx3,cb3,last3,some3,rfl,hW3,hE3,hK3,⟨rfl,e8,e9,e10,e11,e12⟩|⟨rfl,e8,e9,e10,e11,e12⟩⟩
    try dsimp only[List.cons_append,List.nil_append]
    ·obtain⟨c4,hc4⟩:=hW3.ar.open_ (g:=g) (by rw[e8];exact hg2.mem_iff.2 (List.mem_cons_of_mem _ hg))
     rw[hob] at hc4
     apply R.open hc4
     ·(repeat(first|exact Take.here|apply Take.there))
     repeat(first|(refine st ?_;intros)|refine G.draw [] (h:= ?_)|(refine cq hA ?_))
     refine Dn.round ⟨i+1,cd3,c4,cs3,cx3,cb3,W3,last3,some3⟩ ⟨hin,⟨hW3.dev,hW3.ar.perm hc4.symm,hW3.sp,hW3.nn,hW3.live⟩,?_,hK2.trans hK3,by rw[e8];exact hg2,by rw[e10];exact hl2,e11,e12⟩ (by dsimp only;omega)
     have:=hE2.trans hE3
     rw[hsz] at this
     refine this.weak ?_ (Nat.le_refl _)
     have hm:(emits o once (ts'.take i)).length/holds W.δ.size k≤(emits o once (ts'.take (i+1))).length/holds W.δ.size k:=Nat.div_le_div_right (by rw[←hat];exact(emit_len _ _ _ _).1)
     dsimp only
     omega
    ·have hDr:=Dropped_u bx cx3 e12
     repeat(first|(refine st ?_;intros)|refine G.draw [] (h:= ?_)|(refine cq hA ?_))
     refine R.call (hct:=hDr) (h:= ?_)
     rintro _ _ ⟨rfl,rfl⟩
     try dsimp only[List.cons_append,List.nil_append]
     repeat(first|(refine st ?_;intros)|refine G.draw [] (h:= ?_)|(refine cq hA ?_))
     (refine Dn.post (Hr:=[[(bz,row [pv bw,.int .i64 o.c0,.int .i64 o.c1,.int .i64 o.c2,.int .i64 o.c3,.int .i64 o.c4,.bool once,.slice p fs.length cap,.int .i64 last3.c0,.int .i64 last3.c1,.int .i64 last3.c2,.int .i64 last3.c3,.int .i64 last3.c4,.bool some3] 186)],wrow bw bd ba bs,cd3,ca3,cs3,vc,[(by_,row [pv g.bb,.int .i64 (k:Int),.int .i64 (ts.length:Int),.int .i64 o.c0,.int .i64 o.c1,.int .i64 o.c2,.int .i64 o.c3,.int .i64 o.c4] 211)],[(g.br,row (wcells (words k ts'++rest)) 158)]]) Tryz.results163 (hR:= ?_);refine⟨cd3,ca3,cs3,W3,vc,words k ts'++rest,p,cap,last3,some3,fs,rfl,hW3,?_,hK2.trans hK3,e10,by rw[List.length_append,words_length hk5,hlen];omega,hV,.inr (.inr ⟨rfl,rfl,hnof e8,e11⟩)⟩)
     have:=hE2.trans hE3
     refine{this with acts:=⟨this.acts.1,?_⟩}
     rw[e9]
     refine Nat.le_trans hE2.acts.2 (Nat.add_le_add_left ?_ _)
     refine Nat.le_trans (Nat.div_le_div_right (c:=holds W.δ.size k) (show _≤ts.length by omega)) ?_
     unfold nblocks;exact Nat.div_le_div_right (by omega)
   ·obtain rfl:i=ts.length:=by omega
    have htk:ts'.take ts.length=ts':=by rw[←hlen];exact List.take_length
    rw[htk] at hw2 hE2
    have hCl:=Close_u bw bd ba bs W2 cd1 _ cs1 hW2 bx first _ k ts.length g1 _ cx1 cb1 hw2 W.α.gs hg2 W.live hl2 (by omega)
    rw[hsz] at hCl
    have hem:nblocks W.δ.size k (emits o once ts').length≤nblocks W.δ.size k ts.length:=nblocks_mono (by omega)
    have hed:(emits o once ts').length/holds W.δ.size k≤nblocks W.δ.size k (emits o once ts').length:=by unfold nblocks;exact Nat.div_le_div_right (by omega)
    repeat(first|(refine st ?_;intros)|refine G.draw [] (h:= ?_)|(refine cq hA ?_))
    apply R1.join (c1:=c3) (c2:=gobj)
    ·(repeat(first|exact Take.here|apply Take.there))
    ·(repeat(first|exact Take.here|apply Take.there))
    refine R.call (hct:=hCl) (h:= ?_)
    rintro _ _ ⟨cd3,ca3,cs3,W3,cx3,cb3,rfl,hW3,hE3,hK3,hg3,hx3,⟨f,rfl,e8,e9,e10,e11⟩|⟨rfl,e8,e9,e10⟩⟩
    try dsimp only[List.cons_append,List.nil_append]
    ·have hfl:flv f= .agg #[.int .i64 (f.first:Int),.int .i64 (f.blocks:Int),.int .i64 (f.width:Int),.int .i64 (f.count:Int)]:=rfl
     rw[hfl]
     repeat(first|(refine st ?_;intros)|refine G.draw [] (h:= ?_)|(refine cq hA ?_))
     rename_i p' cap' c' hV'
     have hV3:Vec 27 4 p' (fs.length+1) cap' (fcells (fs++[f])) c':=by rw[fcells_app];exact hV'
     have hfl1:(fs++[f]).length=fs.length+1:=by simp
     rw[←hfl1] at hV3
     (refine Dn.post (Hr:=[[(bz,row [pv bw,.int .i64 o.c0,.int .i64 o.c1,.int .i64 o.c2,.int .i64 o.c3,.int .i64 o.c4,.bool once,.slice p' (fs.length+1) cap',.int .i64 last1.c0,.int .i64 last1.c1,.int .i64 last1.c2,.int .i64 last1.c3,.int .i64 last1.c4,.bool some1] 186)],wrow bw bd ba bs,cd3,ca3,cs3,c',[(by_,row [pv g.bb,.int .i64 (k:Int),.int .i64 (ts.length:Int),.int .i64 o.c0,.int .i64 o.c1,.int .i64 o.c2,.int .i64 o.c3,.int .i64 o.c4] 211)],[(g.br,row (wcells (words k ts'++rest)) 158)]]) Tryz.results163 (hR:= ?_);refine⟨cd3,ca3,cs3,W3,c',words k ts'++rest,p',cap',last1,some1,fs++[f],by rw[hfl1],hW3,?_,hK2.trans hK3,hg3,by rw[List.length_append,words_length hk5,hlen];omega,hV3,.inl ⟨rfl,f,_,rfl,e8,e9,by omega,e11,e1,e2⟩⟩)
     exact(hE2.trans hE3).weak (by omega) (Nat.le_refl _)
    ·repeat(first|(refine st ?_;intros)|refine G.draw [] (h:= ?_)|(refine cq hA ?_))
     (refine Dn.post (Hr:=[[(bz,row [pv bw,.int .i64 o.c0,.int .i64 o.c1,.int .i64 o.c2,.int .i64 o.c3,.int .i64 o.c4,.bool once,.slice p fs.length cap,.int .i64 last1.c0,.int .i64 last1.c1,.int .i64 last1.c2,.int .i64 last1.c3,.int .i64 last1.c4,.bool some1] 186)],wrow bw bd ba bs,cd3,ca3,cs3,vc,[(by_,row [pv g.bb,.int .i64 (k:Int),.int .i64 (ts.length:Int),.int .i64 o.c0,.int .i64 o.c1,.int .i64 o.c2,.int .i64 o.c3,.int .i64 o.c4] 211)],[(g.br,row (wcells (words k ts'++rest)) 158)]]) Tryz.results163 (hR:= ?_);refine⟨cd3,ca3,cs3,W3,vc,words k ts'++rest,p,cap,last1,some1,fs,rfl,hW3,?_,hK2.trans hK3,hg3,by rw[List.length_append,words_length hk5,hlen];omega,hV,.inr (.inr ⟨rfl,rfl,hnof e8,e10⟩)⟩)
     exact(hE2.trans hE3).weak (by omega) (Nat.le_refl _)
  ·rw[←hob] at*
   repeat(first|(refine st ?_;intros)|refine G.draw [] (h:= ?_)|(refine cq hA ?_))
   (refine Dn.post (Hr:=[[(bz,row [pv bw,.int .i64 o.c0,.int .i64 o.c1,.int .i64 o.c2,.int .i64 o.c3,.int .i64 o.c4,.bool once,.slice p fs.length cap,.int .i64 last.c0,.int .i64 last.c1,.int .i64 last.c2,.int .i64 last.c3,.int .i64 last.c4,.bool false] 186)],wrow bw bd ba bs,cd',ca',cs',vc,[(by_,row [pv g.bb,.int .i64 (k:Int),.int .i64 (ts.length:Int),.int .i64 o.c0,.int .i64 o.c1,.int .i64 o.c2,.int .i64 o.c3,.int .i64 o.c4] 211)],[(g.br,row (wcells (words k ts'++rest)) 158)]]) Tryz.results163 (hR:= ?_);refine⟨cd',ca',cs',W1,vc,words k ts'++rest,p,cap,last,false,fs,rfl,hW1,hE1.weak (Nat.zero_le _) (Nat.zero_le _),fun x _=>by rw[e3],e5,by rw[List.length_append,words_length hk5,hlen];omega,hV,.inr (.inl ⟨rfl,rfl,hfull,by rw[e4]⟩)⟩)
 ·simp only[List.flatten_cons,List.flatten_nil,List.append_nil,List.append_assoc]
  exact List.Perm.append_left _ (List.Perm.append_left _ (List.Perm.append_left _ (perm_move hc1)))
def addFs (fs:List Fl) (live:List Ext):List Ext:=fs.foldl (fun l f=>addF f l) live
theorem addFs_app (fs:List Fl) (f:Fl) (live:List Ext):addFs (fs++[f]) live=addF f (addFs fs live):=by simp[addFs]
theorem addF_perm {f:Fl} {a b:List Ext} (h:a.Perm b):(addF f a).Perm (addF f b):=by
 unfold addF;split
 ·exact h
 ·exact h.cons _
theorem addF_mem {f:Fl} {a:List Ext} {e:Ext} (h:e∈a):e∈addF f a:=by
 unfold addF;split
 ·exact h
 ·exact List.mem_cons_of_mem _ h
theorem addFs_mem {fs:List Fl} {a:List Ext} {e:Ext} (h:e∈a):e∈addFs fs a:=by
 unfold addFs
 induction fs generalizing a with
 |nil=>exact h
 |cons f fs ih=>exact ih (addF_mem h)
theorem addFs_ext {fs:List Fl} {a:List Ext} {f:Fl} (h:f∈fs) (hb:f.blocks≠0):f.ext∈addFs fs a:=by
 induction fs generalizing a with
 |nil=>simp at h
 |cons x fs ih=>
  rcases List.mem_cons.1 h with rfl|h
  ·have h1:f.ext∈addF f a:=by unfold addF;rw[if_neg hb];exact List.mem_cons_self
   exact addFs_mem (fs:=fs) h1
  ·exact ih h
structure RunsOk (d:Nat→Option (List Int)) (size k:Nat) (o:T5) (once:Bool) (l:List T5) (rs:List (Fl×List T5)):Prop where
 each:∀r∈rs,r.1.width=k∧FileOk d size [r.1.ext] r.1 r.2∧Sd (ltO o) once r.2
 sp:Go.Srt.Sp (ltO o) once l (rs.flatMap (·.2))
 pos:l≠[]→∀r∈rs,0<r.1.count
theorem sp_nil {o:T5} {once:Bool} {a b:List T5} (h:Go.Srt.Sp (ltO o) once a b) (hb:b=[]):a=[]:=by
 subst hb
 cases a with
 |nil=>rfl
 |cons x a=>
  have h1:=h x
  have h2:eqv (ltO o) x x=true:=eqv_iff.2 ⟨(ltO_swo o).irr _,(ltO_swo o).irr _⟩
  rw[List.filter_cons_of_pos h2] at h1
  cases once<;>simp[keepC] at h1
theorem RunsOk.keep {d d':Nat→Option (List Int)} {size k:Nat} {o:T5} {once:Bool} {l:List T5} {rs:List (Fl×List T5)} (h:RunsOk d size k o once l rs) {live0:List Ext} (hk:∀x,inF (addFs (rs.map (·.1)) live0) x→d' x=d x):RunsOk d' size k o once l rs:=
 ⟨fun r hr=>⟨(h.each r hr).1,(h.each r hr).2.1.keep fun x hx=>hk x (by
   obtain⟨e,he,h1,h2⟩:=hx
   simp only[List.mem_singleton] at he
   subst he
   refine⟨r.1.ext,addFs_ext (List.mem_map.2 ⟨r,hr,rfl⟩) ?_,h1,h2⟩
   simp only[Fl.ext] at h1 h2;omega),(h.each r hr).2.2⟩,h.sp,h.pos⟩
theorem RunsOk.more {d:Nat→Option (List Int)} {size k:Nat} {o:T5} {once:Bool} {l src out:List T5} {rs:List (Fl×List T5)} {f:Fl} (h:RunsOk d size k o once l rs) (h1:f.width=k) (h2:FileOk d size [f.ext] f out) (h3:Sd (ltO o) once out) (h4:Go.Srt.Sp (ltO o) once src out) (h5:rs=[]∨(l≠[]∧src≠[])):
  RunsOk d size k o once (l++src) (rs++[(f,out)]):=
 ⟨fun r hr=>by
  rcases List.mem_append.1 hr with hr|hr
  ·exact h.each r hr
  ·simp only[List.mem_singleton] at hr
   subst hr;exact⟨h1,h2,h3⟩,by
  rw[List.flatMap_append]
  refine Go.Srt.Sp.app h.sp ?_
  simpa using h4,fun hne r hr=>by
  have hol:=h2.len
  have hout:src≠[]→0<f.count:=fun hs=>by
   rw[←hol]
   cases out with
   |nil=>exact absurd (sp_nil h4 rfl) hs
   |cons a b=>simp
  rcases h5 with rfl|⟨h6,h7⟩
  ·have hl:l=[]:=sp_nil h.sp rfl
   subst hl
   simp only[List.nil_append,List.mem_singleton] at hne hr
   subst hr;exact hout hne
  ·rcases List.mem_append.1 hr with hr|hr
   ·exact h.pos h6 r hr
   ·simp only[List.mem_singleton] at hr
    subst hr;exact hout h7⟩
theorem nblocks_le {s k n:Nat} (hp:1≤holds s k):nblocks s k n≤n:=by
 unfold nblocks
 rw[Nat.div_le_iff_le_mul_add_pred (by omega)]
 have:=Nat.le_mul_of_pos_left n (show 0<holds s k by omega)
 omega
theorem Ev.arena {W W':Wk} {α α8:Ar} {k m:Nat} (h:Ev W W' k m) (h8:α8.room=W'.α.room) (h9:Ev {W' with α:=α8} {W' with α:=α} 0 0):Ev W {W' with α:=α} k m:={h with room:=h9.room.trans (h8.trans h.room)}
theorem S_le {S pos q h:Nat} (hh:1≤h) (hS:S*h≤pos+q*(h-1)):S≤pos+q:=by
 apply Classical.byContradiction
 intro hn
 have h1:(pos+q+1)*h≤S*h:=Nat.mul_le_mul_right _ (by omega)
 have h2:(pos+q+1)*h=pos*h+q*h+h:=by rw[Nat.add_mul,Nat.add_mul,Nat.one_mul]
 have h3:pos≤pos*h:=Nat.le_mul_of_pos_right _ (by omega)
 have h4:q*(h-1)≤q*h:=Nat.mul_le_mul_left _ (by omega)
 omega
theorem S_more {S pos q h m n:Nat} (hh:1≤h) (hS:S*h≤pos+q*(h-1)) (hn:n=(m+h-1)/h):(S+n)*h≤pos+m+(q+1)*(h-1):=by
 have h1:n*h≤m+h-1:=by rw[hn];exact Nat.div_mul_le_self _ _
 rw[Nat.add_mul,Nat.succ_mul]
 omega
structure FormX where
 q:Nat
 pos:Nat
 S:Nat
 n0:Nat
 rs:List (Fl×List T5)
 cd:Chunk
 ca:Chunk
 cs:Chunk
 cx:Chunk
 cb:Chunk
 vc:Chunk
 ws:List Int
 W:Wk
 p:Option Addr
 cap:Nat
 last:T5
 some:Bool
theorem form_ct (bz bw bd ba bs:Nat) (W:Wk) (cd ca cs:Chunk) (h:Wc bd ba bs W cd ca cs) (f:Fl) (fts:List T5) (Lv:List Ext) (hfo:FileOk W.δ.disk W.δ.size Lv f fts) (hsub:∀e∈Lv,e∈W.live) (o:T5) (once:Bool) (last:T5) (some:Bool)
  (hr:5*W.δ.size≤W.α.room-W.α.used) (hac:W.δ.acts≤10000000000) (hcn:f.count≤1000000) (L0 c:Nat) (hL0:L0=W.α.room-W.α.used) (hc:c=(L0-2*W.δ.size)/f.width):
  Ct Tryz.prog 128 [pv bz,flv f] [sRow bz bw o once none 0 0 last some,wrow bw bd ba bs,cd,ca,cs] fun v H'=>
   ∃cd' ca' cs' W' vc' p' cap' last' some' rs q S l,H'=[sRow bz bw o once p' rs.length cap' last' some',wrow bw bd ba bs,cd',ca',cs',vc']∧Wc bd ba bs W' cd' ca' cs'∧
    Ev W W' (nblocks W.δ.size f.width f.count+S) S∧Keep W.live W W'∧W'.α.gs.Perm W.α.gs∧Vec 27 4 p' rs.length cap' (fcells (rs.map (·.1))) vc'∧W'.live.Perm (addFs (rs.map (·.1)) W.live)∧
    RunsOk W'.δ.disk W.δ.size f.width o once l rs∧S*holds W.δ.size f.width≤f.count+q*(holds W.δ.size f.width-1)∧(q-1)*c≤f.count∧(0<f.count→(q-1)*c<f.count)∧q≤f.count+1∧
    ((v= .int .i64 0∧l=fts∧rs≠[]∧rs.length=q∧((rs.map (·.1.count)).sum≤f.count)∧((rs.map (·.1.blocks)).sum≤S))∨(v= .int .i64 5∧big W.σ.free<S)∨(v= .int .i64 6∧W.δ.fault≠-1)):=by
 obtain⟨⟨hs1,hs2⟩,hbk,hfr⟩:=h.dev.num
 obtain⟨hu1,hu2,_,hu4⟩:=h.ar.num
 have hk1:=hfo.w1
 have hk5:=hfo.w2
 have hp:=holds_pos hs1 hk1 hk5
 have htl:=hfo.len
 have hRd:=Read_u bw bd ba bs W cd ca cs h f fts Lv hfo (by omega)
 have hD:=WDevice_ct bw bd ba bs
 have hA:=WArena_ct bw bd ba bs
 have hfl:flv f= .agg #[.int .i64 (f.first:Int),.int .i64 (f.blocks:Int),.int .i64 (f.width:Int),.int .i64 (f.count:Int)]:=rfl
 rw[hfl] at hRd⊢
 unfold sRow sCells
 refine Ct.introD Tryz.func128 rfl Tryz.ntmps128 (nle rfl) fun w0=> ?_;dsimp only[argSlots,Nat.reduceAdd]
 repeat(first|(refine st ?_;intros)|refine G.draw [] (h:= ?_)|refine G.draw (id:=5) [(4,.quiet),(9,.quiet),(10,.quiet),(15,.quiet),(16,.quiet)] (h:= ?_)|(refine cq hD ?_)|(refine cq hA ?_)|(refine cq hL ?_)|(refine cq hSz ?_))
 refine R.call (hct:=hRd) (h:= ?_)
 rintro _ _ ⟨bx,g,ca1,α1,cx,cb,rfl,rfl,hW1,hE1,hg1,hgn,hr1⟩
 try dsimp only[List.cons_append,List.nil_append]
 have hu5:α1.used=W.α.used+W.δ.size:=by
  have e1:=hW1.ar.num.2.2.2
  dsimp only at e1
  rw[e1,(hg1.map (·.n)).sum_nat,hu4,List.map_cons,List.sum_cons,hgn];omega
 have hroom1:α1.room=W.α.room:=hE1.room
 have hL:=aLeft ba α1 ca1 hW1.ar
 rw[show(α1.room:Int)-(α1.used:Int)=((L0-W.δ.size:Nat):Int) by omega] at hL
 have hSz:=Size_ct bd W.δ cd hW1.dev
 have eb:IntKind.wrap .i64 (((L0-W.δ.size:Nat):Int)-(W.δ.size:Int))=((L0-2*W.δ.size:Nat):Int):=by rw[wrap_i64 (by omega)];omega
 have hGr:=aGrant ba α1 ca1 hW1.ar (L0-2*W.δ.size) (by omega)
 have hMn:(L0-2*W.δ.size)≤1000000000:=by omega
 generalize hM:L0-2*W.δ.size=M at*
 repeat(first|(refine st ?_;intros)|refine G.draw [] (h:= ?_)|refine G.draw (id:=5) [(4,.quiet),(9,.quiet),(10,.quiet),(15,.quiet),(16,.quiet)] (h:= ?_)|(refine cq hD ?_)|(refine cq hA ?_)|(refine cq hL ?_)|(refine cq hSz ?_))
 refine R.call (hct:=hGr) (h:= ?_)
 rintro _ _ ⟨g2,ca2,α2,hg2n,rfl,hA2,hg2,hroom2,rfl⟩
 try dsimp only[List.cons_append,List.nil_append]
 repeat(first|(refine st ?_;intros)|refine G.draw [] (h:= ?_)|refine G.draw (id:=5) [(4,.quiet),(9,.quiet),(10,.quiet),(15,.quiet),(16,.quiet)] (h:= ?_)|(refine cq hD ?_)|(refine cq hA ?_)|(refine cq hL ?_)|(refine cq hSz ?_))
 rename_i b3 b8
 have hm0:c*f.width≤M:=by rw[hc];exact Nat.div_mul_le_self _ _
 have hMs:3*W.δ.size≤M:=by omega
 have hc1:1≤c:=by rw[hc,Nat.le_div_iff_mul_le (by omega)];omega
 have hgsum:∀α:Ar,∀c',IsAr ba α c'→α.gs.Perm (g::g2::W.α.gs)→α.room=W.α.room→W.δ.size≤α.room-α.used:=by
  intro α c' hA hpm hrm
  have e1:=hA.num.2.2.2
  rw[e1,(hpm.map (·.n)).sum_nat,List.map_cons,List.map_cons,List.sum_cons,List.sum_cons,hgn,hg2n,←hu4,hrm];omega
 refine G.loop (X:=FormX) (fun x=>x.q=x.rs.length∧x.pos=min (x.q*c) f.count∧(x.q=0∨(x.q-1)*c<f.count)∧x.S*holds W.δ.size f.width≤x.pos+x.q*(holds W.δ.size f.width-1)∧(x.rs.map (·.1.count)).sum≤x.pos∧(x.rs.map (·.1.blocks)).sum≤x.S∧
   Wc bd ba bs x.W x.cd x.ca x.cs∧Ev W x.W (nblocks W.δ.size f.width x.pos+x.S) x.S∧Keep W.live W x.W∧x.W.α.gs.Perm (g::g2::W.α.gs)∧x.W.live.Perm (addFs (x.rs.map (·.1)) W.live)∧RunsOk x.W.δ.disk W.δ.size f.width o once (fts.take x.pos) x.rs∧
   IsRd bw bx x.W f fts g x.pos x.cx x.cb∧Vec 27 4 x.p x.rs.length x.cap (fcells (x.rs.map (·.1))) x.vc∧x.ws.length=g2.n)
  (fun x=>[(8,pv b8),(5,pv bx),(0,pv bz)])
  (fun x=>[[(b8,row [pv g2.bb,.int .i64 (f.width:Int),.int .i64 (x.n0:Int),.int .i64 o.c0,.int .i64 o.c1,.int .i64 o.c2,.int .i64 o.c3,.int .i64 o.c4] 211)],x.ca,[(g2.br,row (wcells x.ws) 158)],wrow bw bd ba bs,x.cd,x.cs,x.cx,x.cb,x.vc,[(bz,row [pv bw,.int .i64 o.c0,.int .i64 o.c1,.int .i64 o.c2,.int .i64 o.c3,.int .i64 o.c4,.bool once,.slice x.p x.rs.length x.cap,.int .i64 x.last.c0,.int .i64 x.last.c1,.int .i64 x.last.c2,.int .i64 x.last.c3,.int .i64 x.last.c4,.bool x.some] 186)]])
  (fun x=>f.count-x.pos) ⟨0,0,0,0,[],cd,ca2,cs,cx,cb,[],List.replicate M 0,{W with α:=α2},none,0,last,some⟩
  ⟨rfl,by simp,.inl rfl,by simp,by simp,by simp,⟨h.dev,hA2,h.sp,h.nn,h.live⟩,by rw[nblocks_zero hp];exact⟨rfl,rfl,⟨Nat.le_refl _,Nat.le_refl _⟩,id,by dsimp only;rw[hroom2,hroom1],Nat.le_refl _⟩,fun _ _=>rfl,?_,List.Perm.refl _,⟨by simp,by simpa using Go.Srt.Sp.refl _ _,by simp⟩,hr1.move rfl,Vec.nil _ _,by rw[List.length_replicate,hg2n]⟩ (by repeat(first|exact trivial|refine⟨rfl,?_⟩)) (by repeat(first|exact Split.nil|(apply Split.cons;·(first|exact Take.nil|(repeat(first|exact Take.here|apply Take.there)))))) ?_
 ·exact hg2.trans ((hg1.cons _).trans (List.Perm.swap _ _ _))
 rintro⟨q,pos,S,n0,rs,cd1,ca1',cs1,cx1,cb1,vc1,ws1,W1,p1,cap1,last1,some1⟩ ⟨hq,hpos,hql,hS,hcs,hbs,hW1',hE,hK,hgs,hlv,hR,hrd,hV,hwl⟩
 dsimp only at hq hpos hql hS hcs hbs hW1' hE hK hgs hlv hR hrd hV hwl⊢
 have hsz:=hE.size
 have hacts:=hE.acts
 have hSle:=S_le hp hS
 have hqc:q≤f.count:=by
  rcases hql with h0|h0
  ·omega
  ·have:=Nat.le_mul_of_pos_right (q-1) (show 0<c by omega)
   omega
 have hnp:nblocks W.δ.size f.width pos≤pos:=by
  unfold nblocks
  rw[Nat.div_le_iff_le_mul_add_pred (by omega)]
  have:=Nat.le_mul_of_pos_left pos (show 0<holds W.δ.size f.width by omega)
  omega
 have hq3:(q-1)*c≤f.count∧(0<f.count→(q-1)*c<f.count):=by
  rcases hql with h0|h0
  ·rw[h0];simp
  ·exact⟨Nat.le_of_lt h0,fun _=>h0⟩
 have htkA:pos=f.count→fts.take pos=fts:=fun e=>List.take_of_length_le (by omega)
 have hlm:(rs.map (·.1)).length=rs.length:=List.length_map _
 have hFi:=fill_ct bw bd ba bs W1 cd1 ca1' cs1 hW1' bx f fts W.live (by rw[hsz];exact(hfo.sub hsub).keep hK) (fun e he=>hlv.mem_iff.2 (addFs_mem he)) g g2 (g2::W.α.gs) hgs List.mem_cons_self pos (by omega) cx1 cb1 hrd (by omega) b8 n0 o ws1 hwl (by omega)
 rw[hg2n,←hc,hsz] at hFi
 unfold runCells at hFi
 repeat(first|(refine st ?_;intros)|refine G.draw [] (h:= ?_)|refine G.draw (id:=5) [(4,.quiet),(9,.quiet),(10,.quiet),(15,.quiet),(16,.quiet)] (h:= ?_)|(refine cq hD ?_)|(refine cq hA ?_)|(refine cq hL ?_)|(refine cq hSz ?_))
 refine R.call (hct:=hFi) (h:= ?_)
 rintro _ _ ⟨cd3,ca3,W3,cx3,cb3,ts3,ws3,m,rfl,hW3,hE3,hd3,hσ3,hl3,hw3,hts3,htk3,⟨rfl,e6,e7,e8⟩|⟨rfl,e6,e7,e8,e9⟩⟩
 try dsimp only[List.cons_append,List.nil_append]
 ·have htkB:pos+m=f.count→fts.take (pos+m)=fts:=fun e=>List.take_of_length_le (by omega)
  have hmle:m≤f.count-pos:=by omega
  have htsl:ts3.length=m:=by rw[hts3,List.length_take,List.length_drop,htl];omega
  have hE4:=hE.trans hE3
  have hnm:nblocks W.δ.size f.width pos≤nblocks W.δ.size f.width (pos+m):=nblocks_mono (by omega)
  have hnc:nblocks W.δ.size f.width (pos+m)≤nblocks W.δ.size f.width f.count:=nblocks_mono (by omega)
  have hK4:Keep W.live W W3:=fun x hx=>by rw[hd3];exact hK x hx
  have hgs3:W3.α.gs.Perm (g::g2::W.α.gs):=by rw[e7];exact hgs
  have hlv3:W3.live.Perm (addFs (rs.map (·.1)) W.live):=by rw[hl3];exact hlv
  have hR3:RunsOk W3.δ.disk W.δ.size f.width o once (fts.take pos) rs:=by rw[hd3];exact hR
  have hsz3:W3.δ.size=W.δ.size:=hE4.size
  have hacts3:=hE4.acts
  have hnp2:nblocks W.δ.size f.width (pos+m)≤pos+m:=nblocks_le hp
  by_cases hm0q:m=0∧0<q
  ·obtain⟨hm00,hq0⟩:=hm0q
   have hpc:pos=f.count:=by omega
   have hrl:0<rs.length:=by omega
   repeat(first|(refine st ?_;intros)|refine G.draw [] (h:= ?_)|refine G.draw (id:=5) [(4,.quiet),(9,.quiet),(10,.quiet),(15,.quiet),(16,.quiet)] (h:= ?_)|(refine cq hD ?_)|(refine cq hA ?_)|(refine cq hL ?_)|(refine cq hSz ?_))
   have hRl:=aRelease_cb ba W3.α ca3 hW3.ar g2 (g::W.α.gs) (hgs3.trans (List.Perm.swap _ _ _))
   refine Go.SL.Lv.call (hc:=hRl.2) (h:= ?_)
   rintro _ _ ⟨ca8,α8,rfl,hA8,hg8,hroom8,rfl⟩
   try dsimp only[List.cons_append,List.nil_append]
   have hW8:Wc bd ba bs {W3 with α:=α8} cd3 ca8 cs1:=⟨hW3.dev,hA8,hW3.sp,hW3.nn,hW3.live⟩
   have hRc:=RClose_uB bw bd ba bs {W3 with α:=α8} cd3 ca8 cs1 hW8 bx f fts g W.α.gs hg8 (pos+m) cx3 cb3 (e8.move rfl)
   refine Go.SL.Lv.call (hc:=hRc.2) (h:= ?_)
   rintro _ _ ⟨ca9,α9,cx9,rfl,rfl,hW9,hE9,hg9,hx9⟩
   try dsimp only[List.cons_append,List.nil_append]
   (refine Go.SL.Lv.nil (Hr:=[[(bz,row [pv bw,.int .i64 o.c0,.int .i64 o.c1,.int .i64 o.c2,.int .i64 o.c3,.int .i64 o.c4,.bool once,.slice p1 rs.length cap1,.int .i64 last1.c0,.int .i64 last1.c1,.int .i64 last1.c2,.int .i64 last1.c3,.int .i64 last1.c4,.bool some1] 186)],wrow bw bd ba bs,cd3,ca9,cs1,vc1]) Tryz.results128 (hR:= ?_);exact⟨cd3,ca9,cs1,_,vc1,p1,cap1,last1,some1,rs,q,S,fts,rfl,hW9,(hE4.weak (by omega) (Nat.le_refl _)).arena hroom8 hE9,hK4,hg9,hV,hlv3,by rw[←htkA (by omega)];exact hR3,by omega,hq3.1,hq3.2,by omega,.inl ⟨rfl,rfl,fun e=>by rw[e] at hrl;simp at hrl,hq.symm,by omega,hbs⟩⟩)
  ·have hlay:=lay_ct bz bw bd ba bs W3 cd3 ca3 cs1 hW3 g2 (hgs3.mem_iff.2 (by simp)) b8 f.width o once ts3 ws3 (by rw[hg2n];exact hw3) ⟨hk1,hk5,by omega,by rw[htsl,hg2n];exact Nat.le_trans (Nat.mul_le_mul_right _ (by omega)) hm0,rfl,fun t ht=>hfo.fit t (List.mem_of_mem_drop (List.mem_of_mem_take (hts3▸ht)))⟩ (by rw[htsl];exact htk3)
    p1 cap1 last1 some1 (rs.map (·.1)) vc1 (by rw[List.length_map];exact hV) (by rw[hsz3];exact hgsum W3.α ca3 hW3.ar hgs3 hE4.room) (by omega) (by omega) (by rw[List.length_map];omega)
   rw[htsl,List.length_map,hsz3] at hlay
   unfold sRow sCells runCells at hlay
   by_cases hm1:m=0
   ·have hq0:q=0:=by omega
    have hrl0:rs.length=0:=by omega
    repeat(first|(refine st ?_;intros)|refine G.draw [] (h:= ?_)|refine G.draw (id:=5) [(4,.quiet),(9,.quiet),(10,.quiet),(15,.quiet),(16,.quiet)] (h:= ?_)|(refine cq hD ?_)|(refine cq hA ?_)|(refine cq hL ?_)|(refine cq hSz ?_))
    refine R.call (hct:=hlay) (h:= ?_)
    rintro _ _ ⟨cd5,ca5,cs5,W5,vc5,ws5,p5,cap5,last5,some5,fs5,rfl,hW5,hE5,hK5,hg5,hw5,hV5,⟨rfl,f5,out,rfl,hl5,hf5,hfc5,hfo5,hsd5,hsp5⟩|⟨rfl,rfl,hbig5,hl5⟩|⟨rfl,rfl,hf5,hl5⟩⟩
    try dsimp only[List.cons_append,List.nil_append]
    ·have hrm5:W5.α.room=W3.α.room:=hE5.room
     have hsz5:W5.δ.size=W3.δ.size:=hE5.size
     have hgs5:W5.α.gs.Perm (g::g2::W.α.gs):=hg5.trans hgs3
     have hE6:=hE4.trans hE5
     have hS6:=S_more (S:=S) (pos:=pos) (q:=q) (m:=m) hp hS rfl
     have hE7:Ev W W5 (nblocks W.δ.size f.width (pos+m)+(S+nblocks W.δ.size f.width m)) (S+nblocks W.δ.size f.width m):=hE6.weak (by omega) (by omega)
     have hK7:Keep W.live W W5:=hK4.trans (hK5.sub fun e he=>hlv3.mem_iff.2 (addFs_mem he))
     have hR7:RunsOk W5.δ.disk W.δ.size f.width o once (fts.take pos) rs:=hR3.keep (live0:=W.live) fun x hx=>hK5 x ((inF_perm hlv3 x).2 hx)
     have hql7:(q+1-1)*c≤f.count∧(0<f.count→(q+1-1)*c<f.count):=by
      rw[Nat.add_sub_cancel]
      by_cases hm1:m=0
      ·have:q=0:=by omega
       subst this;simp
      ·have:q*c<f.count:=by omega
       exact⟨Nat.le_of_lt this,fun _=>this⟩
     have hbl5:f5.blocks≤nblocks W.δ.size f.width m:=by rw[hfo5.blk,hf5];exact nblocks_mono (by omega)
     have hts:fts.take pos++ts3=fts.take (pos+m):=by rw[hts3,List.take_add]
     have hR8:RunsOk W5.δ.disk W.δ.size f.width o once (fts.take (pos+m)) (rs++[(f5,out)]):=by rw[←hts];exact hR7.more hf5 hfo5 hsd5 hsp5 (.inl (List.length_eq_zero_iff.1 hrl0))
     have hl8:W5.live.Perm (addFs ((rs++[(f5,out)]).map (·.1)) W.live):=by
      rw[hl5,List.map_append,List.map_singleton,addFs_app];exact addF_perm hlv3
     have hV8:Vec 27 4 p5 (rs++[(f5,out)]).length cap5 (fcells ((rs++[(f5,out)]).map (·.1))) vc5:=by simpa using hV5
     have hln:(rs.map (·.1)++[f5]).length=(rs++[(f5,out)]).length:=by simp
     have hc8:((rs++[(f5,out)]).map (·.1.count)).sum≤pos+m:=by simp;omega
     have hb8:((rs++[(f5,out)]).map (·.1.blocks)).sum≤S+nblocks W.δ.size f.width m:=by simp;omega
     rw[hln]
     repeat(first|(refine st ?_;intros)|refine G.draw [] (h:= ?_)|refine G.draw (id:=5) [(4,.quiet),(9,.quiet),(10,.quiet),(15,.quiet),(16,.quiet)] (h:= ?_)|(refine cq hD ?_)|(refine cq hA ?_)|(refine cq hL ?_)|(refine cq hSz ?_))
     have hRl:=aRelease_cb ba W5.α ca5 hW5.ar g2 (g::W.α.gs) (hgs5.trans (List.Perm.swap _ _ _))
     refine Go.SL.Lv.call (hc:=hRl.2) (h:= ?_)
     rintro _ _ ⟨ca8,α8,rfl,hA8,hg8,hroom8,rfl⟩
     try dsimp only[List.cons_append,List.nil_append]
     have hW8:Wc bd ba bs {W5 with α:=α8} cd5 ca8 cs5:=⟨hW5.dev,hA8,hW5.sp,hW5.nn,hW5.live⟩
     have hRc:=RClose_uB bw bd ba bs {W5 with α:=α8} cd5 ca8 cs5 hW8 bx f fts g W.α.gs hg8 (pos+m) cx3 cb3 (e8.move hsz5)
     refine Go.SL.Lv.call (hc:=hRc.2) (h:= ?_)
     rintro _ _ ⟨ca9,α9,cx9,rfl,rfl,hW9,hE9,hg9,hx9⟩
     try dsimp only[List.cons_append,List.nil_append]
     (refine Go.SL.Lv.nil (Hr:=[[(bz,row [pv bw,.int .i64 o.c0,.int .i64 o.c1,.int .i64 o.c2,.int .i64 o.c3,.int .i64 o.c4,.bool once,.slice p5 (rs++[(f5,out)]).length cap5,.int .i64 last5.c0,.int .i64 last5.c1,.int .i64 last5.c2,.int .i64 last5.c3,.int .i64 last5.c4,.bool some5] 186)],wrow bw bd ba bs,cd5,ca9,cs5,vc5]) Tryz.results128 (hR:= ?_);exact⟨cd5,ca9,cs5,_,vc5,p5,cap5,last5,some5,rs++[(f5,out)],q+1,S+nblocks W.δ.size f.width m,fts,rfl,hW9,(hE7.weak (by omega) (Nat.le_refl _)).arena hroom8 hE9,hK7,hg9,hV8,hl8,by rw[←htkB (by omega)];exact hR8,Nat.le_trans hS6 (Nat.add_le_add_right (by omega) _),hql7.1,hql7.2,by omega,.inl ⟨rfl,rfl,by simp,by simp[hq],by omega,hb8⟩⟩)
    ·have hrm5:W5.α.room=W3.α.room:=hE5.room
     have hsz5:W5.δ.size=W3.δ.size:=hE5.size
     have hgs5:W5.α.gs.Perm (g::g2::W.α.gs):=hg5.trans hgs3
     have hE6:=hE4.trans hE5
     have hS6:=S_more (S:=S) (pos:=pos) (q:=q) (m:=m) hp hS rfl
     have hE7:Ev W W5 (nblocks W.δ.size f.width (pos+m)+(S+nblocks W.δ.size f.width m)) (S+nblocks W.δ.size f.width m):=hE6.weak (by omega) (by omega)
     have hK7:Keep W.live W W5:=hK4.trans (hK5.sub fun e he=>hlv3.mem_iff.2 (addFs_mem he))
     have hR7:RunsOk W5.δ.disk W.δ.size f.width o once (fts.take pos) rs:=hR3.keep (live0:=W.live) fun x hx=>hK5 x ((inF_perm hlv3 x).2 hx)
     have hql7:(q+1-1)*c≤f.count∧(0<f.count→(q+1-1)*c<f.count):=by
      rw[Nat.add_sub_cancel]
      by_cases hm1:m=0
      ·have:q=0:=by omega
       subst this;simp
      ·have:q*c<f.count:=by omega
       exact⟨Nat.le_of_lt this,fun _=>this⟩
     repeat(first|(refine st ?_;intros)|refine G.draw [] (h:= ?_)|refine G.draw (id:=5) [(4,.quiet),(9,.quiet),(10,.quiet),(15,.quiet),(16,.quiet)] (h:= ?_)|(refine cq hD ?_)|(refine cq hA ?_)|(refine cq hL ?_)|(refine cq hSz ?_))
     have hRl:=aRelease_cb ba W5.α ca5 hW5.ar g2 (g::W.α.gs) (hgs5.trans (List.Perm.swap _ _ _))
     refine Go.SL.Lv.call (hc:=hRl.2) (h:= ?_)
     rintro _ _ ⟨ca8,α8,rfl,hA8,hg8,hroom8,rfl⟩
     try dsimp only[List.cons_append,List.nil_append]
     have hW8:Wc bd ba bs {W5 with α:=α8} cd5 ca8 cs5:=⟨hW5.dev,hA8,hW5.sp,hW5.nn,hW5.live⟩
     have hRc:=RClose_uB bw bd ba bs {W5 with α:=α8} cd5 ca8 cs5 hW8 bx f fts g W.α.gs hg8 (pos+m) cx3 cb3 (e8.move hsz5)
     refine Go.SL.Lv.call (hc:=hRc.2) (h:= ?_)
     rintro _ _ ⟨ca9,α9,cx9,rfl,rfl,hW9,hE9,hg9,hx9⟩
     try dsimp only[List.cons_append,List.nil_append]
     (refine Go.SL.Lv.nil (Hr:=[[(bz,row [pv bw,.int .i64 o.c0,.int .i64 o.c1,.int .i64 o.c2,.int .i64 o.c3,.int .i64 o.c4,.bool once,.slice p5 (rs.map (·.1)).length cap5,.int .i64 last5.c0,.int .i64 last5.c1,.int .i64 last5.c2,.int .i64 last5.c3,.int .i64 last5.c4,.bool some5] 186)],wrow bw bd ba bs,cd5,ca9,cs5,vc5]) Tryz.results128 (hR:= ?_);exact⟨cd5,ca9,cs5,_,vc5,p5,cap5,last5,some5,rs,q+1,S+nblocks W.δ.size f.width m,fts.take pos,by rw[hlm],hW9,(hE7.weak (by omega) (Nat.le_refl _)).arena hroom8 hE9,hK7,hg9,by rw[hlm] at hV5;exact hV5,hl5.trans hlv3,hR7,Nat.le_trans hS6 (Nat.add_le_add_right (by omega) _),hql7.1,hql7.2,by omega,.inr (.inl ⟨rfl,by have:=hE4.big;omega⟩)⟩)
    ·have hrm5:W5.α.room=W3.α.room:=hE5.room
     have hsz5:W5.δ.size=W3.δ.size:=hE5.size
     have hgs5:W5.α.gs.Perm (g::g2::W.α.gs):=hg5.trans hgs3
     have hE6:=hE4.trans hE5
     have hS6:=S_more (S:=S) (pos:=pos) (q:=q) (m:=m) hp hS rfl
     have hE7:Ev W W5 (nblocks W.δ.size f.width (pos+m)+(S+nblocks W.δ.size f.width m)) (S+nblocks W.δ.size f.width m):=hE6.weak (by omega) (by omega)
     have hK7:Keep W.live W W5:=hK4.trans (hK5.sub fun e he=>hlv3.mem_iff.2 (addFs_mem he))
     have hR7:RunsOk W5.δ.disk W.δ.size f.width o once (fts.take pos) rs:=hR3.keep (live0:=W.live) fun x hx=>hK5 x ((inF_perm hlv3 x).2 hx)
     have hql7:(q+1-1)*c≤f.count∧(0<f.count→(q+1-1)*c<f.count):=by
      rw[Nat.add_sub_cancel]
      by_cases hm1:m=0
      ·have:q=0:=by omega
       subst this;simp
      ·have:q*c<f.count:=by omega
       exact⟨Nat.le_of_lt this,fun _=>this⟩
     repeat(first|(refine st ?_;intros)|refine G.draw [] (h:= ?_)|refine G.draw (id:=5) [(4,.quiet),(9,.quiet),(10,.quiet),(15,.quiet),(16,.quiet)] (h:= ?_)|(refine cq hD ?_)|(refine cq hA ?_)|(refine cq hL ?_)|(refine cq hSz ?_))
     have hRl:=aRelease_cb ba W5.α ca5 hW5.ar g2 (g::W.α.gs) (hgs5.trans (List.Perm.swap _ _ _))
     refine Go.SL.Lv.call (hc:=hRl.2) (h:= ?_)
     rintro _ _ ⟨ca8,α8,rfl,hA8,hg8,hroom8,rfl⟩
     try dsimp only[List.cons_append,List.nil_append]
     have hW8:Wc bd ba bs {W5 with α:=α8} cd5 ca8 cs5:=⟨hW5.dev,hA8,hW5.sp,hW5.nn,hW5.live⟩
     have hRc:=RClose_uB bw bd ba bs {W5 with α:=α8} cd5 ca8 cs5 hW8 bx f fts g W.α.gs hg8 (pos+m) cx3 cb3 (e8.move hsz5)
     refine Go.SL.Lv.call (hc:=hRc.2) (h:= ?_)
     rintro _ _ ⟨ca9,α9,cx9,rfl,rfl,hW9,hE9,hg9,hx9⟩
     try dsimp only[List.cons_append,List.nil_append]
     (refine Go.SL.Lv.nil (Hr:=[[(bz,row [pv bw,.int .i64 o.c0,.int .i64 o.c1,.int .i64 o.c2,.int .i64 o.c3,.int .i64 o.c4,.bool once,.slice p5 (rs.map (·.1)).length cap5,.int .i64 last5.c0,.int .i64 last5.c1,.int .i64 last5.c2,.int .i64 last5.c3,.int .i64 last5.c4,.bool some5] 186)],wrow bw bd ba bs,cd5,ca9,cs5,vc5]) Tryz.results128 (hR:= ?_);exact⟨cd5,ca9,cs5,_,vc5,p5,cap5,last5,some5,rs,q+1,S+nblocks W.δ.size f.width m,fts.take pos,by rw[hlm],hW9,(hE7.weak (by omega) (Nat.le_refl _)).arena hroom8 hE9,hK7,hg9,by rw[hlm] at hV5;exact hV5,hl5.trans hlv3,hR7,Nat.le_trans hS6 (Nat.add_le_add_right (by omega) _),hql7.1,hql7.2,by omega,.inr (.inr ⟨rfl,fun e=>hf5 (hE4.fault e)⟩)⟩)
   ·repeat(first|(refine st ?_;intros)|refine G.draw [] (h:= ?_)|refine G.draw (id:=5) [(4,.quiet),(9,.quiet),(10,.quiet),(15,.quiet),(16,.quiet)] (h:= ?_)|(refine cq hD ?_)|(refine cq hA ?_)|(refine cq hL ?_)|(refine cq hSz ?_))
    refine R.call (hct:=hlay) (h:= ?_)
    rintro _ _ ⟨cd5,ca5,cs5,W5,vc5,ws5,p5,cap5,last5,some5,fs5,rfl,hW5,hE5,hK5,hg5,hw5,hV5,⟨rfl,f5,out,rfl,hl5,hf5,hfc5,hfo5,hsd5,hsp5⟩|⟨rfl,rfl,hbig5,hl5⟩|⟨rfl,rfl,hf5,hl5⟩⟩
    try dsimp only[List.cons_append,List.nil_append]
    ·have hrm5:W5.α.room=W3.α.room:=hE5.room
     have hsz5:W5.δ.size=W3.δ.size:=hE5.size
     have hgs5:W5.α.gs.Perm (g::g2::W.α.gs):=hg5.trans hgs3
     have hE6:=hE4.trans hE5
     have hS6:=S_more (S:=S) (pos:=pos) (q:=q) (m:=m) hp hS rfl
     have hE7:Ev W W5 (nblocks W.δ.size f.width (pos+m)+(S+nblocks W.δ.size f.width m)) (S+nblocks W.δ.size f.width m):=hE6.weak (by omega) (by omega)
     have hK7:Keep W.live W W5:=hK4.trans (hK5.sub fun e he=>hlv3.mem_iff.2 (addFs_mem he))
     have hR7:RunsOk W5.δ.disk W.δ.size f.width o once (fts.take pos) rs:=hR3.keep (live0:=W.live) fun x hx=>hK5 x ((inF_perm hlv3 x).2 hx)
     have hql7:(q+1-1)*c≤f.count∧(0<f.count→(q+1-1)*c<f.count):=by
      rw[Nat.add_sub_cancel]
      by_cases hm1:m=0
      ·have:q=0:=by omega
       subst this;simp
      ·have:q*c<f.count:=by omega
       exact⟨Nat.le_of_lt this,fun _=>this⟩
     have hbl5:f5.blocks≤nblocks W.δ.size f.width m:=by rw[hfo5.blk,hf5];exact nblocks_mono (by omega)
     have hts:fts.take pos++ts3=fts.take (pos+m):=by rw[hts3,List.take_add]
     have hne6:rs=[]∨(fts.take pos≠[]∧ts3≠[]):=by
      by_cases hq0:q=0
      ·left;exact List.length_eq_zero_iff.1 (by omega)
      ·right
       have hqc1:0<q*c:=Nat.mul_pos (by omega) (by omega)
       constructor
       ·intro e
        have:=congrArg List.length e
        rw[List.length_take,htl,List.length_nil] at this
        omega
       ·intro e
        rw[e,List.length_nil] at htsl;omega
     have hR8:RunsOk W5.δ.disk W.δ.size f.width o once (fts.take (pos+m)) (rs++[(f5,out)]):=by rw[←hts];exact hR7.more hf5 hfo5 hsd5 hsp5 hne6
     have hl8:W5.live.Perm (addFs ((rs++[(f5,out)]).map (·.1)) W.live):=by
      rw[hl5,List.map_append,List.map_singleton,addFs_app];exact addF_perm hlv3
     have hV8:Vec 27 4 p5 (rs++[(f5,out)]).length cap5 (fcells ((rs++[(f5,out)]).map (·.1))) vc5:=by simpa using hV5
     have hln:(rs.map (·.1)++[f5]).length=(rs++[(f5,out)]).length:=by simp
     have hc8:((rs++[(f5,out)]).map (·.1.count)).sum≤pos+m:=by simp;omega
     have hb8:((rs++[(f5,out)]).map (·.1.blocks)).sum≤S+nblocks W.δ.size f.width m:=by simp;omega
     rw[hln]
     repeat(first|(refine st ?_;intros)|refine G.draw [] (h:= ?_)|refine G.draw (id:=5) [(4,.quiet),(9,.quiet),(10,.quiet),(15,.quiet),(16,.quiet)] (h:= ?_)|(refine cq hD ?_)|(refine cq hA ?_)|(refine cq hL ?_)|(refine cq hSz ?_))
     refine Dn.round ⟨q+1,pos+m,S+nblocks W.δ.size f.width m,m,rs++[(f5,out)],cd5,ca5,cs5,cx3,cb3,vc5,ws5,W5,p5,cap5,last5,some5⟩ ⟨by simp[hq],?_,.inr ?_,hS6,hc8,hb8,hW5,hE7,hK7,hgs5,hl8,hR8,e8.move hsz5,hV8,hw5⟩ (by dsimp only;omega)
     ·dsimp only
      have:(q+1)*c=q*c+c:=Nat.succ_mul _ _
      omega
     ·dsimp only
      rw[Nat.add_sub_cancel];omega
    ·have hrm5:W5.α.room=W3.α.room:=hE5.room
     have hsz5:W5.δ.size=W3.δ.size:=hE5.size
     have hgs5:W5.α.gs.Perm (g::g2::W.α.gs):=hg5.trans hgs3
     have hE6:=hE4.trans hE5
     have hS6:=S_more (S:=S) (pos:=pos) (q:=q) (m:=m) hp hS rfl
     have hE7:Ev W W5 (nblocks W.δ.size f.width (pos+m)+(S+nblocks W.δ.size f.width m)) (S+nblocks W.δ.size f.width m):=hE6.weak (by omega) (by omega)
     have hK7:Keep W.live W W5:=hK4.trans (hK5.sub fun e he=>hlv3.mem_iff.2 (addFs_mem he))
     have hR7:RunsOk W5.δ.disk W.δ.size f.width o once (fts.take pos) rs:=hR3.keep (live0:=W.live) fun x hx=>hK5 x ((inF_perm hlv3 x).2 hx)
     have hql7:(q+1-1)*c≤f.count∧(0<f.count→(q+1-1)*c<f.count):=by
      rw[Nat.add_sub_cancel]
      by_cases hm1:m=0
      ·have:q=0:=by omega
       subst this;simp
      ·have:q*c<f.count:=by omega
       exact⟨Nat.le_of_lt this,fun _=>this⟩
     repeat(first|(refine st ?_;intros)|refine G.draw [] (h:= ?_)|refine G.draw (id:=5) [(4,.quiet),(9,.quiet),(10,.quiet),(15,.quiet),(16,.quiet)] (h:= ?_)|(refine cq hD ?_)|(refine cq hA ?_)|(refine cq hL ?_)|(refine cq hSz ?_))
     have hRl:=aRelease_cb ba W5.α ca5 hW5.ar g2 (g::W.α.gs) (hgs5.trans (List.Perm.swap _ _ _))
     refine Go.SL.Lv.call (hc:=hRl.2) (h:= ?_)
     rintro _ _ ⟨ca8,α8,rfl,hA8,hg8,hroom8,rfl⟩
     try dsimp only[List.cons_append,List.nil_append]
     have hW8:Wc bd ba bs {W5 with α:=α8} cd5 ca8 cs5:=⟨hW5.dev,hA8,hW5.sp,hW5.nn,hW5.live⟩
     have hRc:=RClose_uB bw bd ba bs {W5 with α:=α8} cd5 ca8 cs5 hW8 bx f fts g W.α.gs hg8 (pos+m) cx3 cb3 (e8.move hsz5)
     refine Go.SL.Lv.call (hc:=hRc.2) (h:= ?_)
     rintro _ _ ⟨ca9,α9,cx9,rfl,rfl,hW9,hE9,hg9,hx9⟩
     try dsimp only[List.cons_append,List.nil_append]
     (refine Go.SL.Lv.nil (Hr:=[[(bz,row [pv bw,.int .i64 o.c0,.int .i64 o.c1,.int .i64 o.c2,.int .i64 o.c3,.int .i64 o.c4,.bool once,.slice p5 (rs.map (·.1)).length cap5,.int .i64 last5.c0,.int .i64 last5.c1,.int .i64 last5.c2,.int .i64 last5.c3,.int .i64 last5.c4,.bool some5] 186)],wrow bw bd ba bs,cd5,ca9,cs5,vc5]) Tryz.results128 (hR:= ?_);exact⟨cd5,ca9,cs5,_,vc5,p5,cap5,last5,some5,rs,q+1,S+nblocks W.δ.size f.width m,fts.take pos,by rw[hlm],hW9,(hE7.weak (by omega) (Nat.le_refl _)).arena hroom8 hE9,hK7,hg9,by rw[hlm] at hV5;exact hV5,hl5.trans hlv3,hR7,Nat.le_trans hS6 (Nat.add_le_add_right (by omega) _),hql7.1,hql7.2,by omega,.inr (.inl ⟨rfl,by have:=hE4.big;omega⟩)⟩)
    ·have hrm5:W5.α.room=W3.α.room:=hE5.room
     have hsz5:W5.δ.size=W3.δ.size:=hE5.size
     have hgs5:W5.α.gs.Perm (g::g2::W.α.gs):=hg5.trans hgs3
     have hE6:=hE4.trans hE5
     have hS6:=S_more (S:=S) (pos:=pos) (q:=q) (m:=m) hp hS rfl
     have hE7:Ev W W5 (nblocks W.δ.size f.width (pos+m)+(S+nblocks W.δ.size f.width m)) (S+nblocks W.δ.size f.width m):=hE6.weak (by omega) (by omega)
     have hK7:Keep W.live W W5:=hK4.trans (hK5.sub fun e he=>hlv3.mem_iff.2 (addFs_mem he))
     have hR7:RunsOk W5.δ.disk W.δ.size f.width o once (fts.take pos) rs:=hR3.keep (live0:=W.live) fun x hx=>hK5 x ((inF_perm hlv3 x).2 hx)
     have hql7:(q+1-1)*c≤f.count∧(0<f.count→(q+1-1)*c<f.count):=by
      rw[Nat.add_sub_cancel]
      by_cases hm1:m=0
      ·have:q=0:=by omega
       subst this;simp
      ·have:q*c<f.count:=by omega
       exact⟨Nat.le_of_lt this,fun _=>this⟩
     repeat(first|(refine st ?_;intros)|refine G.draw [] (h:= ?_)|refine G.draw (id:=5) [(4,.quiet),(9,.quiet),(10,.quiet),(15,.quiet),(16,.quiet)] (h:= ?_)|(refine cq hD ?_)|(refine cq hA ?_)|(refine cq hL ?_)|(refine cq hSz ?_))
     have hRl:=aRelease_cb ba W5.α ca5 hW5.ar g2 (g::W.α.gs) (hgs5.trans (List.Perm.swap _ _ _))
     refine Go.SL.Lv.call (hc:=hRl.2) (h:= ?_)
     rintro _ _ ⟨ca8,α8,rfl,hA8,hg8,hroom8,rfl⟩
     try dsimp only[List.cons_append,List.nil_append]
     have hW8:Wc bd ba bs {W5 with α:=α8} cd5 ca8 cs5:=⟨hW5.dev,hA8,hW5.sp,hW5.nn,hW5.live⟩
     have hRc:=RClose_uB bw bd ba bs {W5 with α:=α8} cd5 ca8 cs5 hW8 bx f fts g W.α.gs hg8 (pos+m) cx3 cb3 (e8.move hsz5)
     refine Go.SL.Lv.call (hc:=hRc.2) (h:= ?_)
     rintro _ _ ⟨ca9,α9,cx9,rfl,rfl,hW9,hE9,hg9,hx9⟩
     try dsimp only[List.cons_append,List.nil_append]
     (refine Go.SL.Lv.nil (Hr:=[[(bz,row [pv bw,.int .i64 o.c0,.int .i64 o.c1,.int .i64 o.c2,.int .i64 o.c3,.int .i64 o.c4,.bool once,.slice p5 (rs.map (·.1)).length cap5,.int .i64 last5.c0,.int .i64 last5.c1,.int .i64 last5.c2,.int .i64 last5.c3,.int .i64 last5.c4,.bool some5] 186)],wrow bw bd ba bs,cd5,ca9,cs5,vc5]) Tryz.results128 (hR:= ?_);exact⟨cd5,ca9,cs5,_,vc5,p5,cap5,last5,some5,rs,q+1,S+nblocks W.δ.size f.width m,fts.take pos,by rw[hlm],hW9,(hE7.weak (by omega) (Nat.le_refl _)).arena hroom8 hE9,hK7,hg9,by rw[hlm] at hV5;exact hV5,hl5.trans hlv3,hR7,Nat.le_trans hS6 (Nat.add_le_add_right (by omega) _),hql7.1,hql7.2,by omega,.inr (.inr ⟨rfl,fun e=>hf5 (hE4.fault e)⟩)⟩)
 ·repeat(first|(refine st ?_;intros)|refine G.draw [] (h:= ?_)|refine G.draw (id:=5) [(4,.quiet),(9,.quiet),(10,.quiet),(15,.quiet),(16,.quiet)] (h:= ?_)|(refine cq hD ?_)|(refine cq hA ?_)|(refine cq hL ?_)|(refine cq hSz ?_))
  have hnm:nblocks W.δ.size f.width pos≤nblocks W.δ.size f.width (pos+m):=nblocks_mono (by omega)
  have hnc:nblocks W.δ.size f.width (pos+m)≤nblocks W.δ.size f.width f.count:=nblocks_mono (by omega)
  have hE5:Ev W W3 (nblocks W.δ.size f.width f.count+S) S:=(hE.trans hE3).weak (by omega) (by omega)
  have hRl:=aRelease_cb ba W3.α ca3 hW3.ar g2 W.α.gs e7
  have hRc:=RClosed_uB bx cx3 e8
  refine Go.SL.Lv.call (hc:=hRl.2) (h:= ?_)
  rintro _ _ ⟨ca4,α4,rfl,hA4,hg4,hroom4,rfl⟩
  try dsimp only[List.cons_append,List.nil_append]
  refine Go.SL.Lv.call (hc:=hRc.2) (h:= ?_)
  rintro _ _ ⟨rfl,rfl⟩
  try dsimp only[List.cons_append,List.nil_append]
  (refine Go.SL.Lv.nil (Hr:=[[(bz,row [pv bw,.int .i64 o.c0,.int .i64 o.c1,.int .i64 o.c2,.int .i64 o.c3,.int .i64 o.c4,.bool once,.slice p1 rs.length cap1,.int .i64 last1.c0,.int .i64 last1.c1,.int .i64 last1.c2,.int .i64 last1.c3,.int .i64 last1.c4,.bool some1] 186)],wrow bw bd ba bs,cd3,ca4,cs1,vc1]) Tryz.results128 (hR:= ?_);exact⟨cd3,ca4,cs1,{W3 with α:=α4},vc1,p1,cap1,last1,some1,rs,q,S,fts.take pos,rfl,⟨hW3.dev,hA4,hW3.sp,hW3.nn,hW3.live⟩,{hE5 with room:=hroom4.trans hE5.room},fun x hx=>by rw[hd3];exact hK x hx,hg4,hV,by rw[hl3];exact hlv,by rw[hd3];exact hR,by omega,hq3.1,hq3.2,by omega,.inr (.inr ⟨rfl,fun e=>e6 (hE.fault e)⟩)⟩)
end Go.Proofs.YtammjnjpheobaaaGreat
