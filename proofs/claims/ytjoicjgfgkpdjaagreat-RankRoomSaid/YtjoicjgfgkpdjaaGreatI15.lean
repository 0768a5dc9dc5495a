/-
  Parts of the proof, put together: Form, HeapPlain, Heads, Heap. No condition.
-/
import Derived.Test.YtjoicjgfgkpdjaaGreatI14
set_option linter.unusedVariables false
set_option linter.unusedSimpArgs false
set_option linter.unnecessarySimpa false
set_option maxHeartbeats 4000000
namespace Go.Proofs.YtjoicjgfgkpdjaaGreat
open Go.SL Go.Spc Go.Tup Go.Srt
def addFs (fs:List Fl) (live:List Ext):List Ext:=fs.foldl (fun l f=>addF f l) live
theorem addFs_app (fs:List Fl) (f:Fl) (live:List Ext):addFs (fs++[f]) live=addF f (addFs fs live):=by simp[addFs]
theorem addF_perm {f:Fl} {a b:List Ext} (h:a.Perm b):(addF f a).Perm (addF f b):=by
 unfold addF;split
 ·exact h
 ·exact h.cons _
theorem addF_mem {f:Fl} {a:List Ext} {e:Ext} (h:e∈a):e∈addF f a:=by
 unfold addF;split
 ·exact h
 ·exact List.mem_cons_of_mem _ h
theorem addFs_mem {fs:List Fl} {a:List Ext} {e:Ext} (h:e∈a):e∈addFs fs a:=by
 unfold addFs
 induction fs generalizing a with
 |nil=>exact h
 |cons f fs ih=>exact ih (addF_mem h)
theorem addFs_ext {fs:List Fl} {a:List Ext} {f:Fl} (h:f∈fs) (hb:f.blocks≠0):f.ext∈addFs fs a:=by
 induction fs generalizing a with
 |nil=>simp at h
 |cons x fs ih=>
  rcases List.mem_cons.1 h with rfl|h
  ·have h1:f.ext∈addF f a:=by unfold addF;rw[if_neg hb];exact List.mem_cons_self
   exact addFs_mem (fs:=fs) h1
  ·exact ih h
structure RunsOk (d:Nat→Option (List Int)) (size k:Nat) (o:T5) (once:Bool) (l:List T5) (rs:List (Fl×List T5)):Prop where
 each:∀r∈rs,r.1.width=k∧FileOk d size [r.1.ext] r.1 r.2∧Sd (ltO o) once r.2
 sp:Go.Srt.Sp (ltO o) once l (rs.flatMap (·.2))
 pos:l≠[]→∀r∈rs,0<r.1.count
theorem sp_nil {o:T5} {once:Bool} {a b:List T5} (h:Go.Srt.Sp (ltO o) once a b) (hb:b=[]):a=[]:=by
 subst hb
 cases a with
 |nil=>rfl
 |cons x a=>
  have h1:=h x
  have h2:eqv (ltO o) x x=true:=eqv_iff.2 ⟨(ltO_swo o).irr _,(ltO_swo o).irr _⟩
  rw[List.filter_cons_of_pos h2] at h1
  cases once<;>simp[keepC] at h1
theorem RunsOk.keep {d d':Nat→Option (List Int)} {size k:Nat} {o:T5} {once:Bool} {l:List T5} {rs:List (Fl×List T5)} (h:RunsOk d size k o once l rs) {live0:List Ext} (hk:∀x,inF (addFs (rs.map (·.1)) live0) x→d' x=d x):RunsOk d' size k o once l rs:=
 ⟨fun r hr=>⟨(h.each r hr).1,(h.each r hr).2.1.keep fun x hx=>hk x (by
   obtain⟨e,he,h1,h2⟩:=hx
   simp only[List.mem_singleton] at he
   subst he
   refine⟨r.1.ext,addFs_ext (List.mem_map.2 ⟨r,hr,rfl⟩) ?_,h1,h2⟩
   simp only[Fl.ext] at h1 h2;omega),(h.each r hr).2.2⟩,h.sp,h.pos⟩
theorem RunsOk.more {d:Nat→Option (List Int)} {size k:Nat} {o:T5} {once:Bool} {l src out:List T5} {rs:List (Fl×List T5)} {f:Fl} (h:RunsOk d size k o once l rs) (h1:f.width=k) (h2:FileOk d size [f.ext] f out) (h3:Sd (ltO o) once out) (h4:Go.Srt.Sp (ltO o) once src out) (h5:rs=[]∨(l≠[]∧src≠[])):
  RunsOk d size k o once (l++src) (rs++[(f,out)]):=
 ⟨fun r hr=>by
  rcases List.mem_append.1 hr with hr|hr
  ·exact h.each r hr
  ·simp only[List.mem_singleton] at hr
   subst hr;exact⟨h1,h2,h3⟩,by
  rw[List.flatMap_append]
  refine Go.Srt.Sp.app h.sp ?_
  simpa using h4,fun hne r hr=>by
  have hol:=h2.len
  have hout:src≠[]→0<f.count:=fun hs=>by
   rw[←hol]
   cases out with
   |nil=>exact absurd (sp_nil h4 rfl) hs
   |cons a b=>simp
  rcases h5 with rfl|⟨h6,h7⟩
  ·have hl:l=[]:=sp_nil h.sp rfl
   subst hl
   simp only[List.nil_append,List.mem_singleton] at hne hr
   subst hr;exact hout hne
  ·rcases List.mem_append.1 hr with hr|hr
   ·exact h.pos h6 r hr
   ·simp only[List.mem_singleton] at hr
    subst hr;exact hout h7⟩
theorem nblocks_le {s k n:Nat} (hp:1≤holds s k):nblocks s k n≤n:=by
 unfold nblocks
 rw[Nat.div_le_iff_le_mul_add_pred (by omega)]
 have:=Nat.le_mul_of_pos_left n (show 0<holds s k by omega)
 omega
theorem Ev.arena {W W':Wk} {α α8:Ar} {k m:Nat} (h:Ev W W' k m) (h8:α8.room=W'.α.room) (h9:Ev {W' with α:=α8} {W' with α:=α} 0 0):Ev W {W' with α:=α} k m:={h with room:=h9.room.trans (h8.trans h.room)}
theorem S_le {S pos q h:Nat} (hh:1≤h) (hS:S*h≤pos+q*(h-1)):S≤pos+q:=by
 apply Classical.byContradiction
 intro hn
 have h1:(pos+q+1)*h≤S*h:=Nat.mul_le_mul_right _ (by omega)
 have h2:(pos+q+1)*h=pos*h+q*h+h:=by rw[Nat.add_mul,Nat.add_mul,Nat.one_mul]
 have h3:pos≤pos*h:=Nat.le_mul_of_pos_right _ (by omega)
 have h4:q*(h-1)≤q*h:=Nat.mul_le_mul_left _ (by omega)
 omega
theorem S_more {S pos q h m n:Nat} (hh:1≤h) (hS:S*h≤pos+q*(h-1)) (hn:n=(m+h-1)/h):(S+n)*h≤pos+m+(q+1)*(h-1):=by
 have h1:n*h≤m+h-1:=by rw[hn];exact Nat.div_mul_le_self _ _
 rw[Nat.add_mul,Nat.succ_mul]
 omega
structure FormX where
 q:Nat
 pos:Nat
 S:Nat
 n0:Nat
 rs:List (Fl×List T5)
 cd:Chunk
 ca:Chunk
 cs:Chunk
 cx:Chunk
 cb:Chunk
 vc:Chunk
 ws:List Int
 W:Wk
 p:Option Addr
 cap:Nat
 last:T5
 some:Bool
theorem form_ct (bz bw bd ba bs:Nat) (W:Wk) (cd ca cs:Chunk) (h:Wc bd ba bs W cd ca cs) (f:Fl) (fts:List T5) (Lv:List Ext) (hfo:FileOk W.δ.disk W.δ.size Lv f fts) (hsub:∀e∈Lv,e∈W.live) (o:T5) (once:Bool) (last:T5) (some:Bool)
  (hr:5*W.δ.size≤W.α.room-W.α.used) (hac:W.δ.acts≤10000000000) (hcn:f.count≤1000000) (L0 c:Nat) (hL0:L0=W.α.room-W.α.used) (hc:c=(L0-2*W.δ.size)/f.width):
  Ct Tryz.prog 105 [pv bz,flv f] [sRow bz bw o once none 0 0 last some,wrow bw bd ba bs,cd,ca,cs] fun v H'=>
   ∃cd' ca' cs' W' vc' p' cap' last' some' rs q S l,H'=[sRow bz bw o once p' rs.length cap' last' some',wrow bw bd ba bs,cd',ca',cs',vc']∧Wc bd ba bs W' cd' ca' cs'∧
    Ev W W' (nblocks W.δ.size f.width f.count+S) S∧Keep W.live W W'∧W'.α.gs.Perm W.α.gs∧Vec 27 4 p' rs.length cap' (fcells (rs.map (·.1))) vc'∧W'.live.Perm (addFs (rs.map (·.1)) W.live)∧
    RunsOk W'.δ.disk W.δ.size f.width o once l rs∧S*holds W.δ.size f.width≤f.count+q*(holds W.δ.size f.width-1)∧(q-1)*c≤f.count∧(0<f.count→(q-1)*c<f.count)∧q≤f.count+1∧
    ((v= .int .i64 0∧l=fts∧rs≠[]∧rs.length=q∧((rs.map (·.1.count)).sum≤f.count)∧((rs.map (·.1.blocks)).sum≤S))∨(v= .int .i64 5∧big W.σ.free<S)∨(v= .int .i64 6∧W.δ.fault≠-1)):=by
 obtain⟨⟨hs1,hs2⟩,hbk,hfr⟩:=h.dev.num
 obtain⟨hu1,hu2,_,hu4⟩:=h.ar.num
 have hk1:=hfo.w1
 have hk5:=hfo.w2
 have hp:=holds_pos hs1 hk1 hk5
 have htl:=hfo.len
 have hRd:=Read_u bw bd ba bs W cd ca cs h f fts Lv hfo (by omega)
 have hD:=WDevice_ct bw bd ba bs
 have hA:=WArena_ct bw bd ba bs
 have hfl:flv f= .agg #[.int .i64 (f.first:Int),.int .i64 (f.blocks:Int),.int .i64 (f.width:Int),.int .i64 (f.count:Int)]:=rfl
 rw[hfl] at hRd⊢
 unfold sRow sCells
 refine Ct.introD Tryz.func105 rfl Tryz.ntmps105 (nle rfl) fun w0=> ?_;dsimp only[argSlots,Nat.reduceAdd]
 repeat(first|(refine st ?_;intros)|refine G.draw [] (h:= ?_)|refine G.draw (id:=5) [(4,.quiet),(9,.quiet),(10,.quiet),(15,.quiet),(16,.quiet)] (h:= ?_)|(refine cq hD ?_)|(refine cq hA ?_)|(refine cq hL ?_)|(refine cq hSz ?_))
 refine R.call (hct:=hRd) (h:= ?_)
 rintro _ _ ⟨bx,g,ca1,α1,cx,cb,rfl,rfl,hW1,hE1,hg1,hgn,hr1⟩
 try dsimp only[List.cons_append,List.nil_append]
 have hu5:α1.used=W.α.used+W.δ.size:=by
  have e1:=hW1.ar.num.2.2.2
  dsimp only at e1
  rw[e1,(hg1.map (·.n)).sum_nat,hu4,List.map_cons,List.sum_cons,hgn];omega
 have hroom1:α1.room=W.α.room:=hE1.room
 have hL:=aLeft ba α1 ca1 hW1.ar
 rw[show(α1.room:Int)-(α1.used:Int)=((L0-W.δ.size:Nat):Int) by omega] at hL
 have hSz:=Size_ct bd W.δ cd hW1.dev
 have eb:IntKind.wrap .i64 (((L0-W.δ.size:Nat):Int)-(W.δ.size:Int))=((L0-2*W.δ.size:Nat):Int):=by rw[wrap_i64 (by omega)];omega
 have hGr:=aGrant ba α1 ca1 hW1.ar (L0-2*W.δ.size) (by omega)
 have hMn:(L0-2*W.δ.size)≤1000000000:=by omega
 generalize hM:L0-2*W.δ.size=M at*
 repeat(first|(refine st ?_;intros)|refine G.draw [] (h:= ?_)|refine G.draw (id:=5) [(4,.quiet),(9,.quiet),(10,.quiet),(15,.quiet),(16,.quiet)] (h:= ?_)|(refine cq hD ?_)|(refine cq hA ?_)|(refine cq hL ?_)|(refine cq hSz ?_))
 refine R.call (hct:=hGr) (h:= ?_)
 rintro _ _ ⟨g2,ca2,α2,hg2n,rfl,hA2,hg2,hroom2,rfl⟩
 try dsimp only[List.cons_append,List.nil_append]
 repeat(first|(refine st ?_;intros)|refine G.draw [] (h:= ?_)|refine G.draw (id:=5) [(4,.quiet),(9,.quiet),(10,.quiet),(15,.quiet),(16,.quiet)] (h:= ?_)|(refine cq hD ?_)|(refine cq hA ?_)|(refine cq hL ?_)|(refine cq hSz ?_))
 rename_i b3 b8
 have hm0:c*f.width≤M:=by rw[hc];exact Nat.div_mul_le_self _ _
 have hMs:3*W.δ.size≤M:=by omega
 have hc1:1≤c:=by rw[hc,Nat.le_div_iff_mul_le (by omega)];omega
 have hgsum:∀α:Ar,∀c',IsAr ba α c'→α.gs.Perm (g::g2::W.α.gs)→α.room=W.α.room→W.δ.size≤α.room-α.used:=by
  intro α c' hA hpm hrm
  have e1:=hA.num.2.2.2
  rw[e1,(hpm.map (·.n)).sum_nat,List.map_cons,List.map_cons,List.sum_cons,List.sum_cons,hgn,hg2n,←hu4,hrm];omega
 refine G.loop (X:=FormX) (fun x=>x.q=x.rs.length∧x.pos=min (x.q*c) f.count∧(x.q=0∨(x.q-1)*c<f.count)∧x.S*holds W.δ.size f.width≤x.pos+x.q*(holds W.δ.size f.width-1)∧(x.rs.map (·.1.count)).sum≤x.pos∧(x.rs.map (·.1.blocks)).sum≤x.S∧
   Wc bd ba bs x.W x.cd x.ca x.cs∧Ev W x.W (nblocks W.δ.size f.width x.pos+x.S) x.S∧Keep W.live W x.W∧x.W.α.gs.Perm (g::g2::W.α.gs)∧x.W.live.Perm (addFs (x.rs.map (·.1)) W.live)∧RunsOk x.W.δ.disk W.δ.size f.width o once (fts.take x.pos) x.rs∧
   IsRd bw bx x.W f fts g x.pos x.cx x.cb∧Vec 27 4 x.p x.rs.length x.cap (fcells (x.rs.map (·.1))) x.vc∧x.ws.length=g2.n)
  (fun x=>[(8,pv b8),(5,pv bx),(0,pv bz)])
  (fun x=>[[(b8,row [pv g2.bb,.int .i64 (f.width:Int),.int .i64 (x.n0:Int),.int .i64 o.c0,.int .i64 o.c1,.int .i64 o.c2,.int .i64 o.c3,.int .i64 o.c4] 187)],x.ca,[(g2.br,row (wcells x.ws) 125)],wrow bw bd ba bs,x.cd,x.cs,x.cx,x.cb,x.vc,[(bz,row [pv bw,.int .i64 o.c0,.int .i64 o.c1,.int .i64 o.c2,.int .i64 o.c3,.int .i64 o.c4,.bool once,.slice x.p x.rs.length x.cap,.int .i64 x.last.c0,.int .i64 x.last.c1,.int .i64 x.last.c2,.int .i64 x.last.c3,.int .i64 x.last.c4,.bool x.some] 164)]])
  (fun x=>f.count-x.pos) ⟨0,0,0,0,[],cd,ca2,cs,cx,cb,[],List.replicate M 0,{W with α:=α2},none,0,last,some⟩
  ⟨rfl,by simp,.inl rfl,by simp,by simp,by simp,⟨h.dev,hA2,h.sp,h.nn,h.live⟩,by rw[nblocks_zero hp];exact⟨rfl,rfl,⟨Nat.le_refl _,Nat.le_refl _⟩,id,by dsimp only;rw[hroom2,hroom1],Nat.le_refl _⟩,fun _ _=>rfl,?_,List.Perm.refl _,⟨by simp,by simpa using Go.Srt.Sp.refl _ _,by simp⟩,hr1.move rfl,Vec.nil _ _,by rw[List.length_replicate,hg2n]⟩ (by repeat(first|exact trivial|refine⟨rfl,?_⟩)) (by repeat(first|exact Split.nil|(apply Split.cons;·(first|exact Take.nil|(repeat(first|exact Take.here|apply Take.there)))))) ?_
 ·exact hg2.trans ((hg1.cons _).trans (List.Perm.swap _ _ _))
 rintro⟨q,pos,S,n0,rs,cd1,ca1',cs1,cx1,cb1,vc1,ws1,W1,p1,cap1,last1,some1⟩ ⟨hq,hpos,hql,hS,hcs,hbs,hW1',hE,hK,hgs,hlv,hR,hrd,hV,hwl⟩
 dsimp only at hq hpos hql hS hcs hbs hW1' hE hK hgs hlv hR hrd hV hwl⊢
 have hsz:=hE.size
 have hacts:=hE.acts
 have hSle:=S_le hp hS
 have hqc:q≤f.count:=by
  rcases hql with h0|h0
  ·omega
  ·have:=Nat.le_mul_of_pos_right (q-1) (show 0<c by omega)
   omega
 have hnp:nblocks W.δ.size f.width pos≤pos:=by
  unfold nblocks
  rw[Nat.div_le_iff_le_mul_add_pred (by omega)]
  have:=Nat.le_mul_of_pos_left pos (show 0<holds W.δ.size f.width by omega)
  omega
 have hq3:(q-1)*c≤f.count∧(0<f.count→(q-1)*c<f.count):=by
  rcases hql with h0|h0
  ·rw[h0];simp
  ·exact⟨Nat.le_of_lt h0,fun _=>h0⟩
 have htkA:pos=f.count→fts.take pos=fts:=fun e=>List.take_of_length_le (by omega)
 have hlm:(rs.map (·.1)).length=rs.length:=List.length_map _
 have hFi:=fill_ct bw bd ba bs W1 cd1 ca1' cs1 hW1' bx f fts W.live (by rw[hsz];exact(hfo.sub hsub).keep hK) (fun e he=>hlv.mem_iff.2 (addFs_mem he)) g g2 (g2::W.α.gs) hgs List.mem_cons_self pos (by omega) cx1 cb1 hrd (by omega) b8 n0 o ws1 hwl (by omega)
 rw[hg2n,←hc,hsz] at hFi
 unfold runCells at hFi
 repeat(first|(refine st ?_;intros)|refine G.draw [] (h:= ?_)|refine G.draw (id:=5) [(4,.quiet),(9,.quiet),(10,.quiet),(15,.quiet),(16,.quiet)] (h:= ?_)|(refine cq hD ?_)|(refine cq hA ?_)|(refine cq hL ?_)|(refine cq hSz ?_))
 refine R.call (hct:=hFi) (h:= ?_)
 rintro _ _ ⟨cd3,ca3,W3,cx3,cb3,ts3,ws3,m,rfl,hW3,hE3,hd3,hσ3,hl3,hw3,hts3,htk3,⟨rfl,e6,e7,e8⟩|⟨rfl,e6,e7,e8,e9⟩⟩
 try dsimp only[List.cons_append,List.nil_append]
 ·have htkB:pos+m=f.count→fts.take (pos+m)=fts:=fun e=>List.take_of_length_le (by omega)
  have hmle:m≤f.count-pos:=by omega
  have htsl:ts3.length=m:=by rw[hts3,List.length_take,List.length_drop,htl];omega
  have hE4:=hE.trans hE3
  have hnm:nblocks W.δ.size f.width pos≤nblocks W.δ.size f.width (pos+m):=nblocks_mono (by omega)
  have hnc:nblocks W.δ.size f.width (pos+m)≤nblocks W.δ.size f.width f.count:=nblocks_mono (by omega)
  have hK4:Keep W.live W W3:=fun x hx=>by rw[hd3];exact hK x hx
  have hgs3:W3.α.gs.Perm (g::g2::W.α.gs):=by rw[e7];exact hgs
  have hlv3:W3.live.Perm (addFs (rs.map (·.1)) W.live):=by rw[hl3];exact hlv
  have hR3:RunsOk W3.δ.disk W.δ.size f.width o once (fts.take pos) rs:=by rw[hd3];exact hR
  have hsz3:W3.δ.size=W.δ.size:=hE4.size
  have hacts3:=hE4.acts
  have hnp2:nblocks W.δ.size f.width (pos+m)≤pos+m:=nblocks_le hp
  by_cases hm0q:m=0∧0<q
  ·obtain⟨hm00,hq0⟩:=hm0q
   have hpc:pos=f.count:=by omega
   have hrl:0<rs.length:=by omega
   repeat(first|(refine st ?_;intros)|refine G.draw [] (h:= ?_)|refine G.draw (id:=5) [(4,.quiet),(9,.quiet),(10,.quiet),(15,.quiet),(16,.quiet)] (h:= ?_)|(refine cq hD ?_)|(refine cq hA ?_)|(refine cq hL ?_)|(refine cq hSz ?_))
   have hRl:=aRelease_cb ba W3.α ca3 hW3.ar g2 (g::W.α.gs) (hgs3.trans (List.Perm.swap _ _ _))
   refine Go.SL.Lv.call (hc:=hRl.2) (h:= ?_)
   rintro _ _ ⟨ca8,α8,rfl,hA8,hg8,hroom8,rfl⟩
   try dsimp only[List.cons_append,List.nil_append]
   have hW8:Wc bd ba bs {W3 with α:=α8} cd3 ca8 cs1:=⟨hW3.dev,hA8,hW3.sp,hW3.nn,hW3.live⟩
   have hRc:=RClose_uB bw bd ba bs {W3 with α:=α8} cd3 ca8 cs1 hW8 bx f fts g W.α.gs hg8 (pos+m) cx3 cb3 (e8.move rfl)
   refine Go.SL.Lv.call (hc:=hRc.2) (h:= ?_)
   rintro _ _ ⟨ca9,α9,cx9,rfl,rfl,hW9,hE9,hg9,hx9⟩
   try dsimp only[List.cons_append,List.nil_append]
   (refine Go.SL.Lv.nil (Hr:=[[(bz,row [pv bw,.int .i64 o.c0,.int .i64 o.c1,.int .i64 o.c2,.int .i64 o.c3,.int .i64 o.c4,.bool once,.slice p1 rs.length cap1,.int .i64 last1.c0,.int .i64 last1.c1,.int .i64 last1.c2,.int .i64 last1.c3,.int .i64 last1.c4,.bool some1] 164)],wrow bw bd ba bs,cd3,ca9,cs1,vc1]) Tryz.results105 (hR:= ?_);exact⟨cd3,ca9,cs1,_,vc1,p1,cap1,last1,some1,rs,q,S,fts,rfl,hW9,(hE4.weak (by omega) (Nat.le_refl _)).arena hroom8 hE9,hK4,hg9,hV,hlv3,by rw[←htkA (by omega)];exact hR3,by omega,hq3.1,hq3.2,by omega,.inl ⟨rfl,rfl,fun e=>by rw[e] at hrl;simp at hrl,hq.symm,by omega,hbs⟩⟩)
  ·have hlay:=lay_ct bz bw bd ba bs W3 cd3 ca3 cs1 hW3 g2 (hgs3.mem_iff.2 (by simp)) b8 f.width o once ts3 ws3 (by rw[hg2n];exact hw3) ⟨hk1,hk5,by omega,by rw[htsl,hg2n];exact Nat.le_trans (Nat.mul_le_mul_right _ (by omega)) hm0,rfl,fun t ht=>hfo.fit t (List.mem_of_mem_drop (List.mem_of_mem_take (hts3▸ht)))⟩ (by rw[htsl];exact htk3)
    p1 cap1 last1 some1 (rs.map (·.1)) vc1 (by rw[List.length_map];exact hV) (by rw[hsz3];exact hgsum W3.α ca3 hW3.ar hgs3 hE4.room) (by omega) (by omega) (by rw[List.length_map];omega)
   rw[htsl,List.length_map,hsz3] at hlay
   unfold sRow sCells runCells at hlay
   by_cases hm1:m=0
   ·have hq0:q=0:=by omega
    have hrl0:rs.length=0:=by omega
    repeat(first|(refine st ?_;intros)|refine G.draw [] (h:= ?_)|refine G.draw (id:=5) [(4,.quiet),(9,.quiet),(10,.quiet),(15,.quiet),(16,.quiet)] (h:= ?_)|(refine cq hD ?_)|(refine cq hA ?_)|(refine cq hL ?_)|(refine cq hSz ?_))
    refine R.call (hct:=hlay) (h:= ?_)
    rintro _ _ ⟨cd5,ca5,cs5,W5,vc5,ws5,p5,cap5,last5,some5,fs5,rfl,hW5,hE5,hK5,hg5,hw5,hV5,⟨rfl,f5,out,rfl,hl5,hf5,hfc5,hfo5,hsd5,hsp5⟩|⟨rfl,rfl,hbig5,hl5⟩|⟨rfl,rfl,hf5,hl5⟩⟩
    try dsimp only[List.cons_append,List.nil_append]
    ·have hrm5:W5.α.room=W3.α.room:=hE5.room
     have hsz5:W5.δ.size=W3.δ.size:=hE5.size
     have hgs5:W5.α.gs.Perm (g::g2::W.α.gs):=hg5.trans hgs3
     have hE6:=hE4.trans hE5
     have hS6:=S_more (S:=S) (pos:=pos) (q:=q) (m:=m) hp hS rfl
     have hE7:Ev W W5 (nblocks W.δ.size f.width (pos+m)+(S+nblocks W.δ.size f.width m)) (S+nblocks W.δ.size f.width m):=hE6.weak (by omega) (by omega)
     have hK7:Keep W.live W W5:=hK4.trans (hK5.sub fun e he=>hlv3.mem_iff.2 (addFs_mem he))
     have hR7:RunsOk W5.δ.disk W.δ.size f.width o once (fts.take pos) rs:=hR3.keep (live0:=W.live) fun x hx=>hK5 x ((inF_perm hlv3 x).2 hx)
     have hql7:(q+1-1)*c≤f.count∧(0<f.count→(q+1-1)*c<f.count):=by
      rw[Nat.add_sub_cancel]
      by_cases hm1:m=0
      ·have:q=0:=by omega
       subst this;simp
      ·have:q*c<f.count:=by omega
       exact⟨Nat.le_of_lt this,fun _=>this⟩
     have hbl5:f5.blocks≤nblocks W.δ.size f.width m:=by rw[hfo5.blk,hf5];exact nblocks_mono (by omega)
     have hts:fts.take pos++ts3=fts.take (pos+m):=by rw[hts3,List.take_add]
     have hR8:RunsOk W5.δ.disk W.δ.size f.width o once (fts.take (pos+m)) (rs++[(f5,out)]):=by rw[←hts];exact hR7.more hf5 hfo5 hsd5 hsp5 (.inl (List.length_eq_zero_iff.1 hrl0))
     have hl8:W5.live.Perm (addFs ((rs++[(f5,out)]).map (·.1)) W.live):=by
      rw[hl5,List.map_append,List.map_singleton,addFs_app];exact addF_perm hlv3
     have hV8:Vec 27 4 p5 (rs++[(f5,out)]).length cap5 (fcells ((rs++[(f5,out)]).map (·.1))) vc5:=by simpa using hV5
     have hln:(rs.map (·.1)++[f5]).length=(rs++[(f5,out)]).length:=by simp
     have hc8:((rs++[(f5,out)]).map (·.1.count)).sum≤pos+m:=by simp;omega
     have hb8:((rs++[(f5,out)]).map (·.1.blocks)).sum≤S+nblocks W.δ.size f.width m:=by simp;omega
     rw[hln]
     repeat(first|(refine st ?_;intros)|refine G.draw [] (h:= ?_)|refine G.draw (id:=5) [(4,.quiet),(9,.quiet),(10,.quiet),(15,.quiet),(16,.quiet)] (h:= ?_)|(refine cq hD ?_)|(refine cq hA ?_)|(refine cq hL ?_)|(refine cq hSz ?_))
     have hRl:=aRelease_cb ba W5.α ca5 hW5.ar g2 (g::W.α.gs) (hgs5.trans (List.Perm.swap _ _ _))
     refine Go.SL.Lv.call (hc:=hRl.2) (h:= ?_)
     rintro _ _ ⟨ca8,α8,rfl,hA8,hg8,hroom8,rfl⟩
     try dsimp only[List.cons_append,List.nil_append]
     have hW8:Wc bd ba bs {W5 with α:=α8} cd5 ca8 cs5:=⟨hW5.dev,hA8,hW5.sp,hW5.nn,hW5.live⟩
     have hRc:=RClose_uB bw bd ba bs {W5 with α:=α8} cd5 ca8 cs5 hW8 bx f fts g W.α.gs hg8 (pos+m) cx3 cb3 (e8.move hsz5)
     refine Go.SL.Lv.call (hc:=hRc.2) (h:= ?_)
     rintro _ _ ⟨ca9,α9,cx9,rfl,rfl,hW9,hE9,hg9,hx9⟩
     try dsimp only[List.cons_append,List.nil_append]
     (refine Go.SL.Lv.nil (Hr:=[[(bz,row [pv bw,.int .i64 o.c0,.int .i64 o.c1,.int .i64 o.c2,.int .i64 o.c3,.int .i64 o.c4,.bool once,.slice p5 (rs++[(f5,out)]).length cap5,.int .i64 last5.c0,.int .i64 last5.c1,.int .i64 last5.c2,.int .i64 last5.c3,.int .i64 last5.c4,.bool some5] 164)],wrow bw bd ba bs,cd5,ca9,cs5,vc5]) Tryz.results105 (hR:= ?_);exact⟨cd5,ca9,cs5,_,vc5,p5,cap5,last5,some5,rs++[(f5,out)],q+1,S+nblocks W.δ.size f.width m,fts,rfl,hW9,(hE7.weak (by omega) (Nat.le_refl _)).arena hroom8 hE9,hK7,hg9,hV8,hl8,by rw[←htkB (by omega)];exact hR8,Nat.le_trans hS6 (Nat.add_le_add_right (by omega) _),hql7.1,hql7.2,by omega,.inl ⟨rfl,rfl,by simp,by simp[hq],by omega,hb8⟩⟩)
    ·have hrm5:W5.α.room=W3.α.room:=hE5.room
     have hsz5:W5.δ.size=W3.δ.size:=hE5.size
     have hgs5:W5.α.gs.Perm (g::g2::W.α.gs):=hg5.trans hgs3
     have hE6:=hE4.trans hE5
     have hS6:=S_more (S:=S) (pos:=pos) (q:=q) (m:=m) hp hS rfl
     have hE7:Ev W W5 (nblocks W.δ.size f.width (pos+m)+(S+nblocks W.δ.size f.width m)) (S+nblocks W.δ.size f.width m):=hE6.weak (by omega) (by omega)
     have hK7:Keep W.live W W5:=hK4.trans (hK5.sub fun e he=>hlv3.mem_iff.2 (addFs_mem he))
     have hR7:RunsOk W5.δ.disk W.δ.size f.width o once (fts.take pos) rs:=hR3.keep (live0:=W.live) fun x hx=>hK5 x ((inF_perm hlv3 x).2 hx)
     have hql7:(q+1-1)*c≤f.count∧(0<f.count→(q+1-1)*c<f.count):=by
      rw[Nat.add_sub_cancel]
      by_cases hm1:m=0
      ·have:q=0:=by omega
       subst this;simp
      ·have:q*c<f.count:=by omega
       exact⟨Nat.le_of_lt this,fun _=>this⟩
     repeat(first|(refine st ?_;intros)|refine G.draw [] (h:= ?_)|refine G.draw (id:=5) [(4,.quiet),(9,.quiet),(10,.quiet),(15,.quiet),(16,.quiet)] (h:= ?_)|(refine cq hD ?_)|(refine cq hA ?_)|(refine cq hL ?_)|(refine cq hSz ?_))
     have hRl:=aRelease_cb ba W5.α ca5 hW5.ar g2 (g::W.α.gs) (hgs5.trans (List.Perm.swap _ _ _))
     refine Go.SL.Lv.call (hc:=hRl.2) (h:= ?_)
     rintro _ _ ⟨ca8,α8,rfl,hA8,hg8,hroom8,rfl⟩
     try dsimp only[List.cons_append,List.nil_append]
     have hW8:Wc bd ba bs {W5 with α:=α8} cd5 ca8 cs5:=⟨hW5.dev,hA8,hW5.sp,hW5.nn,hW5.live⟩
     have hRc:=RClose_uB bw bd ba bs {W5 with α:=α8} cd5 ca8 cs5 hW8 bx f fts g W.α.gs hg8 (pos+m) cx3 cb3 (e8.move hsz5)
     refine Go.SL.Lv.call (hc:=hRc.2) (h:= ?_)
     rintro _ _ ⟨ca9,α9,cx9,rfl,rfl,hW9,hE9,hg9,hx9⟩
     try dsimp only[List.cons_append,List.nil_append]
     (refine Go.SL.Lv.nil (Hr:=[[(bz,row [pv bw,.int .i64 o.c0,.int .i64 o.c1,.int .i64 o.c2,.int .i64 o.c3,.int .i64 o.c4,.bool once,.slice p5 (rs.map (·.1)).length cap5,.int .i64 last5.c0,.int .i64 last5.c1,.int .i64 last5.c2,.int .i64 last5.c3,.int .i64 last5.c4,.bool some5] 164)],wrow bw bd ba bs,cd5,ca9,cs5,vc5]) Tryz.results105 (hR:= ?_);exact⟨cd5,ca9,cs5,_,vc5,p5,cap5,last5,some5,rs,q+1,S+nblocks W.δ.size f.width m,fts.take pos,by rw[hlm],hW9,(hE7.weak (by omega) (Nat.le_refl _)).arena hroom8 hE9,hK7,hg9,by rw[hlm] at hV5;exact hV5,hl5.trans hlv3,hR7,Nat.le_trans hS6 (Nat.add_le_add_right (by omega) _),hql7.1,hql7.2,by omega,.inr (.inl ⟨rfl,by have:=hE4.big;omega⟩)⟩)
    ·have hrm5:W5.α.room=W3.α.room:=hE5.room
     have hsz5:W5.δ.size=W3.δ.size:=hE5.size
     have hgs5:W5.α.gs.Perm (g::g2::W.α.gs):=hg5.trans hgs3
     have hE6:=hE4.trans hE5
     have hS6:=S_more (S:=S) (pos:=pos) (q:=q) (m:=m) hp hS rfl
     have hE7:Ev W W5 (nblocks W.δ.size f.width (pos+m)+(S+nblocks W.δ.size f.width m)) (S+nblocks W.δ.size f.width m):=hE6.weak (by omega) (by omega)
     have hK7:Keep W.live W W5:=hK4.trans (hK5.sub fun e he=>hlv3.mem_iff.2 (addFs_mem he))
     have hR7:RunsOk W5.δ.disk W.δ.size f.width o once (fts.take pos) rs:=hR3.keep (live0:=W.live) fun x hx=>hK5 x ((inF_perm hlv3 x).2 hx)
     have hql7:(q+1-1)*c≤f.count∧(0<f.count→(q+1-1)*c<f.count):=by
      rw[Nat.add_sub_cancel]
      by_cases hm1:m=0
      ·have:q=0:=by omega
       subst this;simp
      ·have:q*c<f.count:=by omega
       exact⟨Nat.le_of_lt this,fun _=>this⟩
     repeat(first|(refine st ?_;intros)|refine G.draw [] (h:= ?_)|refine G.draw (id:=5) [(4,.quiet),(9,.quiet),(10,.quiet),(15,.quiet),(16,.quiet)] (h:= ?_)|(refine cq hD ?_)|(refine cq hA ?_)|(refine cq hL ?_)|(refine cq hSz ?_))
     have hRl:=aRelease_cb ba W5.α ca5 hW5.ar g2 (g::W.α.gs) (hgs5.trans (List.Perm.swap _ _ _))
     refine Go.SL.Lv.call (hc:=hRl.2) (h:= ?_)
     rintro _ _ ⟨ca8,α8,rfl,hA8,hg8,hroom8,rfl⟩
     try dsimp only[List.cons_append,List.nil_append]
     have hW8:Wc bd ba bs {W5 with α:=α8} cd5 ca8 cs5:=⟨hW5.dev,hA8,hW5.sp,hW5.nn,hW5.live⟩
     have hRc:=RClose_uB bw bd ba bs {W5 with α:=α8} cd5 ca8 cs5 hW8 bx f fts g W.α.gs hg8 (pos+m) cx3 cb3 (e8.move hsz5)
     refine Go.SL.Lv.call (hc:=hRc.2) (h:= ?_)
     rintro _ _ ⟨ca9,α9,cx9,rfl,rfl,hW9,hE9,hg9,hx9⟩
     try dsimp only[List.cons_append,List.nil_append]
     (refine Go.SL.Lv.nil (Hr:=[[(bz,row [pv bw,.int .i64 o.c0,.int .i64 o.c1,.int .i64 o.c2,.int .i64 o.c3,.int .i64 o.c4,.bool once,.slice p5 (rs.map (·.1)).length cap5,.int .i64 last5.c0,.int .i64 last5.c1,.int .i64 last5.c2,.int .i64 last5.c3,.int .i64 last5.c4,.bool some5] 164)],wrow bw bd ba bs,cd5,ca9,cs5,vc5]) Tryz.results105 (hR:= ?_);exact⟨cd5,ca9,cs5,_,vc5,p5,cap5,last5,some5,rs,q+1,S+nblocks W.δ.size f.width m,fts.take pos,by rw[hlm],hW9,(hE7.weak (by omega) (Nat.le_refl _)).arena hroom8 hE9,hK7,hg9,by rw[hlm] at hV5;exact hV5,hl5.trans hlv3,hR7,Nat.le_trans hS6 (Nat.add_le_add_right (by omega) _),hql7.1,hql7.2,by omega,.inr (.inr ⟨rfl,fun e=>hf5 (hE4.fault e)⟩)⟩)
   ·repeat(first|(refine st ?_;intros)|refine G.draw [] (h:= ?_)|refine G.draw (id:=5) [(4,.quiet),(9,.quiet),(10,.quiet),(15,.quiet),(16,.quiet)] (h:= ?_)|(refine cq hD ?_)|(refine cq hA ?_)|(refine cq hL ?_)|(refine cq hSz ?_))
    refine R.call (hct:=hlay) (h:= ?_)
    rintro _ _ ⟨cd5,ca5,cs5,W5,vc5,ws5,p5,cap5,last5,some5,fs5,rfl,hW5,hE5,hK5,hg5,hw5,hV5,⟨rfl,f5,out,rfl,hl5,hf5,hfc5,hfo5,hsd5,hsp5⟩|⟨rfl,rfl,hbig5,hl5⟩|⟨rfl,rfl,hf5,hl5⟩⟩
    try dsimp only[List.cons_append,List.nil_append]
    ·have hrm5:W5.α.room=W3.α.room:=hE5.room
     have hsz5:W5.δ.size=W3.δ.size:=hE5.size
     have hgs5:W5.α.gs.Perm (g::g2::W.α.gs):=hg5.trans hgs3
     have hE6:=hE4.trans hE5
     have hS6:=S_more (S:=S) (pos:=pos) (q:=q) (m:=m) hp hS rfl
     have hE7:Ev W W5 (nblocks W.δ.size f.width (pos+m)+(S+nblocks W.δ.size f.width m)) (S+nblocks W.δ.size f.width m):=hE6.weak (by omega) (by omega)
     have hK7:Keep W.live W W5:=hK4.trans (hK5.sub fun e he=>hlv3.mem_iff.2 (addFs_mem he))
     have hR7:RunsOk W5.δ.disk W.δ.size f.width o once (fts.take pos) rs:=hR3.keep (live0:=W.live) fun x hx=>hK5 x ((inF_perm hlv3 x).2 hx)
     have hql7:(q+1-1)*c≤f.count∧(0<f.count→(q+1-1)*c<f.count):=by
      rw[Nat.add_sub_cancel]
      by_cases hm1:m=0
      ·have:q=0:=by omega
       subst this;simp
      ·have:q*c<f.count:=by omega
       exact⟨Nat.le_of_lt this,fun _=>this⟩
     have hbl5:f5.blocks≤nblocks W.δ.size f.width m:=by rw[hfo5.blk,hf5];exact nblocks_mono (by omega)
     have hts:fts.take pos++ts3=fts.take (pos+m):=by rw[hts3,List.take_add]
     have hne6:rs=[]∨(fts.take pos≠[]∧ts3≠[]):=by
      by_cases hq0:q=0
      ·left;exact List.length_eq_zero_iff.1 (by omega)
      ·right
       have hqc1:0<q*c:=Nat.mul_pos (by omega) (by omega)
       constructor
       ·intro e
        have:=congrArg List.length e
        rw[List.length_take,htl,List.length_nil] at this
        omega
       ·intro e
        rw[e,List.length_nil] at htsl;omega
     have hR8:RunsOk W5.δ.disk W.δ.size f.width o once (fts.take (pos+m)) (rs++[(f5,out)]):=by rw[←hts];exact hR7.more hf5 hfo5 hsd5 hsp5 hne6
     have hl8:W5.live.Perm (addFs ((rs++[(f5,out)]).map (·.1)) W.live):=by
      rw[hl5,List.map_append,List.map_singleton,addFs_app];exact addF_perm hlv3
     have hV8:Vec 27 4 p5 (rs++[(f5,out)]).length cap5 (fcells ((rs++[(f5,out)]).map (·.1))) vc5:=by simpa using hV5
     have hln:(rs.map (·.1)++[f5]).length=(rs++[(f5,out)]).length:=by simp
     have hc8:((rs++[(f5,out)]).map (·.1.count)).sum≤pos+m:=by simp;omega
     have hb8:((rs++[(f5,out)]).map (·.1.blocks)).sum≤S+nblocks W.δ.size f.width m:=by simp;omega
     rw[hln]
     repeat(first|(refine st ?_;intros)|refine G.draw [] (h:= ?_)|refine G.draw (id:=5) [(4,.quiet),(9,.quiet),(10,.quiet),(15,.quiet),(16,.quiet)] (h:= ?_)|(refine cq hD ?_)|(refine cq hA ?_)|(refine cq hL ?_)|(refine cq hSz ?_))
     refine Dn.round ⟨q+1,pos+m,S+nblocks W.δ.size f.width m,m,rs++[(f5,out)],cd5,ca5,cs5,cx3,cb3,vc5,ws5,W5,p5,cap5,last5,some5⟩ ⟨by simp[hq],?_,.inr ?_,hS6,hc8,hb8,hW5,hE7,hK7,hgs5,hl8,hR8,e8.move hsz5,hV8,hw5⟩ (by dsimp only;omega)
     ·dsimp only
      have:(q+1)*c=q*c+c:=Nat.succ_mul _ _
      omega
     ·dsimp only
      rw[Nat.add_sub_cancel];omega
    ·have hrm5:W5.α.room=W3.α.room:=hE5.room
     have hsz5:W5.δ.size=W3.δ.size:=hE5.size
     have hgs5:W5.α.gs.Perm (g::g2::W.α.gs):=hg5.trans hgs3
     have hE6:=hE4.trans hE5
     have hS6:=S_more (S:=S) (pos:=pos) (q:=q) (m:=m) hp hS rfl
     have hE7:Ev W W5 (nblocks W.δ.size f.width (pos+m)+(S+nblocks W.δ.size f.width m)) (S+nblocks W.δ.size f.width m):=hE6.weak (by omega) (by omega)
     have hK7:Keep W.live W W5:=hK4.trans (hK5.sub fun e he=>hlv3.mem_iff.2 (addFs_mem he))
     have hR7:RunsOk W5.δ.disk W.δ.size f.width o once (fts.take pos) rs:=hR3.keep (live0:=W.live) fun x hx=>hK5 x ((inF_perm hlv3 x).2 hx)
     have hql7:(q+1-1)*c≤f.count∧(0<f.count→(q+1-1)*c<f.count):=by
      rw[Nat.add_sub_cancel]
      by_cases hm1:m=0
      ·have:q=0:=by omega
       subst this;simp
      ·have:q*c<f.count:=by omega
       exact⟨Nat.le_of_lt this,fun _=>this⟩
     repeat(first|(refine st ?_;intros)|refine G.draw [] (h:= ?_)|refine G.draw (id:=5) [(4,.quiet),(9,.quiet),(10,.quiet),(15,.quiet),(16,.quiet)] (h:= ?_)|(refine cq hD ?_)|(refine cq hA ?_)|(refine cq hL ?_)|(refine cq hSz ?_))
     have hRl:=aRelease_cb ba W5.α ca5 hW5.ar g2 (g::W.α.gs) (hgs5.trans (List.Perm.swap _ _ _))
     refine Go.SL.Lv.call (hc:=hRl.2) (h:= ?_)
     rintro _ _ ⟨ca8,α8,rfl,hA8,hg8,hroom8,rfl⟩
     try dsimp only[List.cons_append,List.nil_append]
     have hW8:Wc bd ba bs {W5 with α:=α8} cd5 ca8 cs5:=⟨hW5.dev,hA8,hW5.sp,hW5.nn,hW5.live⟩
     have hRc:=RClose_uB bw bd ba bs {W5 with α:=α8} cd5 ca8 cs5 hW8 bx f fts g W.α.gs hg8 (pos+m) cx3 cb3 (e8.move hsz5)
     refine Go.SL.Lv.call (hc:=hRc.2) (h:= ?_)
     rintro _ _ ⟨ca9,α9,cx9,rfl,rfl,hW9,hE9,hg9,hx9⟩
     try dsimp only[List.cons_append,List.nil_append]
     (refine Go.SL.Lv.nil (Hr:=[[(bz,row [pv bw,.int .i64 o.c0,.int .i64 o.c1,.int .i64 o.c2,.int .i64 o.c3,.int .i64 o.c4,.bool once,.slice p5 (rs.map (·.1)).length cap5,.int .i64 last5.c0,.int .i64 last5.c1,.int .i64 last5.c2,.int .i64 last5.c3,.int .i64 last5.c4,.bool some5] 164)],wrow bw bd ba bs,cd5,ca9,cs5,vc5]) Tryz.results105 (hR:= ?_);exact⟨cd5,ca9,cs5,_,vc5,p5,cap5,last5,some5,rs,q+1,S+nblocks W.δ.size f.width m,fts.take pos,by rw[hlm],hW9,(hE7.weak (by omega) (Nat.le_refl _)).arena hroom8 hE9,hK7,hg9,by rw[hlm] at hV5;exact hV5,hl5.trans hlv3,hR7,Nat.le_trans hS6 (Nat.add_le_add_right (by omega) _),hql7.1,hql7.2,by omega,.inr (.inl ⟨rfl,by have:=hE4.big;omega⟩)⟩)
    ·have hrm5:W5.α.room=W3.α.room:=hE5.room
     have hsz5:W5.δ.size=W3.δ.size:=hE5.size
     have hgs5:W5.α.gs.Perm (g::g2::W.α.gs):=hg5.trans hgs3
     have hE6:=hE4.trans hE5
     have hS6:=S_more (S:=S) (pos:=pos) (q:=q) (m:=m) hp hS rfl
     have hE7:Ev W W5 (nblocks W.δ.size f.width (pos+m)+(S+nblocks W.δ.size f.width m)) (S+nblocks W.δ.size f.width m):=hE6.weak (by omega) (by omega)
     have hK7:Keep W.live W W5:=hK4.trans (hK5.sub fun e he=>hlv3.mem_iff.2 (addFs_mem he))
     have hR7:RunsOk W5.δ.disk W.δ.size f.width o once (fts.take pos) rs:=hR3.keep (live0:=W.live) fun x hx=>hK5 x ((inF_perm hlv3 x).2 hx)
     have hql7:(q+1-1)*c≤f.count∧(0<f.count→(q+1-1)*c<f.count):=by
      rw[Nat.add_sub_cancel]
      by_cases hm1:m=0
      ·have:q=0:=by omega
       subst this;simp
      ·have:q*c<f.count:=by omega
       exact⟨Nat.le_of_lt this,fun _=>this⟩
     repeat(first|(refine st ?_;intros)|refine G.draw [] (h:= ?_)|refine G.draw (id:=5) [(4,.quiet),(9,.quiet),(10,.quiet),(15,.quiet),(16,.quiet)] (h:= ?_)|(refine cq hD ?_)|(refine cq hA ?_)|(refine cq hL ?_)|(refine cq hSz ?_))
     have hRl:=aRelease_cb ba W5.α ca5 hW5.ar g2 (g::W.α.gs) (hgs5.trans (List.Perm.swap _ _ _))
     refine Go.SL.Lv.call (hc:=hRl.2) (h:= ?_)
     rintro _ _ ⟨ca8,α8,rfl,hA8,hg8,hroom8,rfl⟩
     try dsimp only[List.cons_append,List.nil_append]
     have hW8:Wc bd ba bs {W5 with α:=α8} cd5 ca8 cs5:=⟨hW5.dev,hA8,hW5.sp,hW5.nn,hW5.live⟩
     have hRc:=RClose_uB bw bd ba bs {W5 with α:=α8} cd5 ca8 cs5 hW8 bx f fts g W.α.gs hg8 (pos+m) cx3 cb3 (e8.move hsz5)
     refine Go.SL.Lv.call (hc:=hRc.2) (h:= ?_)
     rintro _ _ ⟨ca9,α9,cx9,rfl,rfl,hW9,hE9,hg9,hx9⟩
     try dsimp only[List.cons_append,List.nil_append]
     (refine Go.SL.Lv.nil (Hr:=[[(bz,row [pv bw,.int .i64 o.c0,.int .i64 o.c1,.int .i64 o.c2,.int .i64 o.c3,.int .i64 o.c4,.bool once,.slice p5 (rs.map (·.1)).length cap5,.int .i64 last5.c0,.int .i64 last5.c1,.int .i64 last5.c2,.int .i64 last5.c3,.int .i64 last5.c4,.bool some5] 164)],wrow bw bd ba bs,cd5,ca9,cs5,vc5]) Tryz.results105 (hR:= ?_);exact⟨cd5,ca9,cs5,_,vc5,p5,cap5,last5,some5,rs,q+1,S+nblocks W.δ.size f.width m,fts.take pos,by rw[hlm],hW9,(hE7.weak (by omega) (Nat.le_refl _)).arena hroom8 hE9,hK7,hg9,by rw[hlm] at hV5;exact hV5,hl5.trans hlv3,hR7,Nat.le_trans hS6 (Nat.add_le_add_right (by omega) _),hql7.1,hql7.2,by omega,.inr (.inr ⟨rfl,fun e=>hf5 (hE4.fault e)⟩)⟩)
 ·repeat(first|(refine st ?_;intros)|refine G.draw [] (h:= ?_)|refine G.draw (id:=5) [(4,.quiet),(9,.quiet),(10,.quiet),(15,.quiet),(16,.quiet)] (h:= ?_)|(refine cq hD ?_)|(refine cq hA ?_)|(refine cq hL ?_)|(refine cq hSz ?_))
  have hnm:nblocks W.δ.size f.width pos≤nblocks W.δ.size f.width (pos+m):=nblocks_mono (by omega)
  have hnc:nblocks W.δ.size f.width (pos+m)≤nblocks W.δ.size f.width f.count:=nblocks_mono (by omega)
  have hE5:Ev W W3 (nblocks W.δ.size f.width f.count+S) S:=(hE.trans hE3).weak (by omega) (by omega)
  have hRl:=aRelease_cb ba W3.α ca3 hW3.ar g2 W.α.gs e7
  have hRc:=RClosed_uB bx cx3 e8
  refine Go.SL.Lv.call (hc:=hRl.2) (h:= ?_)
  rintro _ _ ⟨ca4,α4,rfl,hA4,hg4,hroom4,rfl⟩
  try dsimp only[List.cons_append,List.nil_append]
  refine Go.SL.Lv.call (hc:=hRc.2) (h:= ?_)
  rintro _ _ ⟨rfl,rfl⟩
  try dsimp only[List.cons_append,List.nil_append]
  (refine Go.SL.Lv.nil (Hr:=[[(bz,row [pv bw,.int .i64 o.c0,.int .i64 o.c1,.int .i64 o.c2,.int .i64 o.c3,.int .i64 o.c4,.bool once,.slice p1 rs.length cap1,.int .i64 last1.c0,.int .i64 last1.c1,.int .i64 last1.c2,.int .i64 last1.c3,.int .i64 last1.c4,.bool some1] 164)],wrow bw bd ba bs,cd3,ca4,cs1,vc1]) Tryz.results105 (hR:= ?_);exact⟨cd3,ca4,cs1,{W3 with α:=α4},vc1,p1,cap1,last1,some1,rs,q,S,fts.take pos,rfl,⟨hW3.dev,hA4,hW3.sp,hW3.nn,hW3.live⟩,{hE5 with room:=hroom4.trans hE5.room},fun x hx=>by rw[hd3];exact hK x hx,hg4,hV,by rw[hl3];exact hlv,by rw[hd3];exact hR,by omega,hq3.1,hq3.2,by omega,.inr (.inr ⟨rfl,fun e=>e6 (hE.fault e)⟩)⟩)
end Go.Proofs.YtjoicjgfgkpdjaaGreat
namespace Go.Srt
variable {α:Type} {lt:α→α→Bool} [Inhabited α]
def HeapFrom (lt:α→α→Bool) (l:List α) (n a:Nat):Prop:=∀c,0<c→c<n→a≤(c-1)/2→lt (at_ l c) (at_ l ((c-1)/2))=false
def DownH (lt:α→α→Bool) (l:List α) (n a i:Nat):Prop:=
 (∀c,0<c→c<n→a≤(c-1)/2→(c-1)/2≠i→lt (at_ l c) (at_ l ((c-1)/2))=false)∧
 (∀c,0<c→c<n→(c-1)/2=i→0<i→a≤(i-1)/2→lt (at_ l c) (at_ l ((i-1)/2))=false)
theorem downH_start {l:List α} {n a:Nat} (h:HeapFrom lt l n (a+1)):DownH lt l n a a:=
 ⟨fun c h1 h2 h3 h4=>h c h1 h2 (by omega),fun c h1 h2 h3 h4 h5=>by omega⟩
theorem downH_none {l:List α} {n a i:Nat} (h:DownH lt l n a i) (hi:n≤2*i+1):HeapFrom lt l n a:=
 fun c h1 h2 h3=>h.1 c h1 h2 h3 (by omega)
theorem downH_stop (hs:Swo lt) {l:List α} {n a i j:Nat} (h:DownH lt l n a i) (hm:∀c,0<c→c<n→(c-1)/2=i→lt (at_ l c) (at_ l j)=false) (hj:lt (at_ l j) (at_ l i)=false):HeapFrom lt l n a:=by
 intro c h1 h2 h3
 by_cases hp:(c-1)/2=i
 ·rw[hp];exact hs.ntrans _ _ _ (hm c h1 h2 hp) hj
 ·exact h.1 c h1 h2 h3 hp
theorem downH_step (hs:Swo lt) {l:List α} {n a i j:Nat} (h:DownH lt l n a i) (hai:a≤i) (hn:n≤l.length) (hj1:0<j) (hj2:j<n) (hji:(j-1)/2=i) (hm:∀c,0<c→c<n→(c-1)/2=i→lt (at_ l c) (at_ l j)=false)
  (hlt:lt (at_ l j) (at_ l i)=true):DownH lt (sw l i j) n a j:=by
 have hsw:∀q,at_ (sw l i j) q=if q=j then at_ l i else if q=i then at_ l j else at_ l q:=fun q=>sw_at l i j q (by omega) (by omega)
 obtain⟨g1,g2⟩:=h
 refine⟨fun c h1 h2 h3 h4=> ?_,fun c h1 h2 h3 h4 h5=> ?_⟩
 ·rw[hsw c,hsw ((c-1)/2)]
  rw[if_neg h4]
  by_cases hp:(c-1)/2=i
  ·rw[if_pos hp]
   by_cases hcj:c=j
   ·rw[if_pos hcj];exact hs.asym _ _ hlt
   ·rw[if_neg hcj,if_neg (by omega)];exact hm c h1 h2 hp
  ·rw[if_neg hp]
   rw[if_neg (by rintro rfl;exact hp hji)]
   by_cases hci:c=i
   ·rw[if_pos hci]
    subst hci
    exact g2 j hj1 hj2 hji h1 h3
   ·rw[if_neg hci];exact g1 c h1 h2 h3 hp
 ·rw[hsw c,hsw ((j-1)/2),hji]
  rw[if_neg (by omega),if_neg (by omega),if_neg (by omega),if_pos rfl]
  have:=g1 c h1 h2 (by omega) (by omega)
  rw[h3] at this;exact this
theorem heap_top (hs:Swo lt) {l:List α} {n:Nat} (h:HeapFrom lt l n 0):∀c,c<n→lt (at_ l c) (at_ l 0)=false:=by
 intro c
 induction c using Nat.strongRecOn with
 |_ c ih=>
  intro hc
  by_cases h0:c=0
  ·subst h0;exact hs.irr _
  ·exact hs.ntrans _ _ _ (h c (by omega) hc (Nat.zero_le _)) (ih _ (by omega) (by omega))
theorem sw_perm {l:List α} {i j:Nat} (hi:i<l.length) (hj:j<l.length):(sw l i j).Perm l:=by
 unfold sw
 rw[List.getD_eq_getElem?_getD,List.getD_eq_getElem?_getD,List.getElem?_eq_getElem hi,List.getElem?_eq_getElem hj]
 exact List.set_set_perm hi hj
end Go.Srt
namespace Go.Proofs.YtjoicjgfgkpdjaaGreat
open Go.SL Go.Spc Go.Tup Go.Srt
structure Hd where
 t:T5
 run:Nat
 rd:Nat
instance:Inhabited Hd:=⟨⟨default,0,0⟩⟩
def Hd.cells (x:Hd):List Value:=[.int .i64 x.t.c0,.int .i64 x.t.c1,.int .i64 x.t.c2,.int .i64 x.t.c3,.int .i64 x.t.c4,.int .i64 (x.run:Int),pv x.rd]
def hcells (l:List Hd):List Value:=l.flatMap Hd.cells
theorem hcells_app (a b:List Hd):hcells (a++b)=hcells a++hcells b:=by simp[hcells]
theorem hcells_length (l:List Hd):(hcells l).length=l.length*7:=by
 induction l with
 |nil=>rfl
 |cons x l ih=>simp only[hcells,List.flatMap_cons,List.length_append,List.length_cons] at ih⊢;rw[ih];simp[Hd.cells];omega
theorem hcells_drop:∀(l:List Hd) (rest:List Value) (i:Nat),i<l.length→∃more,(hcells l++rest).drop (i*7)=(at_ l i).cells++more
 |[],_,i,h=>by simp at h
 |x::l,rest,0,_=>⟨hcells l++rest,by simp[hcells,at_]⟩
 |x::l,rest,i+1,h=>by
  obtain⟨more,hm⟩:=hcells_drop l rest i (by simpa using h)
  refine⟨more,?_⟩
  have e:(hcells (x::l)++rest)=x.cells++(hcells l++rest):=by simp[hcells]
  rw[e,show(i+1)*7=x.cells.length+i*7 by(have:x.cells.length=7:=rfl);omega,←List.drop_drop,List.drop_left,hm]
  rfl
def HeadsH (bh vb cap:Nat) (o:T5) (l:List Hd) (rest:List Value):Hp:=
 [[(bh,row ([.slice (some ⟨vb,0,none⟩) l.length cap,.int .i64 o.c0,.int .i64 o.c1,.int .i64 o.c2,.int .i64 o.c3,.int .i64 o.c4]) 210)],[(vb,row (hcells l++rest) 212)]]
def ltH (o:T5) (a b:Hd):Bool:=decide (cmpT o a.t b.t<0∨cmpT o a.t b.t=0∧a.run<b.run)
theorem ltH_swo (o:T5):Swo (ltH o) where
 asym:=fun a b h=>by
  simp only[ltH,decide_eq_true_eq,decide_eq_false_iff_not] at*
  have:=cmpT_swap o a.t b.t;omega
 ntrans:=fun a b c h1 h2=>by
  simp only[ltH,decide_eq_false_iff_not] at*
  have e1:=cmpT_swap o a.t b.t
  have e2:=cmpT_swap o b.t c.t
  have e3:=cmpT_swap o a.t c.t
  have f1:=cmpT_trans o c.t b.t a.t (by omega) (by omega)
  have f2:cmpT o a.t c.t=0→cmpT o a.t b.t=0:=fun h=>by
   have:=cmpT_trans o a.t c.t b.t
   omega
  have f3:cmpT o a.t c.t=0→cmpT o b.t c.t=0:=fun h=>by
   have:=cmpT_trans o b.t a.t c.t
   omega
  omega
theorem HLen_ct (bh vb cap:Nat) (o:T5) (l:List Hd) (rest:List Value):CtQ Tryz.prog 146 [pv bh] (HeadsH bh vb cap o l rest) (.int .i64 (l.length:Int)):=by
 unfold HeadsH
 refine Ct.intro Tryz.func146 rfl Tryz.ntmps146 (nle rfl) fun w0=> ?_;dsimp only[argSlots,Nat.reduceAdd]
 repeat(refine st ?_;intros)
 (refine Dn.post (Hr:=[[(bh,row [.slice (some ⟨vb,0,none⟩) l.length cap,.int .i64 o.c0,.int .i64 o.c1,.int .i64 o.c2,.int .i64 o.c3,.int .i64 o.c4] 210)],[(vb,row (hcells l++rest) 212)]]) Tryz.results146 (hR:= ?_);exact⟨rfl,rfl⟩)
theorem hfacts {l:List Hd} {rest:List Value} {i:Nat} (h:i<l.length):
  ((hcells l++rest).drop (i*7)).take 5=[.int .i64 (at_ l i).t.c0,.int .i64 (at_ l i).t.c1,.int .i64 (at_ l i).t.c2,.int .i64 (at_ l i).t.c3,.int .i64 (at_ l i).t.c4]∧
  (hcells l++rest)[i*7+5]? =some (.int .i64 ((at_ l i).run:Int))∧(hcells l++rest)[i*7+6]? =some (pv (at_ l i).rd)∧
  ((hcells l++rest).drop (i*7)).take 7=(at_ l i).cells:=by
 obtain⟨more,hm⟩:=hcells_drop l rest i h
 refine⟨by rw[hm];rfl,?_,?_,by rw[hm];rfl⟩
 ·rw[←List.getElem?_drop,hm];rfl
 ·rw[←List.getElem?_drop,hm];rfl
theorem HLess_ct (bh vb cap:Nat) (o:T5) (l:List Hd) (rest:List Value) (i j:Nat) (hi:i<l.length) (hj:j<l.length) (hl:l.length≤1000000):
  CtQ Tryz.prog 184 [pv bh,.int .i64 (i:Int),.int .i64 (j:Int)] (HeadsH bh vb cap o l rest) (.bool (ltH o (at_ l i) (at_ l j))):=by
 obtain⟨a1,a2,a3,a4⟩:=hfacts (rest:=rest) hi
 obtain⟨b1,b2,b3,b4⟩:=hfacts (rest:=rest) hj
 have hC:=Compare_ct (at_ l i).t.c0 (at_ l i).t.c1 (at_ l i).t.c2 (at_ l i).t.c3 (at_ l i).t.c4 (at_ l j).t.c0 (at_ l j).t.c1 (at_ l j).t.c2 (at_ l j).t.c3 (at_ l j).t.c4 o.c0 o.c1 o.c2 o.c3 o.c4
 have hCc:cmpT ⟨o.c0,o.c1,o.c2,o.c3,o.c4⟩ ⟨(at_ l i).t.c0,(at_ l i).t.c1,(at_ l i).t.c2,(at_ l i).t.c3,(at_ l i).t.c4⟩ ⟨(at_ l j).t.c0,(at_ l j).t.c1,(at_ l j).t.c2,(at_ l j).t.c3,(at_ l j).t.c4⟩=cmpT o (at_ l i).t (at_ l j).t:=rfl
 rw[hCc] at hC
 unfold ltH HeadsH
 generalize hcm:cmpT o (at_ l i).t (at_ l j).t=cm at*
 generalize hcl:hcells l++rest=cells at*
 generalize at_ l i=x at*
 generalize at_ l j=y at*
 by_cases h1:cm<0
 ·rw[show decide (cm<0∨cm=0∧x.run<y.run)=true from decide_eq_true (.inl h1)]
  refine Ct.intro Tryz.func184 rfl Tryz.ntmps184 (nle rfl) fun w0=> ?_;dsimp only[argSlots,Nat.reduceAdd]
  repeat(first|(refine st ?_;intros)|refine G.draw (id:=1) [(20,.quiet)] (h:= ?_)|refine G.draw [] (h:= ?_)|(refine cq hC ?_))
  (refine Dn.post (Hr:=[[(bh,row [.slice (some ⟨vb,0,none⟩) l.length cap,.int .i64 o.c0,.int .i64 o.c1,.int .i64 o.c2,.int .i64 o.c3,.int .i64 o.c4] 210)],[(vb,row cells 212)]]) Tryz.results184 (hR:= ?_);exact⟨rfl,rfl⟩)
 ·by_cases h2:cm=0
  ·have h3:decide (cm<0∨cm=0∧x.run<y.run)=dec ((x.run:Int)<(y.run:Int)):=by
    by_cases h4:x.run<y.run
    ·rw[decide_eq_true (.inr ⟨h2,h4⟩),dec_true (by omega)]
    ·rw[decide_eq_false (by omega),dec_false (by omega)]
   rw[h3]
   refine Ct.intro Tryz.func184 rfl Tryz.ntmps184 (nle rfl) fun w0=> ?_;dsimp only[argSlots,Nat.reduceAdd]
   repeat(first|(refine st ?_;intros)|refine G.draw (id:=1) [(20,.quiet)] (h:= ?_)|refine G.draw [] (h:= ?_)|(refine cq hC ?_))
   (refine Dn.post (Hr:=[[(bh,row [.slice (some ⟨vb,0,none⟩) l.length cap,.int .i64 o.c0,.int .i64 o.c1,.int .i64 o.c2,.int .i64 o.c3,.int .i64 o.c4] 210)],[(vb,row cells 212)]]) Tryz.results184 (hR:= ?_);exact⟨rfl,rfl⟩)
  ·rw[show decide (cm<0∨cm=0∧x.run<y.run)=false from decide_eq_false (by omega)]
   refine Ct.intro Tryz.func184 rfl Tryz.ntmps184 (nle rfl) fun w0=> ?_;dsimp only[argSlots,Nat.reduceAdd]
   repeat(first|(refine st ?_;intros)|refine G.draw (id:=1) [(20,.quiet)] (h:= ?_)|refine G.draw [] (h:= ?_)|(refine cq hC ?_))
   (refine Dn.post (Hr:=[[(bh,row [.slice (some ⟨vb,0,none⟩) l.length cap,.int .i64 o.c0,.int .i64 o.c1,.int .i64 o.c2,.int .i64 o.c3,.int .i64 o.c4] 210)],[(vb,row cells 212)]]) Tryz.results184 (hR:= ?_);exact⟨rfl,rfl⟩)
theorem setL_skip:∀(a:List Value) (vs cs:List Value) (off:Nat),setL (a++cs) (a.length+off) vs=a++setL cs off vs:=by
 intro a vs
 induction vs with
 |nil=>intro cs off;rfl
 |cons v vs ih=>
  intro cs off
  simp only[setL]
  rw[List.set_append_right _ _ (by omega),show a.length+off-a.length=off by omega,show a.length+off+1=a.length+(off+1) by omega,ih]
theorem setL_h:∀(l:List Hd) (i:Nat) (x:Hd) (rest:List Value),i<l.length→setL (hcells l++rest) (i*7) x.cells=hcells (l.set i x)++rest
 |[],_,_,_,h=>by simp at h
 |u::l,0,x,rest,_=>by simp[hcells,setL,Hd.cells]
 |u::l,i+1,x,rest,h=>by
  have ih:=setL_h l i x rest (by simpa using h)
  have e:(hcells (u::l)++rest)=u.cells++(hcells l++rest):=by simp[hcells]
  rw[e,show(i+1)*7=u.cells.length+i*7 by(have:u.cells.length=7:=rfl);omega,setL_skip,ih]
  simp[hcells]
theorem HSwap_ct (bh vb cap:Nat) (o:T5) (l:List Hd) (rest:List Value) (i j:Nat) (hi:i<l.length) (hj:j<l.length) (hl:l.length≤1000000):
  Ct Tryz.prog 186 [pv bh,.int .i64 (i:Int),.int .i64 (j:Int)] (HeadsH bh vb cap o l rest) fun v H'=>v= .tuple #[]∧H'=HeadsH bh vb cap o (sw l i j) rest:=by
 obtain⟨a1,a2,a3,a4⟩:=hfacts (rest:=rest) hi
 obtain⟨b1,b2,b3,b4⟩:=hfacts (rest:=rest) hj
 have hs1:=setL_h l i (at_ l j) rest hi
 have hs2:=setL_h (l.set i (at_ l j)) j (at_ l i) rest (by simpa using hj)
 have hsw:(l.set i (at_ l j)).set j (at_ l i)=sw l i j:=rfl
 rw[hsw] at hs2
 have hlen:(hcells l++rest).length=l.length*7+rest.length:=by rw[List.length_append,hcells_length]
 have hlen2:(hcells (l.set i (at_ l j))++rest).length=l.length*7+rest.length:=by rw[List.length_append,hcells_length,List.length_set]
 unfold HeadsH
 rw[sw_length]
 generalize hcells (sw l i j)++rest=cells3 at*
 generalize hcells (l.set i (at_ l j))++rest=cells2 at*
 generalize hcells l++rest=cells at*
 generalize at_ l i=x at*
 generalize at_ l j=y at*
 unfold Hd.cells at*
 refine Ct.intro Tryz.func186 rfl Tryz.ntmps186 (nle rfl) fun w0=> ?_;dsimp only[argSlots,Nat.reduceAdd]
 repeat(first|(refine st ?_;intros)|refine G.draw [] (h:= ?_))
 (refine Dn.postEnd (Hr:=[[(bh,row [.slice (some ⟨vb,0,none⟩) l.length cap,.int .i64 o.c0,.int .i64 o.c1,.int .i64 o.c2,.int .i64 o.c3,.int .i64 o.c4] 210)],[(vb,row cells3 212)]]) Tryz.results186 (hR:= ?_);exact⟨rfl,rfl⟩)
instance:Meth Tryz.prog 207 "Less" 184:=Meth.of (by kernel_rfl)
instance:Meth Tryz.prog 207 "Swap" 186:=Meth.of (by kernel_rfl)
instance:Meth Tryz.prog 207 "Len" 146:=Meth.of (by kernel_rfl)
instance:Meth Tryz.prog 207 "Pop" 185:=Meth.of (by kernel_rfl)
abbrev headV (bh:Nat):Value:= .iface 207 (pv bh)
structure DownX where
 i:Nat
 l:List Hd
theorem down_ct (bh vb cap:Nat) (o:T5) (l:List Hd) (rest:List Value) (a n:Nat) (hn:n≤l.length) (hl:l.length≤1000000) (hh:HeapFrom (ltH o) l n (a+1)) (ha:a≤1000000):
  Ct Tryz.prog 155 [headV bh,.int .i64 (a:Int),.int .i64 (n:Int)] (HeadsH bh vb cap o l rest) fun v H'=>
   ∃b l',v= .bool b∧H'=HeadsH bh vb cap o l' rest∧l'.Perm l∧HeapFrom (ltH o) l' n a∧∀q,n≤q→at_ l' q=at_ l q:=by
 have hsw:=ltH_swo o
 refine Ct.intro Tryz.func155 rfl Tryz.ntmps155 (nle rfl) fun w0=> ?_;dsimp only[argSlots,Nat.reduceAdd]
 repeat(first|(refine st ?_;intros)|(refine cq hL ?_)|(refine cq hL2 ?_))
 refine G.loop (X:=DownX) (fun x=>a≤x.i∧x.l.Perm l∧DownH (ltH o) x.l n a x.i∧(x.i<n∨x.i=a)∧∀q,n≤q→at_ x.l q=at_ l q)
  (fun x=>[(7,.int .i64 (x.i:Int)),(0,headV bh),(1,.int .i64 (a:Int)),(2,.int .i64 (n:Int))])
  (fun x=>HeadsH bh vb cap o x.l rest) (fun x=>n-x.i) ⟨a,l⟩ ⟨Nat.le_refl _,List.Perm.refl _,downH_start hh,.inr rfl,fun _ _=>rfl⟩ (body:= ?_)
 rintro⟨i,us⟩ ⟨hai,hp,hd,hin,hout⟩
 dsimp only at hai hp hd hin hout⊢
 have hul:=hp.length_eq
 have hi6:i≤1000000:=by omega
 have e1:IntKind.wrap .i64 (2*(i:Int))=((2*i:Nat):Int):=by rw[wrap_i64 (by omega)];omega
 have e2:IntKind.wrap .i64 (((2*i:Nat):Int)+1)=((2*i+1:Nat):Int):=by rw[wrap_i64 (by omega)];omega
 have e3:IntKind.wrap .i64 (((2*i+1:Nat):Int)+1)=((2*i+2:Nat):Int):=by rw[wrap_i64 (by omega)];omega
 by_cases hc:n≤2*i+1
 ·repeat(first|(refine st ?_;intros)|(refine cq hL ?_)|(refine cq hL2 ?_))
  (refine Dn.post (Hr:=HeadsH bh vb cap o us rest) Tryz.results155 (hR:= ?_);exact⟨_,us,rfl,rfl,hp,downH_none hd hc,hout⟩)
 ·by_cases hc2:2*i+2<n
  ·have hL:=HLess_ct bh vb cap o us rest (2*i+2) (2*i+1) (by omega) (by omega) (by omega)
   cases h1:ltH o (at_ us (2*i+2)) (at_ us (2*i+1)) with
   |true=>
    rw[h1] at hL
    have hm:∀c,0<c→c<n→(c-1)/2=i→ltH o (at_ us c) (at_ us (2*i+2))=false:=by
     intro c k1 k2 k3
     rcases(show c=2*i+1∨c=2*i+2 by omega) with rfl|rfl
     ·exact hsw.asym _ _ h1
     ·exact hsw.irr _
    have hL2:=HLess_ct bh vb cap o us rest (2*i+2) i (by omega) (by omega) (by omega)
    cases h2:ltH o (at_ us (2*i+2)) (at_ us i) with
    |true=>
     rw[h2] at hL2
     have hS:=HSwap_ct bh vb cap o us rest i (2*i+2) (by omega) (by omega) (by omega)
     repeat(first|(refine st ?_;intros)|(refine cq hL ?_)|(refine cq hL2 ?_))
     refine R.invoke (hct:=hS) (h:= ?_)
     rintro _ _ ⟨rfl,rfl⟩
     try dsimp only[List.cons_append,List.nil_append]
     repeat(first|(refine st ?_;intros)|(refine cq hL ?_)|(refine cq hL2 ?_))
     exact Dn.round ⟨2*i+2,sw us i (2*i+2)⟩ ⟨by dsimp only;omega,(sw_perm (by omega) (by omega)).trans hp,downH_step hsw hd hai (by omega) (by omega) (by omega) (by omega) hm h2,.inl (by dsimp only;omega),fun q hq=>by
      dsimp only
      rw[sw_at _ _ _ _ (by omega) (by omega),if_neg (by omega),if_neg (by omega)];exact hout q hq⟩ (by dsimp only;omega)
    |false=>
     rw[h2] at hL2
     repeat(first|(refine st ?_;intros)|(refine cq hL ?_)|(refine cq hL2 ?_))
     (refine Dn.post (Hr:=HeadsH bh vb cap o us rest) Tryz.results155 (hR:= ?_);exact⟨_,us,rfl,rfl,hp,downH_stop hsw hd hm h2,hout⟩)
   |false=>
    rw[h1] at hL
    have hm:∀c,0<c→c<n→(c-1)/2=i→ltH o (at_ us c) (at_ us (2*i+1))=false:=by
     intro c k1 k2 k3
     rcases(show c=2*i+1∨c=2*i+2 by omega) with rfl|rfl
     ·exact hsw.irr _
     ·exact h1
    have hL2:=HLess_ct bh vb cap o us rest (2*i+1) i (by omega) (by omega) (by omega)
    cases h2:ltH o (at_ us (2*i+1)) (at_ us i) with
    |true=>
     rw[h2] at hL2
     have hS:=HSwap_ct bh vb cap o us rest i (2*i+1) (by omega) (by omega) (by omega)
     repeat(first|(refine st ?_;intros)|(refine cq hL ?_)|(refine cq hL2 ?_))
     refine R.invoke (hct:=hS) (h:= ?_)
     rintro _ _ ⟨rfl,rfl⟩
     try dsimp only[List.cons_append,List.nil_append]
     repeat(first|(refine st ?_;intros)|(refine cq hL ?_)|(refine cq hL2 ?_))
     exact Dn.round ⟨2*i+1,sw us i (2*i+1)⟩ ⟨by dsimp only;omega,(sw_perm (by omega) (by omega)).trans hp,downH_step hsw hd hai (by omega) (by omega) (by omega) (by omega) hm h2,.inl (by dsimp only;omega),fun q hq=>by
      dsimp only
      rw[sw_at _ _ _ _ (by omega) (by omega),if_neg (by omega),if_neg (by omega)];exact hout q hq⟩ (by dsimp only;omega)
    |false=>
     rw[h2] at hL2
     repeat(first|(refine st ?_;intros)|(refine cq hL ?_)|(refine cq hL2 ?_))
     (refine Dn.post (Hr:=HeadsH bh vb cap o us rest) Tryz.results155 (hR:= ?_);exact⟨_,us,rfl,rfl,hp,downH_stop hsw hd hm h2,hout⟩)
  ·have hm:∀c,0<c→c<n→(c-1)/2=i→ltH o (at_ us c) (at_ us (2*i+1))=false:=by
    intro c k1 k2 k3
    rcases(show c=2*i+1 by omega) with rfl
    exact hsw.irr _
   have hL2:=HLess_ct bh vb cap o us rest (2*i+1) i (by omega) (by omega) (by omega)
   cases h2:ltH o (at_ us (2*i+1)) (at_ us i) with
   |true=>
    rw[h2] at hL2
    have hS:=HSwap_ct bh vb cap o us rest i (2*i+1) (by omega) (by omega) (by omega)
    repeat(first|(refine st ?_;intros)|(refine cq hL ?_)|(refine cq hL2 ?_))
    refine R.invoke (hct:=hS) (h:= ?_)
    rintro _ _ ⟨rfl,rfl⟩
    try dsimp only[List.cons_append,List.nil_append]
    repeat(first|(refine st ?_;intros)|(refine cq hL ?_)|(refine cq hL2 ?_))
    exact Dn.round ⟨2*i+1,sw us i (2*i+1)⟩ ⟨by dsimp only;omega,(sw_perm (by omega) (by omega)).trans hp,downH_step hsw hd hai (by omega) (by omega) (by omega) (by omega) hm h2,.inl (by dsimp only;omega),fun q hq=>by
     dsimp only
     rw[sw_at _ _ _ _ (by omega) (by omega),if_neg (by omega),if_neg (by omega)];exact hout q hq⟩ (by dsimp only;omega)
   |false=>
    rw[h2] at hL2
    repeat(first|(refine st ?_;intros)|(refine cq hL ?_)|(refine cq hL2 ?_))
    (refine Dn.post (Hr:=HeadsH bh vb cap o us rest) Tryz.results155 (hR:= ?_);exact⟨_,us,rfl,rfl,hp,downH_stop hsw hd hm h2,hout⟩)
structure InitX where
 z:Int
 l:List Hd
theorem Init_ct (bh vb cap:Nat) (o:T5) (l:List Hd) (rest:List Value) (hl:l.length≤1000000):
  Ct Tryz.prog 145 [headV bh] (HeadsH bh vb cap o l rest) fun v H'=>∃l',v= .tuple #[]∧H'=HeadsH bh vb cap o l' rest∧l'.Perm l∧HeapFrom (ltH o) l' l'.length 0:=by
 have hN:=HLen_ct bh vb cap o l rest
 have e1:IntKind.wrap .i64 ((l.length:Int).tdiv 2)=((l.length/2:Nat):Int):=by
  rw[Int.tdiv_eq_ediv_of_nonneg (by omega),wrap_i64 (by omega)];omega
 have e2:IntKind.wrap .i64 (((l.length/2:Nat):Int)-1)=((l.length/2:Nat):Int)-1:=wrap_i64 (by omega)
 generalize hn:l.length=n at*
 refine Ct.intro Tryz.func145 rfl Tryz.ntmps145 (nle rfl) fun w0=> ?_;dsimp only[argSlots,Nat.reduceAdd]
 repeat(first|(refine st ?_;intros)|(refine cq hN ?_))
 refine G.loop (X:=InitX) (fun x=> -1≤x.z∧x.z<1000001∧x.l.Perm l∧HeapFrom (ltH o) x.l n (x.z+1).toNat)
  (fun x=>[(3,.int .i64 x.z),(0,headV bh),(2,.int .i64 (n:Int))])
  (fun x=>HeadsH bh vb cap o x.l rest) (fun x=>(x.z+1).toNat) ⟨((n/2:Nat):Int)-1,l⟩ ⟨by dsimp only;omega,by dsimp only;omega,List.Perm.refl _,fun c h1 h2 h3=>by dsimp only at h3;omega⟩ (body:= ?_)
 rintro⟨z,us⟩ ⟨hz1,hz2,hp,hh⟩
 dsimp only at hz1 hz2 hp hh⊢
 have hul:=hp.length_eq
 by_cases hz:0≤z
 ·obtain⟨i,rfl⟩:=Int.eq_ofNat_of_zero_le hz
  have hD:=down_ct bh vb cap o us rest i n (by omega) (by omega) (by rw[show i+1=((i:Int)+1).toNat by omega];exact hh) (by omega)
  have e3:IntKind.wrap .i64 ((i:Int)-1)=(i:Int)-1:=wrap_i64 (by omega)
  repeat(first|(refine st ?_;intros)|(refine cq hN ?_))
  refine R.call (hct:=hD) (h:= ?_)
  rintro _ _ ⟨b,us',rfl,rfl,hp2,hh2,hout⟩
  try dsimp only[List.cons_append,List.nil_append]
  repeat(first|(refine st ?_;intros)|(refine cq hN ?_))
  exact Dn.round ⟨(i:Int)-1,us'⟩ ⟨by dsimp only;omega,by dsimp only;omega,hp2.trans hp,by dsimp only;rw[show((i:Int)-1+1).toNat=i by omega];exact hh2⟩ (by dsimp only;omega)
 ·repeat(first|(refine st ?_;intros)|(refine cq hN ?_))
  (refine Dn.postEnd (Hr:=HeadsH bh vb cap o us rest) Tryz.results145 (hR:= ?_);exact⟨us,rfl,rfl,hp,by rw[hul,hn];rw[show(z+1).toNat=0 by omega] at hh;exact hh⟩)
theorem up_ct (bh vb cap:Nat) (o:T5) (l:List Hd) (rest:List Value):
  Ct Tryz.prog 156 [headV bh,.int .i64 0] (HeadsH bh vb cap o l rest) fun v H'=>v= .tuple #[]∧H'=HeadsH bh vb cap o l rest:=by
 have e1:IntKind.wrap .i64 ((0:Int)-1)= -1:=by decide
 have e2:IntKind.wrap .i64 ((-1:Int).tdiv 2)=0:=by decide
 refine Ct.intro Tryz.func156 rfl Tryz.ntmps156 (nle rfl) fun w0=> ?_;dsimp only[argSlots,Nat.reduceAdd]
 repeat(refine st ?_;intros)
 refine G.loop (X:=Unit) (fun _=>True) (fun _=>[(0,headV bh),(1,.int .i64 0)]) (fun _=>HeadsH bh vb cap o l rest) (fun _=>0) () trivial (body:= ?_)
 rintro⟨⟩-
 repeat(refine st ?_;intros)
 (refine Dn.postEnd (Hr:=HeadsH bh vb cap o l rest) Tryz.results156 (hR:= ?_);exact⟨rfl,rfl⟩)
theorem Fix_ct (bh vb cap:Nat) (o:T5) (l:List Hd) (rest:List Value) (hl:l.length≤1000000) (hh:HeapFrom (ltH o) l l.length 1):
  Ct Tryz.prog 147 [headV bh,.int .i64 0] (HeadsH bh vb cap o l rest) fun v H'=>∃l',v= .tuple #[]∧H'=HeadsH bh vb cap o l' rest∧l'.Perm l∧HeapFrom (ltH o) l' l'.length 0:=by
 have hN:=HLen_ct bh vb cap o l rest
 have hD:=down_ct bh vb cap o l rest 0 l.length (Nat.le_refl _) hl hh (by omega)
 refine Ct.intro Tryz.func147 rfl Tryz.ntmps147 (nle rfl) fun w0=> ?_;dsimp only[argSlots,Nat.reduceAdd]
 repeat(first|(refine st ?_;intros)|(refine cq hN ?_))
 refine R.call (hct:=hD) (h:= ?_)
 rintro _ _ ⟨b,us,rfl,rfl,hp,hh2,hout⟩
 try dsimp only[List.cons_append,List.nil_append]
 have hul:=hp.length_eq
 have hU:=up_ct bh vb cap o us rest
 cases b with
 |true=>
  repeat(first|(refine st ?_;intros)|(refine cq hN ?_))
  (refine Dn.postEnd (Hr:=HeadsH bh vb cap o us rest) Tryz.results147 (hR:= ?_);exact⟨us,rfl,rfl,hp,by rw[hul];exact hh2⟩)
 |false=>
  repeat(first|(refine st ?_;intros)|(refine cq hN ?_))
  refine R.call (hct:=hU) (h:= ?_)
  rintro _ _ ⟨rfl,rfl⟩
  try dsimp only[List.cons_append,List.nil_append]
  repeat(first|(refine st ?_;intros)|(refine cq hN ?_))
  (refine Dn.postEnd (Hr:=HeadsH bh vb cap o us rest) Tryz.results147 (hR:= ?_);exact⟨us,rfl,rfl,hp,by rw[hul];exact hh2⟩)
end Go.Proofs.YtjoicjgfgkpdjaaGreat
