/-
  Parts of the proof, put together: Level, Answer, Answer2. No condition.
-/
import Derived.Test.YtjoicjgfgkpdjaaGreatF22
set_option linter.unusedVariables false
set_option linter.unusedSimpArgs false
set_option linter.unnecessarySimpa false
set_option maxHeartbeats 4000000
namespace Go.Proofs.YtjoicjgfgkpdjaaGreat
open Go.SL Go.Spc Go.Tup Go.Srt
structure LevX where
 i:Nat
 cd:Chunk
 ca:Chunk
 cs:Chunk
 xa:Chunk
 ba':Chunk
 xb:Chunk
 bb':Chunk
 cy:Chunk
 cc:Chunk
 W:Wk
def levO (on:Nat) (ts:List T5) (i:Nat):T5:=⟨min (at0 ts i) (at0 ts (i+on)),0,0,0,0⟩
theorem at0in {ts:List T5} (h:∀t∈ts,okT 1 t) (i:Nat):inI64 (at0 ts i):=inI64rmin (fun t ht=>(okT_cols (h t ht)).1) i 0
theorem levO_ok {ts:List T5} (h:∀t∈ts,okT 1 t) (on i:Nat):okT 1 (levO on ts i):=by
 have h1:=at0in h i
 have h2:=at0in h (i+on)
 refine okT1 ?_
 unfold inI64 at*
 omega
theorem level_ct (bw bd ba bs:Nat) (W:Wk) (cd ca cs:Chunk) (h:Wc bd ba bs W cd ca cs) (f:Fl) (ts:List T5) (LvF:List Ext) (hfo:FileOk W.δ.disk W.δ.size LvF f ts) (hsub:∀e∈LvF,e∈W.live) (hw:f.width=1) (on:Nat) (hon:on≤1000000) (hcn:f.count≤1000000)
  (hr:3*W.δ.size≤W.α.room-W.α.used) (hfit:nblocks W.δ.size 1 (f.count-on)≤big W.σ.free) (hac:W.δ.acts≤1000000000):
  Ct Tryz.prog 74 [pv bw,flv f,.int .i64 (on:Int)] [wrow bw bd ba bs,cd,ca,cs] fun v H'=>
   ∃cd' ca' cs' W' f' e,v= .tuple #[flv f',.int .i64 e]∧H'=[wrow bw bd ba bs,cd',ca',cs']∧Wc bd ba bs W' cd' ca' cs'∧Ev W W' (3*f.count+1) (nblocks W.δ.size 1 (f.count-on))∧Keep W.live W W'∧W'.α.gs.Perm W.α.gs∧
    ((e=0∧W'.live.Perm (addF f' W.live)∧f'.width=1∧f'.count=f.count-on∧FileOk W'.δ.disk W.δ.size [f'.ext] f' (stepL on ts))∨(e=6∧f'=⟨0,0,0,0⟩∧W.δ.fault≠-1∧W'.live.Perm W.live)):=by
 obtain⟨⟨hs1,hs2⟩,_⟩:=h.dev.num
 have htl:=hfo.len
 have hfit1:=hfo.fit
 rw[hw] at hfit1
 have hp1:=holds_pos (s:=W.δ.size) (k:=1) hs1 (by omega) (by omega)
 have hRd:=Read_u bw bd ba bs W cd ca cs h f ts LvF hfo (by omega)
 have hflv:flv f= .agg #[.int .i64 (f.first:Int),.int .i64 (f.blocks:Int),.int .i64 (f.width:Int),.int .i64 (f.count:Int)]:=rfl
 have hz:tv T5.zero= .agg #[.int .i64 T5.zero.c0,.int .i64 T5.zero.c1,.int .i64 T5.zero.c2,.int .i64 T5.zero.c3,.int .i64 T5.zero.c4]:=rfl
 obtain⟨nb,hnb⟩:∃nb,nb=nblocks W.δ.size 1 (f.count-on):=⟨_,rfl⟩
 rw[←hnb] at hfit⊢
 have hmx:max ((f.count:Int)-(on:Int)) 0=((f.count-on:Nat):Int):=by omega
 have hbad:∀(W':Wk) (cd' ca' cs':Chunk) (kk:Nat),Wc bd ba bs W' cd' ca' cs'→Ev W W' kk nb→kk≤3*f.count+1→Keep W.live W W'→W'.α.gs.Perm W.α.gs→W.δ.fault≠-1→W'.live.Perm W.live→
   ∃cd'' ca'' cs'' W'' f' e,Value.tuple #[.agg #[.int .i64 0,.int .i64 0,.int .i64 0,.int .i64 0],.int .i64 6]= .tuple #[flv f',.int .i64 e]∧[wrow bw bd ba bs,cd',ca',cs']=[wrow bw bd ba bs,cd'',ca'',cs'']∧Wc bd ba bs W'' cd'' ca'' cs''∧Ev W W'' (3*f.count+1) nb∧Keep W.live W W''∧W''.α.gs.Perm W.α.gs∧
    ((e=0∧W''.live.Perm (addF f' W.live)∧f'.width=1∧f'.count=f.count-on∧FileOk W''.δ.disk W.δ.size [f'.ext] f' (stepL on ts))∨(e=6∧f'=⟨0,0,0,0⟩∧W.δ.fault≠-1∧W''.live.Perm W.live)):=
  fun W' cd' ca' cs' kk a1 a2 a3 a4 a5 a7 a8=>⟨cd',ca',cs',W',⟨0,0,0,0⟩,6,rfl,rfl,a1,a2.weak a3 (Nat.le_refl _),a4,a5,.inr ⟨rfl,rfl,a7,a8⟩⟩
 rw[hflv] at hRd⊢
 refine Ct.introD Tryz.func74 rfl Tryz.ntmps74 (nle rfl) fun w0=> ?_;dsimp only[argSlots,Nat.reduceAdd]
 repeat(refine st ?_;intros)
 rename_i b4 b6
 refine R.call (hct:=hRd) (h:= ?_)
 rintro _ _ ⟨bxa,ga,ca1,α1,cxa,cba,rfl,rfl,hW1,hE1,hg1,hgn1,hr1⟩
 dsimp only[List.cons_append,List.nil_append]
 have hu1:α1.used=W.α.used+W.δ.size:=by
  have:=hW1.ar.num.2.2.2
  dsimp only at this
  rw[this,(hg1.map (·.n)).sum_nat,h.ar.num.2.2.2];simp[hgn1];omega
 have hrm1:α1.room=W.α.room:=hE1.room
 have hRd2:=Read_u bw bd ba bs {W with α:=α1} cd ca1 cs hW1 f ts LvF hfo (by dsimp only;omega)
 rw[hflv] at hRd2
 repeat(refine st ?_;intros)
 refine R.call (hct:=hRd2) (h:= ?_)
 rintro _ _ ⟨bxb,gb,ca2,α2,cxb,cbb,rfl,rfl,hW2,hE2,hg2,hgn2,hr2⟩
 dsimp only[List.cons_append,List.nil_append]
 have hu2:α2.used=α1.used+W.δ.size:=by
  have h1:=hW2.ar.num.2.2.2
  have h3:=hW1.ar.num.2.2.2
  dsimp only at h1 h3 hgn2
  rw[h1,(hg2.map (·.n)).sum_nat,h3];simp[hgn2];omega
 have hrm2:α2.room=α1.room:=hE2.room
 have hWr:=Write_u bw bd ba bs {W with α:=α2} cd ca2 cs hW2 1 (f.count-on) (by omega) (by omega) (by omega) (by dsimp only;omega)
 dsimp only at hWr
 repeat(refine st ?_;intros)
 rw[hmx]
 refine R.call (hct:=hWr) (h:= ?_)
 rintro _ _ (⟨_,bx2,first,g2,cd3,ca3,cs3,W3,cy,cc,rfl,rfl,hW3,hE3,e1,e2,e3,e4,e5⟩|⟨hfull,_⟩)
 rotate_left
 ·exact absurd hfit (by omega)
 dsimp only[List.cons_append,List.nil_append]
 rw[←hnb] at e4 e5 hE3
 have hE13:=(hE1.trans hE2).trans hE3
 have hK3:Keep W.live W W3:=fun x _=>by rw[e1]
 have hs3z:W3.δ.size=W.δ.size:=hE13.size
 have hg3':W3.α.gs.Perm (g2::gb::ga::W.α.gs):=e2.trans ((hg2.trans (hg1.cons _)).cons _)
 repeat(refine st ?_;intros)
 refine G.loop (X:=LevX) (fun x=>x.i≤f.count∧Wc bd ba bs x.W x.cd x.ca x.cs∧Ev W x.W (3*x.i) nb∧x.W.α.gs.Perm (g2::gb::ga::W.α.gs)∧
   IsRd bw bxa x.W f ts ga (x.i-on) x.xa x.ba'∧IsRd bw bxb x.W f ts gb x.i x.xb x.bb'∧IsWr bw bx2 x.W first nb 1 (f.count-on) g2 (rangeT (levO on ts) (x.i-on)) x.cy x.cc∧LvOf first nb W.live x.W.live∧Keep W.live W x.W)
  (fun x=>[(14,.int .i64 (x.i:Int)),(12,.func (.func 51) #[pv bxa] #[]),(13,.func (.func 51) #[pv bxb] #[]),(11,pv bx2),(4,pv b4),(2,.int .i64 (on:Int)),(6,pv b6)])
  (fun x=>[[(b6,row [.int .i64 0,.int .i64 0,.int .i64 0,.int .i64 0] 27)],[(b4,row [.int .i64 (f.first:Int),.int .i64 (f.blocks:Int),.int .i64 (f.width:Int),.int .i64 (f.count:Int)] 27)],wrow bw bd ba bs,x.cd,x.ca,x.cs,x.xa,x.ba',x.xb,x.bb',x.cy,x.cc]) (fun x=>f.count-x.i) ⟨0,cd3,ca3,cs3,cxa,cba,cxb,cbb,cy,cc,W3⟩
  ⟨Nat.zero_le _,hW3,hE13.weak (Nat.zero_le _) (by omega),hg3',by dsimp only;rw[Nat.zero_sub];exact hr1.move hE13.size,hr2.move hE13.size,by dsimp only;rw[Nat.zero_sub];exact e5,e4,hK3⟩ (body:= ?_)
 rintro⟨i,cd4,ca4,cs4,cxa4,cba4,cxb4,cbb4,cy4,cc4,W4⟩ ⟨hi,hW4,hE4,hg4,hra4,hrb4,hwr4,hl4,hK4⟩
 dsimp only at hi hW4 hE4 hg4 hra4 hrb4 hwr4 hl4 hK4⊢
 have hsz4:W4.δ.size=W.δ.size:=hE4.size
 have hac4:=hE4.acts.2
 have hfo4:FileOk W4.δ.disk W4.δ.size LvF f ts:=by rw[hsz4];exact hfo.keep fun x ⟨e,he,h2⟩=>hK4 x ⟨e,hsub e he,h2⟩
 have hsub4:∀e∈LvF,e∈W4.live:=fun e he=>hl4.mem (hsub e he)
 have hact1:∀i:Nat,nblocks W.δ.size 1 (i+1)-nblocks W.δ.size 1 i≤1:=fun i=>by
  unfold nblocks
  have h1:(i+1+holds W.δ.size 1-1)/holds W.δ.size 1≤(i+holds W.δ.size 1-1+holds W.δ.size 1)/holds W.δ.size 1:=Nat.div_le_div_right (by omega)
  rw[Nat.add_div_right _ (by omega)] at h1
  omega
 by_cases hlt:i<f.count
 ·have htg:ts[i]? =some ts[i]:=List.getElem?_eq_getElem (by omega)
  have hgb4:W4.α.gs.Perm (gb::(g2::ga::W.α.gs)):=hg4.trans (.swap _ _ _)
  have hNx:=Next_u bw bd ba bs W4 cd4 ca4 cs4 hW4 bxb f ts LvF hfo4 hsub4 gb _ hgb4 i cxb4 cbb4 hrb4 _ htg (by omega)
  have htv:tv ts[i]= .agg #[.int .i64 (ts[i]).c0,.int .i64 (ts[i]).c1,.int .i64 (ts[i]).c2,.int .i64 (ts[i]).c3,.int .i64 (ts[i]).c4]:=rfl
  have hat:=at0get htg
  rw[htv,hz,hsz4,hw] at hNx
  have hac1:=hact1 i
  generalize ht:ts[i]=u at*
  repeat(refine st ?_;intros)
  refine R.callV (fs:=[pv bxb]) (vs:=[]) (hf:=inferInstance) (hct:=hNx) (h:= ?_)
  rintro _ _ ⟨cd5,ca5,W5,cxb5,cbb5,rfl,hW5,hE5,hd5,hσ5,hl5,⟨rfl,hα5,hrb5⟩|⟨rfl,hf5,hδ5,hg5,hx5⟩⟩<;>dsimp only[List.cons_append,List.nil_append]
  ·have hE45:=hE4.trans hE5
   have hac5:=hE45.acts.2
   have hsz5:W5.δ.size=W.δ.size:=hE45.size
   have hK5:Keep W.live W W5:=fun x hx=>by rw[hd5];exact hK4 x hx
   have hl5':LvOf first nb W.live W5.live:=by rw[hl5];exact hl4
   have hra5:IsRd bw bxa W5 f ts ga (i-on) cxa4 cba4:=hra4.move hE5.size
   have hwr5:IsWr bw bx2 W5 first nb 1 (f.count-on) g2 (rangeT (levO on ts) (i-on)) cy4 cc4:=hwr4.move hE5.size (fun x _ _=>by rw[hd5])
   have hg5:W5.α.gs.Perm (g2::gb::ga::W.α.gs):=by rw[hα5];exact hg4
   by_cases hion:i<on
   ·repeat(refine st ?_;intros)
    refine Dn.round ⟨i+1,cd5,ca5,cs4,cxa4,cba4,cxb5,cbb5,cy4,cc4,W5⟩ ⟨hlt,hW5,hE45.weak (by dsimp only;omega) (by omega),hg5,by dsimp only;rw[show i+1-on=i-on by omega];exact hra5,hrb5,by dsimp only;rw[show i+1-on=i-on by omega];exact hwr5,hl5',hK5⟩ (by dsimp only;omega)
   ·have htg2:ts[i-on]? =some ts[i-on]:=List.getElem?_eq_getElem (by omega)
    have hga5:W5.α.gs.Perm (ga::(g2::gb::W.α.gs)):=hg5.trans ((List.Perm.swap _ _ _).cons _|>.trans (.swap _ _ _))
    have hfo5:FileOk W5.δ.disk W5.δ.size LvF f ts:=by rw[hsz5];exact hfo.keep fun x ⟨e,he,h2⟩=>hK5 x ⟨e,hsub e he,h2⟩
    have hNx2:=Next_u bw bd ba bs W5 cd5 ca5 cs4 hW5 bxa f ts LvF hfo5 (fun e he=>hl5'.mem (hsub e he)) ga _ hga5 (i-on) cxa4 cba4 hra5 _ htg2 (by omega)
    have htv2:tv ts[i-on]= .agg #[.int .i64 (ts[i-on]).c0,.int .i64 (ts[i-on]).c1,.int .i64 (ts[i-on]).c2,.int .i64 (ts[i-on]).c3,.int .i64 (ts[i-on]).c4]:=rfl
    have hat2:=at0get htg2
    rw[htv2,hz,hsz5,hw] at hNx2
    have hac2:=hact1 (i-on)
    have hlo:levO on ts (i-on)=⟨min ts[i-on].c0 u.c0,0,0,0,0⟩:=by unfold levO;rw[hat2,show i-on+on=i by omega,hat]
    have hlok:=levO_ok hfit1 on (i-on)
    rw[hlo] at hlok
    have hsucc:rangeT (levO on ts) (i+1-on)=rangeT (levO on ts) (i-on)++[⟨min ts[i-on].c0 u.c0,0,0,0,0⟩]:=by rw[show i+1-on=i-on+1 by omega,rangeT_succ,hlo]
    generalize ht2:ts[i-on]=t at*
    repeat(refine st ?_;intros)
    refine R.callV (fs:=[pv bxa]) (vs:=[]) (hf:=inferInstance) (hct:=hNx2) (h:= ?_)
    rintro _ _ ⟨cd6,ca6,W6,cxa6,cba6,rfl,hW6,hE6,hd6,hσ6,hl6,⟨rfl,hα6,hra6⟩|⟨rfl,hf6,hδ6,hg6,hx6⟩⟩<;>dsimp only[List.cons_append,List.nil_append]
    ·have hE46:=hE45.trans hE6
     have hac6:=hE46.acts.2
     have hsz6:W6.δ.size=W.δ.size:=hE46.size
     have hK6:Keep W.live W W6:=fun x hx=>by rw[hd6];exact hK5 x hx
     have hl6':LvOf first nb W.live W6.live:=by rw[hl6];exact hl5'
     have hrb6:IsRd bw bxb W6 f ts gb (i+1) cxb5 cbb5:=hrb5.move hE6.size
     have hwr6:IsWr bw bx2 W6 first nb 1 (f.count-on) g2 (rangeT (levO on ts) (i-on)) cy4 cc4:=hwr5.move hE6.size (fun x _ _=>by rw[hd6])
     have hg6:W6.α.gs.Perm (g2::gb::ga::W.α.gs):=by rw[hα6];exact hg5
     have hPt:=Put_w bw bd ba bs W6 cd6 ca6 cs4 hW6 bx2 first nb 1 (f.count-on) g2 _ cy4 cc4 hwr6 (gb::ga::W.α.gs) hg6 W.live hl6' (by rw[rangeT_len];omega) ⟨min t.c0 u.c0,0,0,0,0⟩ hlok (by omega) (by rw[hsz6];exact hp1)
     have htp:tv ⟨min t.c0 u.c0,0,0,0,0⟩= .agg #[.int .i64 (min t.c0 u.c0),.int .i64 0,.int .i64 0,.int .i64 0,.int .i64 0]:=rfl
     rw[htp] at hPt
     repeat(refine st ?_;intros)
     refine R.call (hct:=hPt) (h:= ?_)
     rintro _ _ ⟨cd7,ca7,cs7,W7,cy7,cc7,e,rfl,rfl,hW7,hE7,hK7,hc7⟩
     try dsimp only[List.cons_append,List.nil_append]
     have hE47:=hE46.trans hE7
     rcases hc7 with⟨rfl,hg7,hl7,hw7⟩|⟨rfl,hf7,hS7⟩
     ·repeat(refine st ?_;intros)
      refine Dn.round ⟨i+1,cd7,ca7,cs7,cxa6,cba6,cxb5,cbb5,cy7,cc7,W7⟩ ⟨hlt,hW7,hE47.weak (by dsimp only;omega) (by omega),hg7,by dsimp only;rw[show i+1-on=i-on+1 by omega];exact hra6.move hE7.size,hrb6.move hE7.size,by dsimp only;rw[hsucc];exact hw7,hl7,hK6.trans hK7⟩ (by dsimp only;omega)
     ·have hD:=DropAny bw bd ba bs W7 cd7 ca7 cs7 hW7 bx2 first nb 1 (f.count-on) g2 (gb::ga::W.α.gs) W.live cy7 cc7 (hS7)
      repeat(refine st ?_;intros)
      refine Go.SL.Lv.call (hc:=hD) (h:= ?_)
      rintro _ _ ⟨cdA,caA,csA,WA,cyA,ccA,rfl,hWA,hEA,hdA,hgA,hlA⟩
      try dsimp only[List.cons_append,List.nil_append]
      have hRb:=RCloseAny bw bd ba bs WA cdA caA csA hWA bxb f ts gb (ga::W.α.gs) cxb5 cbb5 (.inl ⟨hgA,i+1,hrb6.move (hE7.trans hEA).size⟩)
      refine Go.SL.Lv.call (hc:=hRb) (h:= ?_)
      rintro _ _ ⟨caB,αB,cxB,rfl,hWB,hEB,hgB⟩
      try dsimp only[List.cons_append,List.nil_append]
      have hRa:=RCloseAny bw bd ba bs {WA with α:=αB} cdA caB csA hWB bxa f ts ga W.α.gs cxa6 cba6 (.inl ⟨hgB,i-on+1,hra6.move (hE7.trans hEA).size⟩)
      refine Go.SL.Lv.call (hc:=hRa) (h:= ?_)
      rintro _ _ ⟨caC,αC,cxC,rfl,hWC,hEC,hgC⟩
      try dsimp only[List.cons_append,List.nil_append]
      have hEe:=(hE47).trans (hEA.trans (hEB.trans hEC))
      have hKe:Keep W.live W {WA with α:=αC}:=fun x hx=>by show WA.δ.disk x=_;rw[hdA];exact(hK6.trans hK7) x hx
      (refine Go.SL.Lv.nil (Hr:=[wrow bw bd ba bs,cdA,caC,csA]) Tryz.results74 (hR:= ?_);exact hbad {WA with α:=αC} cdA caC csA _ hWC hEe (by omega) hKe hgC (fault_keep hE46 hf7) hlA)
    ·have hE46:=hE45.trans hE6
     have hf5:W5.δ.fault≠-1:=by omega
     have hKx:Keep W.live W W6:=fun x hx=>by rw[hd6];exact hK5 x hx
     have hD:=DropAny bw bd ba bs W6 cd6 ca6 cs4 hW6 bx2 first nb 1 (f.count-on) g2 (gb::W.α.gs) W.live cy4 cc4 (.inl ⟨hg6,by rw[hl6];exact hl5',_,hwr5.move hE6.size (fun x _ _=>by rw[hd6])⟩)
     repeat(refine st ?_;intros)
     refine Go.SL.Lv.call (hc:=hD) (h:= ?_)
     rintro _ _ ⟨cdA,caA,csA,WA,cyA,ccA,rfl,hWA,hEA,hdA,hgA,hlA⟩
     try dsimp only[List.cons_append,List.nil_append]
     have hRb:=RCloseAny bw bd ba bs WA cdA caA csA hWA bxb f ts gb (W.α.gs) cxb5 cbb5 (.inl ⟨hgA,i+1,hrb5.move (hE6.trans hEA).size⟩)
     refine Go.SL.Lv.call (hc:=hRb) (h:= ?_)
     rintro _ _ ⟨caB,αB,cxB,rfl,hWB,hEB,hgB⟩
     try dsimp only[List.cons_append,List.nil_append]
     have hRa:=RCloseAny bw bd ba bs {WA with α:=αB} cdA caB csA hWB bxa f ts ga W.α.gs cxa6 cba6 (.inr ⟨hgB,hx6⟩)
     refine Go.SL.Lv.call (hc:=hRa) (h:= ?_)
     rintro _ _ ⟨caC,αC,cxC,rfl,hWC,hEC,hgC⟩
     try dsimp only[List.cons_append,List.nil_append]
     have hEe:=(hE46).trans (hEA.trans (hEB.trans hEC))
     have hKe:Keep W.live W {WA with α:=αC}:=fun x hx=>by show WA.δ.disk x=_;rw[hdA];exact(hKx) x hx
     (refine Go.SL.Lv.nil (Hr:=[wrow bw bd ba bs,cdA,caC,csA]) Tryz.results74 (hR:= ?_);exact hbad {WA with α:=αC} cdA caC csA _ hWC hEe (by omega) hKe hgC (fault_keep hE45 hf5) hlA)
  ·have hE45:=hE4.trans hE5
   have hf4:W4.δ.fault≠-1:=by omega
   have hKx:Keep W.live W W5:=fun x hx=>by rw[hd5];exact hK4 x hx
   have hD:=DropAny bw bd ba bs W5 cd5 ca5 cs4 hW5 bx2 first nb 1 (f.count-on) g2 (ga::W.α.gs) W.live cy4 cc4 (.inl ⟨hg5,by rw[hl5];exact hl4,_,hwr4.move hE5.size (fun x _ _=>by rw[hd5])⟩)
   repeat(refine st ?_;intros)
   refine Go.SL.Lv.call (hc:=hD) (h:= ?_)
   rintro _ _ ⟨cdA,caA,csA,WA,cyA,ccA,rfl,hWA,hEA,hdA,hgA,hlA⟩
   try dsimp only[List.cons_append,List.nil_append]
   have hRb:=RCloseAny bw bd ba bs WA cdA caA csA hWA bxb f ts gb (ga::W.α.gs) cxb5 cbb5 (.inr ⟨hgA,hx5⟩)
   refine Go.SL.Lv.call (hc:=hRb) (h:= ?_)
   rintro _ _ ⟨caB,αB,cxB,rfl,hWB,hEB,hgB⟩
   try dsimp only[List.cons_append,List.nil_append]
   have hRa:=RCloseAny bw bd ba bs {WA with α:=αB} cdA caB csA hWB bxa f ts ga W.α.gs cxa4 cba4 (.inl ⟨hgB,i-on,hra4.move (hE5.trans hEA).size⟩)
   refine Go.SL.Lv.call (hc:=hRa) (h:= ?_)
   rintro _ _ ⟨caC,αC,cxC,rfl,hWC,hEC,hgC⟩
   try dsimp only[List.cons_append,List.nil_append]
   have hEe:=(hE45).trans (hEA.trans (hEB.trans hEC))
   have hKe:Keep W.live W {WA with α:=αC}:=fun x hx=>by show WA.δ.disk x=_;rw[hdA];exact(hKx) x hx
   (refine Go.SL.Lv.nil (Hr:=[wrow bw bd ba bs,cdA,caC,csA]) Tryz.results74 (hR:= ?_);exact hbad {WA with α:=αC} cdA caC csA _ hWC hEe (by omega) hKe hgC (fault_keep hE4 hf4) hlA)
 ·obtain rfl:i=f.count:=by omega
  have hCl:=Close_w bw bd ba bs W4 cd4 ca4 cs4 hW4 bx2 first nb 1 (f.count-on) g2 _ cy4 cc4 hwr4 (gb::ga::W.α.gs) hg4 W.live hl4 (by omega) (by rw[hsz4];exact hp1)
  repeat(refine st ?_;intros)
  refine R.call (hct:=hCl) (h:= ?_)
  rintro _ _ ⟨cd5,ca5,cs5,W5,cy5,cc5,f',e,rfl,rfl,hW5,hE5,hK5,hg5,hx5,hc5⟩
  try dsimp only[List.cons_append,List.nil_append]
  have hfv:flv f'= .agg #[.int .i64 (f'.first:Int),.int .i64 (f'.blocks:Int),.int .i64 (f'.width:Int),.int .i64 (f'.count:Int)]:=rfl
  rw[hfv]
  have hD:=DropAny bw bd ba bs W5 cd5 ca5 cs5 hW5 bx2 first nb 1 (f.count-on) g2 (gb::ga::W.α.gs) W5.live cy5 cc5 (.inr ⟨hg5,.refl _,hx5⟩)
  repeat(refine st ?_;intros)
  refine Go.SL.Lv.call (hc:=hD) (h:= ?_)
  rintro _ _ ⟨cdA,caA,csA,WA,cyA,ccA,rfl,hWA,hEA,hdA,hgA,hlA⟩
  try dsimp only[List.cons_append,List.nil_append]
  have hRb:=RCloseAny bw bd ba bs WA cdA caA csA hWA bxb f ts gb (ga::W.α.gs) cxb4 cbb4 (.inl ⟨hgA,f.count,hrb4.move (hE5.trans hEA).size⟩)
  refine Go.SL.Lv.call (hc:=hRb) (h:= ?_)
  rintro _ _ ⟨caB,αB,cxB,rfl,hWB,hEB,hgB⟩
  try dsimp only[List.cons_append,List.nil_append]
  have hRa:=RCloseAny bw bd ba bs {WA with α:=αB} cdA caB csA hWB bxa f ts ga W.α.gs cxa4 cba4 (.inl ⟨hgB,f.count-on,hra4.move (hE5.trans hEA).size⟩)
  refine Go.SL.Lv.call (hc:=hRa) (h:= ?_)
  rintro _ _ ⟨caC,αC,cxC,rfl,hWC,hEC,hgC⟩
  try dsimp only[List.cons_append,List.nil_append]
  have hEe:=(hE4.trans hE5).trans (hEA.trans (hEB.trans hEC))
  have hKe:Keep W.live W {WA with α:=αC}:=fun x hx=>by show WA.δ.disk x=_;rw[hdA];exact(hK4.trans hK5) x hx
  (refine Go.SL.Lv.nil (Hr:=[wrow bw bd ba bs,cdA,caC,csA]) Tryz.results74 (hR:= ?_);refine⟨cdA,caC,csA,{WA with α:=αC},f',e,rfl,rfl,hWC,hEe.weak (by omega) (by omega),hKe,hgC,?_⟩)
  rcases hc5 with⟨rfl,hl5,hfw,hfc,hfo5⟩|⟨rfl,rfl,hf5,hl5⟩
  ·rw[rangeT_len] at hfc
   refine .inl ⟨rfl,hlA.trans hl5,hfw,hfc,?_⟩
   show FileOk WA.δ.disk _ _ _ _
   unfold stepL
   rw[hdA,←hsz4,htl]
   exact hfo5
  ·exact .inr ⟨rfl,rfl,fault_keep hE4 hf5,hlA.trans hl5⟩
def aRow (ban bx:Nat) (t:T5) (ok:Bool):Chunk:=[(ban,row [.func (.func 51) #[pv bx] #[],.int .i64 t.c0,.int .i64 t.c1,.int .i64 t.c2,.int .i64 t.c3,.int .i64 t.c4,.bool ok] 130)]
def tsat (ts:List T5) (i:Nat):T5:=ts.getD i T5.zero
theorem tsat_get {ts:List T5} {i:Nat} {t:T5} (h:ts[i]? =some t):tsat ts i=t:=by unfold tsat;rw[List.getD_eq_getElem?_getD,h];rfl
theorem tsat_none {ts:List T5} {i:Nat} (h:ts.length≤i):tsat ts i=T5.zero:=by unfold tsat;rw[List.getD_eq_getElem?_getD,List.getElem?_eq_none h];rfl
theorem ansMore_ct (bw bd ba bs:Nat) (W:Wk) (cd ca cs:Chunk) (h:Wc bd ba bs W cd ca cs) (bx ban:Nat) (f:Fl) (ts:List T5) (LvF:List Ext) (hfo:FileOk W.δ.disk W.δ.size LvF f ts) (hsub:∀e∈LvF,e∈W.live) (g:Gr) (base:List Gr) (hg:W.α.gs.Perm (g::base))
  (pos:Nat) (hpos:pos≤f.count) (cx cb:Chunk) (hr:IsRd bw bx W f ts g pos cx cb) (t0:T5) (ok0:Bool) (hac:W.δ.acts≤1000000000000):
  Ct Tryz.prog 72 [pv ban] [aRow ban bx t0 ok0,wrow bw bd ba bs,cd,ca,cs,cx,cb] fun v H'=>
   ∃cd' ca' W' cx' cb' t ok e,v= .int .i64 e∧H'=[aRow ban bx t ok,wrow bw bd ba bs,cd',ca',cs,cx',cb']∧Wc bd ba bs W' cd' ca' cs∧Ev W W' 1 0∧W'.δ.disk=W.δ.disk∧W'.σ=W.σ∧W'.live=W.live∧
    ((e=0∧W'.α.gs.Perm (g::base)∧t=tsat ts pos∧ok=decide (pos<f.count)∧IsRd bw bx W' f ts g (min (pos+1) f.count) cx' cb')∨(e=6∧W.δ.fault≠-1∧W'.α.gs.Perm base∧ClosedRd bx cx')):=by
 have htl:=hfo.len
 have hz:tv T5.zero= .agg #[.int .i64 T5.zero.c0,.int .i64 T5.zero.c1,.int .i64 T5.zero.c2,.int .i64 T5.zero.c3,.int .i64 T5.zero.c4]:=rfl
 have hp1:=holds_pos (s:=W.δ.size) (k:=f.width) h.dev.num.1.1 hfo.w1 hfo.w2
 unfold aRow
 by_cases hlt:pos<f.count
 ·have htg:ts[pos]? =some ts[pos]:=List.getElem?_eq_getElem (by omega)
  have hNx:=Next_u bw bd ba bs W cd ca cs h bx f ts LvF hfo hsub g base hg pos cx cb hr _ htg hac
  have htv:tv ts[pos]= .agg #[.int .i64 (ts[pos]).c0,.int .i64 (ts[pos]).c1,.int .i64 (ts[pos]).c2,.int .i64 (ts[pos]).c3,.int .i64 (ts[pos]).c4]:=rfl
  have hat:=tsat_get htg
  rw[htv,hz] at hNx
  have hn1:nblocks W.δ.size f.width (pos+1)-nblocks W.δ.size f.width pos≤1:=by
   unfold nblocks
   have h1:(pos+1+holds W.δ.size f.width-1)/holds W.δ.size f.width≤(pos+holds W.δ.size f.width-1+holds W.δ.size f.width)/holds W.δ.size f.width:=Nat.div_le_div_right (by omega)
   rw[Nat.add_div_right _ (by omega)] at h1
   omega
  generalize ts[pos]=u at*
  refine Ct.intro Tryz.func72 rfl Tryz.ntmps72 (nle rfl) fun w0=> ?_;dsimp only[argSlots,Nat.reduceAdd]
  repeat(refine st ?_;intros)
  refine R.callV (hct:=by exact hNx) (h:= ?_)
  rintro _ _ ⟨cd1,ca1,W1,cx1,cb1,rfl,hW1,hE1,hd1,hσ1,hl1,⟨rfl,hα1,hr1⟩|⟨rfl,hf1,hδ1,hg1,hx1⟩⟩
  try dsimp only[List.cons_append,List.nil_append]
  ·repeat(refine st ?_;intros)
   (refine Dn.post (Hr:=[[(ban,row [.func (.func 51) #[pv bx] #[],.int .i64 u.c0,.int .i64 u.c1,.int .i64 u.c2,.int .i64 u.c3,.int .i64 u.c4,.bool true] 130)],wrow bw bd ba bs,cd1,ca1,cs,cx1,cb1]) Tryz.results72 (hR:= ?_);exact⟨cd1,ca1,W1,cx1,cb1,u,true,0,rfl,rfl,hW1,hE1.weak hn1 (Nat.le_refl _),hd1,hσ1,hl1,.inl ⟨rfl,by rw[hα1];exact hg,hat.symm,(decide_eq_true hlt).symm,by rw[Nat.min_eq_left (by omega)];exact hr1⟩⟩)
  ·repeat(refine st ?_;intros)
   (refine Dn.post (Hr:=[[(ban,row [.func (.func 51) #[pv bx] #[],.int .i64 T5.zero.c0,.int .i64 T5.zero.c1,.int .i64 T5.zero.c2,.int .i64 T5.zero.c3,.int .i64 T5.zero.c4,.bool false] 130)],wrow bw bd ba bs,cd1,ca1,cs,cx1,cb1]) Tryz.results72 (hR:= ?_);exact⟨cd1,ca1,W1,cx1,cb1,T5.zero,false,6,rfl,rfl,hW1,hE1.weak hn1 (Nat.le_refl _),hd1,hσ1,hl1,.inr ⟨rfl,by omega,hg1,hx1⟩⟩)
 ·obtain rfl:pos=f.count:=by omega
  have hNe:=NextEnd_u bw bx W f ts g cx cb hr
  rw[hz] at hNe
  refine Ct.intro Tryz.func72 rfl Tryz.ntmps72 (nle rfl) fun w0=> ?_;dsimp only[argSlots,Nat.reduceAdd]
  repeat(refine st ?_;intros)
  refine R.callVP (fs:=[pv bx]) (vs:=[]) (hf:=inferInstance) (hct:=hNe) (h:= ?_)
  repeat(refine st ?_;intros)
  (refine Dn.post (Hr:=[[(ban,row [.func (.func 51) #[pv bx] #[],.int .i64 T5.zero.c0,.int .i64 T5.zero.c1,.int .i64 T5.zero.c2,.int .i64 T5.zero.c3,.int .i64 T5.zero.c4,.bool false] 130)],wrow bw bd ba bs,cd,ca,cs,cx,cb]) Tryz.results72 (hR:= ?_);exact⟨cd,ca,W,cx,cb,T5.zero,false,0,rfl,rfl,h,(Ev.refl W).weak (Nat.zero_le _) (Nat.le_refl _),rfl,rfl,rfl,.inl ⟨rfl,hg,(tsat_none (by omega)).symm,(decide_eq_false (by omega)).symm,by rw[Nat.min_eq_right (by omega)];exact hr⟩⟩)
structure AnsP where
 bw:Nat
 bx:Nat
 bx2:Nat
 ban:Nat
 first:Nat
 nb:Nat
 g:Gr
 g2:Gr
 pf:Fl
 pts:List T5
 vts:List T5
 Lv:List Ext
structure AnsR where
 q:Nat
 i:Nat
 t:T5
 ok:Bool
 cx:Chunk
 cb:Chunk
 cy:Chunk
 cc:Chunk
 ro:Bool
 wo:Bool
def ltP (x:T5) (kk i:Nat):Prop:=x.c0<kk∨x.c0=kk∧x.c1<i
structure AnsJ (P:AnsP) (W0:Wk) (kk il i:Nat) (W:Wk) (r:AnsR):Prop where
 ro:r.ro=true
 wo:r.wo=true
 pl:r.i=i
 rd:IsRd P.bw P.bx W P.pf P.pts P.g (min (r.q+1) P.pf.count) r.cx r.cb
 wr:IsWr P.bw P.bx2 W P.first P.nb 2 P.pf.count P.g2 ((P.pts.take r.q).map (foundT P.vts)) r.cy r.cc
 lv:LvOf P.first P.nb P.Lv W.live
 kp:Keep P.Lv W0 W
 fl:W0.δ.fault= -1→W.δ.fault= -1
 qn:r.q≤P.pf.count
 tt:r.t=tsat P.pts r.q
 oo:r.ok=decide (r.q<P.pf.count)
 lo:∀j x,j<r.q→P.pts[j]? =some x→ltP x kk il
 hi:∀j x,r.q≤j→P.pts[j]? =some x→¬ltP x kk i
structure AnsB (P:AnsP) (W0:Wk) (W:Wk) (r:AnsR) (e:Int):Prop where
 e6:e=6
 fl:W0.δ.fault≠-1
 kp:Keep P.Lv W0 W
 rd:(r.ro=true∧∃pos,IsRd P.bw P.bx W P.pf P.pts P.g pos r.cx r.cb)∨(r.ro=false∧ClosedRd P.bx r.cx)
 wr:(r.wo=true∧LvOf P.first P.nb P.Lv W.live∧∃ps,IsWr P.bw P.bx2 W P.first P.nb 2 P.pf.count P.g2 ps r.cy r.cc)∨(r.wo=false∧W.live.Perm P.Lv∧ClosedWr P.bx2 r.cy)
def ansOwn (P:AnsP) (r:AnsR):List Gr:=(if r.ro then[P.g] else[])++(if r.wo then[P.g2] else[])
def ansH (P:AnsP) (b1 b2 b3 b4 kk:Nat) (r:AnsR):Hp:=[aRow P.ban P.bx r.t r.ok,[(b1,row [pv P.ban] 127)],[(b2,row [.int .i64 (kk:Int)] 2)],[(b3,row [.int .i64 (r.i:Int)] 2)],[(b4,row [.func (.func 46) #[pv P.bx2] #[]] 107)],r.cx,r.cb,r.cy,r.cc]
structure AnsX where
 cd:Chunk
 ca:Chunk
 cs:Chunk
 W:Wk
 r:AnsR
theorem ans1ct (bd ba bs:Nat) (P:AnsP) (W0:Wk) (kk i:Nat) (b1 b2 b3 b4:Nat) (W:Wk) (cd ca cs:Chunk) (h:Wc bd ba bs W cd ca cs) (r:AnsR) (hJ:AnsJ P W0 kk i i W r) (base:List Gr) (hg:W.α.gs.Perm (P.g::P.g2::base)) (hn:P.pts.length=P.pf.count) (hw5:1≤P.pf.width∧P.pf.width≤5)
  (LvP:List Ext) (hfp:∀W1 r1 il i,AnsJ P W0 kk il i W1 r1→FileOk W1.δ.disk W1.δ.size LvP P.pf P.pts) (hsub:∀e∈LvP,e∈P.Lv) (hord:P.pts.Pairwise fun a c=>a.c0<c.c0∨a.c0=c.c0∧a.c1≤c.c1) (hpi:∀x∈P.pts,inI64 x.c2) (hvi:∀x∈P.vts,inI64 x.c0)
  (u:T5) (hu:u.c0=rmin (at0 P.vts) i (2^kk-1)) (hi:i≤1000000) (hac:W.δ.acts+2*P.pf.count≤1000000000000):
  Ct Tryz.prog 103 [tv u,pv b1,pv b2,pv b3,pv b4] (wrow P.bw bd ba bs::cd::ca::cs::ansH P b1 b2 b3 b4 kk r) fun v H'=>
   ∃cd' ca' cs' W' r' e,v= .int .i64 e∧H'=wrow P.bw bd ba bs::cd'::ca'::cs'::ansH P b1 b2 b3 b4 kk r'∧Wc bd ba bs W' cd' ca' cs'∧Ev W W' (2*P.pf.count) 0∧W'.α.gs.Perm (ansOwn P r'++base)∧(e=0→AnsJ P W0 kk (i+1) (i+1) W' r')∧(e≠0→AnsB P W0 W' r' e):=by
 have htv:tv u= .agg #[.int .i64 u.c0,.int .i64 u.c1,.int .i64 u.c2,.int .i64 u.c3,.int .i64 u.c4]:=rfl
 rw[htv]
 unfold ansH aRow
 refine Ct.intro Tryz.func103 rfl Tryz.ntmps103 (nle rfl) fun w0=> ?_;dsimp only[argSlots,Nat.reduceAdd]
 repeat(first|(refine st ?_;intros)|refine G.draw [] (h:= ?_))
 rename_i b5
 refine G.loop (X:=AnsX) (fun x=>Wc bd ba bs x.W x.cd x.ca x.cs∧AnsJ P W0 kk (i+1) i x.W x.r∧r.q≤x.r.q∧Ev W x.W (2*(x.r.q-r.q)) 0∧x.W.α.gs.Perm (P.g::P.g2::base))
  (fun _=>[(1,pv b1),(2,pv b2),(3,pv b3),(4,pv b4),(5,pv b5)])
  (fun x=>[[(b5,row [.int .i64 u.c0,.int .i64 u.c1,.int .i64 u.c2,.int .i64 u.c3,.int .i64 u.c4] 38)],[(P.ban,row [.func (.func 51) #[pv P.bx] #[],.int .i64 x.r.t.c0,.int .i64 x.r.t.c1,.int .i64 x.r.t.c2,.int .i64 x.r.t.c3,.int .i64 x.r.t.c4,.bool x.r.ok] 130)],
   [(b1,row [pv P.ban] 127)],[(b2,row [.int .i64 (kk:Int)] 2)],[(b3,row [.int .i64 (x.r.i:Int)] 2)],[(b4,row [.func (.func 46) #[pv P.bx2] #[]] 107)],wrow P.bw bd ba bs,x.cd,x.ca,x.cs,x.r.cx,x.r.cb,x.r.cy,x.r.cc]) (fun x=>P.pf.count-x.r.q) ⟨cd,ca,cs,W,r⟩
  ⟨h,{hJ with lo:=fun j x hj hx=>by have:=hJ.lo j x hj hx;unfold ltP at this⊢;omega},Nat.le_refl _,(Ev.refl W).weak (Nat.zero_le _) (Nat.le_refl _),hg⟩ (body:= ?_)
 rintro⟨cd1,ca1,cs1,W1,r1⟩ ⟨hW1,hJ1,hq1,hE1,hg1⟩
 dsimp only at hW1 hJ1 hq1 hE1 hg1⊢
 obtain⟨q,i',t,ok,cx,cb,cy,cc,ro,wo⟩:=r1
 obtain⟨hro,hwo,hpl,hrd,hwr,hlv,hkp,hfl,hqn,htt,hoo,hlo,hhi⟩:=id hJ1
 dsimp only at hro hwo hpl hrd hwr hlv hkp hfl hqn htt hoo hlo hhi hq1 hE1⊢
 subst hro hwo hpl
 have hac1:=hE1.acts.2
 have hend:(∀x,P.pts[q]? =some x→¬(x.c0=kk∧x.c1=(i':Int)))→AnsJ P W0 kk (i'+1) (i'+1) W1 ⟨q,i'+1,t,ok,cx,cb,cy,cc,true,true⟩:=by
  intro hne
  refine⟨rfl,rfl,rfl,hrd,hwr,hlv,hkp,hfl,hqn,htt,hoo,fun j x hj hx=> ?_,fun j x hj hx=> ?_⟩
  ·exact hlo j x hj hx
  ·dsimp only at hj
   have h1:=hhi j x hj hx
   have h2:q<P.pts.length:=by have:=(List.getElem?_eq_some_iff.1 hx).1;omega
   have h3:P.pts[q]? =some P.pts[q]:=List.getElem?_eq_getElem h2
   have h4:=hne _ h3
   have h5:=hhi q _ (Nat.le_refl _) h3
   have h6:P.pts[q].c0<x.c0∨P.pts[q].c0=x.c0∧P.pts[q].c1≤x.c1:=by
    rcases Nat.lt_or_ge q j with hqj|hqj
    ·obtain⟨hj2,rfl⟩:=List.getElem?_eq_some_iff.1 hx
     exact List.pairwise_iff_getElem.1 hord q j h2 hj2 hqj
    ·obtain rfl:j=q:=by omega
     rw[h3,Option.some.injEq] at hx
     rw[hx];right;exact⟨rfl,Int.le_refl _⟩
   unfold ltP at h1 h5⊢
   omega
 have ewr:IntKind.wrap .i64 ((i':Int)+1)=((i'+1:Nat):Int):=by rw[wrap_i64 (by omega)];omega
 by_cases hlt:q<P.pf.count
 rotate_left
 ·have hj:=hend (fun x hx=>by have:=(List.getElem?_eq_some_iff.1 hx).1;omega)
  rw[decide_eq_false hlt] at hoo
  subst hoo
  repeat(first|(refine st ?_;intros)|refine G.draw [] (h:= ?_))
  (refine Dn.post (Hr:=[wrow P.bw bd ba bs,cd1,ca1,cs1,[(P.ban,row [.func (.func 51) #[pv P.bx] #[],.int .i64 t.c0,.int .i64 t.c1,.int .i64 t.c2,.int .i64 t.c3,.int .i64 t.c4,.bool false] 130)],[(b1,row [pv P.ban] 127)],[(b2,row [.int .i64 (kk:Int)] 2)],[(b3,row [.int .i64 ((i'+1:Nat):Int)] 2)],[(b4,row [.func (.func 46) #[pv P.bx2] #[]] 107)],cx,cb,cy,cc]) Tryz.results103 (hR:= ?_);exact⟨cd1,ca1,cs1,W1,⟨q,i'+1,t,false,cx,cb,cy,cc,true,true⟩,0,rfl,rfl,hW1,hE1.weak (by omega) (Nat.le_refl _),hg1,fun _=>hj,fun h0=>absurd rfl h0⟩)
 rw[decide_eq_true hlt] at hoo
 subst hoo
 have htg:P.pts[q]? =some P.pts[q]:=List.getElem?_eq_getElem (by omega)
 have htq:t=P.pts[q]:=htt.trans (tsat_get htg)
 have hmem:t∈P.pts:=by rw[htq];exact List.getElem_mem _
 rw[←htq] at htg
 by_cases hc:t.c0=(kk:Int)∧t.c1=(i':Int)
 rotate_left
 ·have hj:=hend (fun x hx=>by rw[htg,Option.some.injEq] at hx;subst hx;exact hc)
  by_cases hc0:t.c0=(kk:Int)
  ·have hc1:¬t.c1=(i':Int):=fun h=>hc ⟨hc0,h⟩
   repeat(first|(refine st ?_;intros)|refine G.draw [] (h:= ?_))
   (refine Dn.post (Hr:=[wrow P.bw bd ba bs,cd1,ca1,cs1,[(P.ban,row [.func (.func 51) #[pv P.bx] #[],.int .i64 t.c0,.int .i64 t.c1,.int .i64 t.c2,.int .i64 t.c3,.int .i64 t.c4,.bool true] 130)],[(b1,row [pv P.ban] 127)],[(b2,row [.int .i64 (kk:Int)] 2)],[(b3,row [.int .i64 ((i'+1:Nat):Int)] 2)],[(b4,row [.func (.func 46) #[pv P.bx2] #[]] 107)],cx,cb,cy,cc]) Tryz.results103 (hR:= ?_);exact⟨cd1,ca1,cs1,W1,⟨q,i'+1,t,true,cx,cb,cy,cc,true,true⟩,0,rfl,rfl,hW1,hE1.weak (by omega) (Nat.le_refl _),hg1,fun _=>hj,fun h0=>absurd rfl h0⟩)
  ·repeat(first|(refine st ?_;intros)|refine G.draw [] (h:= ?_))
   (refine Dn.post (Hr:=[wrow P.bw bd ba bs,cd1,ca1,cs1,[(P.ban,row [.func (.func 51) #[pv P.bx] #[],.int .i64 t.c0,.int .i64 t.c1,.int .i64 t.c2,.int .i64 t.c3,.int .i64 t.c4,.bool true] 130)],[(b1,row [pv P.ban] 127)],[(b2,row [.int .i64 (kk:Int)] 2)],[(b3,row [.int .i64 ((i'+1:Nat):Int)] 2)],[(b4,row [.func (.func 46) #[pv P.bx2] #[]] 107)],cx,cb,cy,cc]) Tryz.results103 (hR:= ?_);exact⟨cd1,ca1,cs1,W1,⟨q,i'+1,t,true,cx,cb,cy,cc,true,true⟩,0,rfl,rfl,hW1,hE1.weak (by omega) (Nat.le_refl _),hg1,fun _=>hj,fun h0=>absurd rfl h0⟩)
 obtain⟨hc0,hc1⟩:=hc
 have hfd:foundT P.vts t=⟨t.c2,u.c0,0,0,0⟩:=by unfold foundT;rw[hc0,hc1,Int.toNat_natCast,Int.toNat_natCast,←hu]
 have hh2:1≤holds W1.δ.size 2:=holds_pos hW1.dev.num.1.1 (by omega) (by omega)
 have hpl:((P.pts.take q).map (foundT P.vts)).length=q:=by rw[List.length_map,List.length_take];omega
 have hPt:=Put_w P.bw bd ba bs W1 cd1 ca1 cs1 hW1 P.bx2 P.first P.nb 2 P.pf.count P.g2 _ cy cc hwr (P.g::base) (hg1.trans (.swap _ _ _)) P.Lv hlv (by rw[hpl];exact hlt) ⟨t.c2,u.c0,0,0,0⟩ (okT2 (hpi t hmem) (by rw[hu];exact inI64rmin hvi _ _)) (by omega) hh2
 have htp:tv ⟨t.c2,u.c0,0,0,0⟩= .agg #[.int .i64 t.c2,.int .i64 u.c0,.int .i64 0,.int .i64 0,.int .i64 0]:=rfl
 rw[htp] at hPt
 repeat(first|(refine st ?_;intros)|refine G.draw [] (h:= ?_))
 refine R.callV (hct:=by exact hPt) (h:= ?_)
 rintro _ _ ⟨cd2,ca2,cs2,W2,cy2,cc2,e2,rfl,rfl,hW2,hE2,hK2,hc2⟩
 try dsimp only[List.cons_append,List.nil_append]
 rcases hc2 with⟨rfl,hg2,hl2,hw2⟩|⟨rfl,hf2,hS2⟩
 ·have hfo2:FileOk W2.δ.disk W2.δ.size LvP P.pf P.pts:=by
   have h1:=hfp W1 _ _ _ hJ1
   rw[hE2.size]
   exact h1.keep fun x ⟨e,he,h3⟩=>hK2 x ⟨e,hsub e he,h3⟩
  have hM:=ansMore_ct P.bw bd ba bs W2 cd2 ca2 cs2 hW2 P.bx P.ban P.pf P.pts LvP hfo2 (fun e he=>hl2.mem (hsub e he)) P.g (P.g2::base) (hg2.trans (.swap _ _ _)) (min (q+1) P.pf.count) (Nat.min_le_right _ _) cx cb (hrd.move hE2.size) t true (by have:=hE2.acts.2;omega)
  unfold aRow at hM
  have hE12:=hE1.trans hE2
  repeat(first|(refine st ?_;intros)|refine G.draw [] (h:= ?_))
  refine R.call (hct:=hM) (h:= ?_)
  rintro _ _ ⟨cd3,ca3,W3,cx3,cb3,t3,ok3,e3,rfl,rfl,hW3,hE3,hd3,hσ3,hl3,hc3⟩
  try dsimp only[List.cons_append,List.nil_append]
  have hE13:=hE12.trans hE3
  have hK3:Keep P.Lv W0 W3:=fun x hx=>by rw[hd3];exact(hkp.trans hK2) x hx
  have hwr3:IsWr P.bw P.bx2 W3 P.first P.nb 2 P.pf.count P.g2 ((P.pts.take (q+1)).map (foundT P.vts)) cy2 cc2:=by
   have:(P.pts.take (q+1)).map (foundT P.vts)=(P.pts.take q).map (foundT P.vts)++[⟨t.c2,u.c0,0,0,0⟩]:=by
    rw[List.take_add_one,htg,List.map_append,←hfd];rfl
   rw[this]
   exact hw2.move hE3.size (fun x _ _=>by rw[hd3])
  have hlv3:LvOf P.first P.nb P.Lv W3.live:=by rw[hl3];exact hl2
  rcases hc3 with⟨rfl,hg3,ht3,hok3,hr3⟩|⟨rfl,hf3,hg3,hx3⟩
  ·have hmin:min (q+1) P.pf.count=q+1:=by omega
   rw[hmin] at ht3 hok3 hr3
   repeat(first|(refine st ?_;intros)|refine G.draw [] (h:= ?_))
   refine Dn.round ⟨cd3,ca3,cs2,W3,⟨q+1,i',t3,ok3,cx3,cb3,cy2,cc2,true,true⟩⟩ ⟨hW3,⟨rfl,rfl,rfl,hr3,hwr3,hlv3,hK3,fun hf=>hE3.fault (hE2.fault (hfl hf)),hlt,ht3,hok3,fun j x hj hx=> ?_,fun j x hj hx=>hhi j x (by dsimp only at hj;omega) hx⟩,by dsimp only;omega,hE13.weak (by dsimp only;omega) (Nat.le_refl _),hg3⟩ (by dsimp only;omega)
   dsimp only at hj
   by_cases hjq:j=q
   ·subst hjq
    rw[htg,Option.some.injEq] at hx
    subst hx
    unfold ltP;omega
   ·exact hlo j x (by omega) hx
  ·repeat(first|(refine st ?_;intros)|refine G.draw [] (h:= ?_))
   (refine Dn.post (Hr:=[wrow P.bw bd ba bs,cd3,ca3,cs2,[(P.ban,row [.func (.func 51) #[pv P.bx] #[],.int .i64 t3.c0,.int .i64 t3.c1,.int .i64 t3.c2,.int .i64 t3.c3,.int .i64 t3.c4,.bool ok3] 130)],[(b1,row [pv P.ban] 127)],[(b2,row [.int .i64 (kk:Int)] 2)],[(b3,row [.int .i64 (i':Int)] 2)],[(b4,row [.func (.func 46) #[pv P.bx2] #[]] 107)],cx3,cb3,cy2,cc2]) Tryz.results103 (hR:= ?_);exact⟨cd3,ca3,cs2,W3,⟨q,i',t3,ok3,cx3,cb3,cy2,cc2,false,true⟩,6,rfl,rfl,hW3,hE13.weak (by omega) (Nat.le_refl _),hg3,fun h0=>absurd h0 (by decide),fun _=>⟨rfl,fun hf=>hf3 (hE2.fault (hfl hf)),hK3,.inr ⟨rfl,hx3⟩,.inl ⟨rfl,hlv3,_,hwr3⟩⟩⟩)
 ·have hE12:=hE1.trans hE2
  have hrd2:=hrd.move hE2.size
  have hfl2:W0.δ.fault≠-1:=fun hf=>hf2 (hfl hf)
  repeat(first|(refine st ?_;intros)|refine G.draw [] (h:= ?_))
  (refine Dn.post (Hr:=[wrow P.bw bd ba bs,cd2,ca2,cs2,[(P.ban,row [.func (.func 51) #[pv P.bx] #[],.int .i64 t.c0,.int .i64 t.c1,.int .i64 t.c2,.int .i64 t.c3,.int .i64 t.c4,.bool true] 130)],[(b1,row [pv P.ban] 127)],[(b2,row [.int .i64 (kk:Int)] 2)],[(b3,row [.int .i64 (i':Int)] 2)],[(b4,row [.func (.func 46) #[pv P.bx2] #[]] 107)],cx,cb,cy2,cc2]) Tryz.results103 (hR:= ?_);skip)
  rcases hS2 with⟨a1,a2,a3⟩|⟨a1,a2,a3⟩
  ·exact⟨cd2,ca2,cs2,W2,⟨q,i',t,true,cx,cb,cy2,cc2,true,true⟩,6,rfl,rfl,hW2,hE12.weak (by omega) (Nat.le_refl _),a1.trans (.swap _ _ _),fun h0=>absurd h0 (by decide),fun _=>⟨rfl,hfl2,hkp.trans hK2,.inl ⟨rfl,_,hrd2⟩,.inl ⟨rfl,a2,a3⟩⟩⟩
  ·exact⟨cd2,ca2,cs2,W2,⟨q,i',t,true,cx,cb,cy2,cc2,true,false⟩,6,rfl,rfl,hW2,hE12.weak (by omega) (Nat.le_refl _),a1,fun h0=>absurd h0 (by decide),fun _=>⟨rfl,hfl2,hkp.trans hK2,.inl ⟨rfl,_,hrd2⟩,.inr ⟨rfl,a2,a3⟩⟩⟩
theorem AnsJ.sz {P:AnsP} {W0 W:Wk} {kk il i:Nat} {r:AnsR} (h:AnsJ P W0 kk il i W r):P.g.n=W.δ.size:=h.rd.1
def ansZ (P:AnsP) (W0:Wk) (kk b1 b2 b3 b4:Nat):Seer AnsR where
 own:=ansOwn P
 C r:=(ansH P b1 b2 b3 b4 kk r).flatten
 J W r i:=AnsJ P W0 kk i i W r
 B W r e:=AnsB P W0 W r e
 κ:=2*P.pf.count
theorem ansZ_ok (P:AnsP) (W0:Wk) (kk b1 b2 b3 b4:Nat):(ansZ P W0 kk b1 b2 b3 b4).Ok where
 stay:=by
  intro W W' r i h hs hd _ hl hf
  exact{h with
   rd:=h.rd.move hs
   wr:=h.wr.move hs (fun x _ _=>by rw[hd])
   lv:=by rw[hl];exact h.lv
   kp:=fun x hx=>by rw[hd];exact h.kp x hx
   fl:=fun e=>hf (h.fl e)}
 flt:=by
  intro W W' r i h hf hd _ hl
  have e1:W'.δ.disk=W.δ.disk:=by rw[hd];rfl
  have e2:W'.δ.size=W.δ.size:=by rw[hd];rfl
  exact⟨rfl,fun e=>by have:=h.fl e;omega,fun x hx=>by rw[e1];exact h.kp x hx,.inl ⟨h.ro,_,h.rd.move e2⟩,.inl ⟨h.wo,by rw[hl];exact h.lv,_,h.wr.move e2 (fun x _ _=>by rw[e1])⟩⟩
 stayB:=by
  intro W α r e h
  refine{h with
   rd:= ?_
   wr:= ?_}
  ·rcases h.rd with⟨a,p,b⟩|⟨a,b⟩
   ·exact .inl ⟨a,p,b.move rfl⟩
   ·exact .inr ⟨a,b⟩
  ·rcases h.wr with⟨a,b,ps,c⟩|⟨a,b,c⟩
   ·exact .inl ⟨a,b,ps,c.move rfl (fun _ _ _=>rfl)⟩
   ·exact .inr ⟨a,b,c⟩
structure AnsF (P:AnsP) (W0:Wk) (LvP:List Ext):Prop where
 n:P.pts.length=P.pf.count
 fo:FileOk W0.δ.disk W0.δ.size LvP P.pf P.pts
 sub:∀e∈LvP,e∈P.Lv
 ord:P.pts.Pairwise fun a c=>a.c0<c.c0∨a.c0=c.c0∧a.c1≤c.c1
 pi:∀x∈P.pts,inI64 x.c2
 vi:∀x∈P.vts,inI64 x.c0
 sz:P.g.n=W0.δ.size
 c1:P.pf.count≤1000
theorem answer_ct (bd ba bs:Nat) (P:AnsP) (W0:Wk) (LvP:List Ext) (hP:AnsF P W0 LvP) (kk:Nat) (W:Wk) (cd ca cs:Chunk) (h:Wc bd ba bs W cd ca cs) (r:AnsR) (hJ:AnsJ P W0 kk 0 0 W r) (base:List Gr) (hg:W.α.gs.Perm (P.g::P.g2::base))
  (f:Fl) (LvF:List Ext) (hfo:FileOk W0.δ.disk W0.δ.size LvF f (levT P.vts kk)) (hsub:∀e∈LvF,e∈P.Lv) (hr:W.δ.size≤W.α.room-W.α.used) (hac:W.δ.acts≤1000000000) (hcn:f.count≤1000):
  Ct Tryz.prog 73 [pv P.ban,pv P.bw,.int .i64 (kk:Int),flv f,.func (.func 46) #[pv P.bx2] #[]] [wrow P.bw bd ba bs,cd,ca,cs,aRow P.ban P.bx r.t r.ok,r.cx,r.cb,r.cy,r.cc] fun v H'=>
   ∃cd' ca' cs' W' r' e,v= .int .i64 e∧H'=[wrow P.bw bd ba bs,cd',ca',cs',aRow P.ban P.bx r'.t r'.ok,r'.cx,r'.cb,r'.cy,r'.cc]∧Wc bd ba bs W' cd' ca' cs'∧Ev W W' (f.count+f.count*(2*P.pf.count)) 0∧W'.α.gs.Perm (ansOwn P r'++base)∧
    (e=0→AnsJ P W0 kk f.count f.count W' r')∧(e≠0→AnsB P W0 W' r' e):=by
 have hflv:flv f= .agg #[.int .i64 (f.first:Int),.int .i64 (f.blocks:Int),.int .i64 (f.width:Int),.int .i64 (f.count:Int)]:=rfl
 have hw1:=hP.fo.w1
 have hw5:=hP.fo.w2
 have hc1:=hP.c1
 have hlen:=hfo.len
 have hkeep:∀{W1:Wk} {r1:AnsR} {il i:Nat} {fx:Fl} {tx:List T5} {Lx:List Ext},AnsJ P W0 kk il i W1 r1→FileOk W0.δ.disk W0.δ.size Lx fx tx→(∀e∈Lx,e∈P.Lv)→FileOk W1.δ.disk W1.δ.size Lx fx tx:=by
  intro W1 r1 il i fx tx Lx h1 h2 h3
  rw[←h1.sz,hP.sz]
  exact h2.keep fun x ⟨e,he,h4⟩=>h1.kp x ⟨e,h3 e he,h4⟩
 have hO:=fun b1 b2 b3 b4=>Over_ct P.bw bd ba bs (ansZ P W0 kk b1 b2 b3 b4) (ansZ_ok P W0 kk b1 b2 b3 b4) f (levT P.vts kk) LvF 103 inferInstance [] [pv b1,pv b2,pv b3,pv b4] W.δ.size W.α.room (by
   intro base W1 cd1 ca1 cs1 r1 i u hW1 hg1 hrm1 hsz1 hJ1 hu hac1
   have hg1':W1.α.gs.Perm (P.g::P.g2::base):=by simpa[ansZ,ansOwn,hJ1.ro,hJ1.wo] using hg1
   have hil:i<(levT P.vts kk).length:=(List.getElem?_eq_some_iff.1 hu).1
   have huv:u.c0=rmin (at0 P.vts) i (2^kk-1):=by
    rw[←at0get hu]
    refine levT_at ?_
    rw[levT_len] at hil
    have:=Nat.two_pow_pos kk
    omega
   have h1:=ans1ct bd ba bs P W0 kk i b1 b2 b3 b4 W1 cd1 ca1 cs1 hW1 r1 hJ1 base hg1' hP.n ⟨hw1,hw5⟩ LvP (fun W2 r2 il i h2=>hkeep h2 hP.fo hP.sub) hP.sub hP.ord hP.pi hP.vi u huv (by omega) (by omega)
   refine Ct.convP h1 (by simp[ansZ]) ?_
   rintro v H' ⟨cd',ca',cs',W',r',e,rfl,rfl,a1,a2,a3,a4,a5⟩
   exact⟨[wrow P.bw bd ba bs,cd',ca',cs',(ansZ P W0 kk b1 b2 b3 b4).C r'],⟨cd',ca',cs',W',r',e,rfl,rfl,a1,a2,a3,a4,a5⟩,by simp[ansZ]⟩) W cd ca cs h r base (by simpa[ansZ,ansOwn,hJ.ro,hJ.wo] using hg) rfl rfl hJ (fun W1 r1 i h1=>⟨by
    have h2:AnsJ P W0 kk i i W1 r1:=h1
    have h3:=hkeep h2 hfo hsub
    rw[←h2.sz,hJ.sz] at h3
    exact h3,fun e he=>h1.lv.mem (hsub e he)⟩) hr (by
    have h1:f.count*(2*P.pf.count)≤1000*2000:=Nat.mul_le_mul hcn (by omega)
    have h2:nblocks W.δ.size f.width f.count≤f.count:=nblocks_le (holds_pos h.dev.num.1.1 hfo.w1 hfo.w2)
    show _+_+_*(2*P.pf.count)≤_
    omega) (by omega)
 have hO:∀b1 b2 b3 b4:Nat,Ct Tryz.prog 102 [pv P.bw,flv f,.func (.func 103) #[] #[pv b1,pv b2,pv b3,pv b4]] (wrow P.bw bd ba bs::cd::ca::cs::ansH P b1 b2 b3 b4 kk r) fun v H'=>
   ∃cd' ca' cs' W' r' e,v= .int .i64 e∧H'=wrow P.bw bd ba bs::cd'::ca'::cs'::ansH P b1 b2 b3 b4 kk r'∧Wc bd ba bs W' cd' ca' cs'∧Ev W W' (nblocks W.δ.size f.width f.count+f.count*(2*P.pf.count)) 0∧W'.α.gs.Perm (ansOwn P r'++base)∧
    (e=0→AnsJ P W0 kk f.count f.count W' r')∧(e≠0→AnsB P W0 W' r' e):=by
  intro b1 b2 b3 b4
  refine Ct.convP (hO b1 b2 b3 b4) (by simp[ansZ]) ?_
  rintro v H' ⟨cd',ca',cs',W',r',e,rfl,rfl,a⟩
  exact⟨wrow P.bw bd ba bs::cd'::ca'::cs'::ansH P b1 b2 b3 b4 kk r',⟨cd',ca',cs',W',r',e,rfl,rfl,a⟩,by simp[ansZ]⟩
 have hi0:=hJ.pl
 obtain⟨q,i',t,ok,cx,cb,cy,cc,ro,wo⟩:=r
 dsimp only at hi0
 subst hi0
 unfold ansH aRow at hO
 unfold aRow
 dsimp only at hO⊢
 simp only[show((0:Nat):Int)=0 from rfl] at hO
 rw[hflv] at hO⊢
 refine Ct.intro Tryz.func73 rfl Tryz.ntmps73 (nle rfl) fun w0=> ?_;dsimp only[argSlots,Nat.reduceAdd]
 repeat(refine st ?_;intros)
 rename_i b1 b2 b8 b4 b3
 refine R.callX (hct:=hO _ _ _ _) (h:= ?_)
 rintro _ _ ⟨cd',ca',cs',W',r',e,rfl,rfl,a1,a2,a3,a4,a5⟩
 dsimp only[List.cons_append,List.nil_append]
 constructor
 ·(·(first|(intro _ _ h;cases h;done)|(repeat(first|exact qok_nil|(apply qok_cons;(·first|(intro hc;exact absurd hc (nmem rfl))|(intro _;apply CellPr.mk;(·repeat(first|exact Has.here|apply Has.there));(first|exact rfl|assumption))|(intro _;apply CellsPr.mk;(·repeat(first|exact Has.here|apply Has.there));(first|exact rfl|assumption))))))))
 have hnb:nblocks W.δ.size f.width f.count≤f.count:=nblocks_le (holds_pos h.dev.num.1.1 hfo.w1 hfo.w2)
 repeat(refine st ?_;intros)
 (refine Dn.post (Hr:=[wrow P.bw bd ba bs,cd',ca',cs',[(P.ban,row [.func (.func 51) #[pv P.bx] #[],.int .i64 r'.t.c0,.int .i64 r'.t.c1,.int .i64 r'.t.c2,.int .i64 r'.t.c3,.int .i64 r'.t.c4,.bool r'.ok] 130)],r'.cx,r'.cb,r'.cy,r'.cc]) Tryz.results73 (hR:= ?_);exact⟨cd',ca',cs',W',r',e,rfl,rfl,a1,a2.weak (by omega) (Nat.le_refl _),a3,a4,a5⟩)
end Go.Proofs.YtjoicjgfgkpdjaaGreat
