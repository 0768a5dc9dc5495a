/-
  Parts of the proof, put together: Found, Halves. No condition.
-/
import Derived.Test.YtjoicjgfgkpdjaaGreatF23
set_option linter.unusedVariables false
set_option linter.unusedSimpArgs false
set_option linter.unnecessarySimpa false
set_option maxHeartbeats 4000000
namespace Go.Proofs.YtjoicjgfgkpdjaaGreat
open Go.SL Go.Spc Go.Tup Go.Srt
structure FndX where
 k:Nat
 own:Bool
 f:Fl
 cd:Chunk
 ca:Chunk
 cs:Chunk
 W:Wk
 r:AnsR
theorem lvX {first nb:Nat} {Lv live:List Ext}:LvOf first nb Lv live↔live.Perm (addF ⟨first,nb,0,0⟩ Lv):=by
 unfold LvOf addF
 dsimp only[Fl.ext]
 split<;>exact Iff.rfl
def lvO (own:Bool) (f:Fl) (L:List Ext):List Ext:=if own then addF f L else L
theorem lvO_mem {own:Bool} {f:Fl} {L:List Ext} {e:Ext} (h:e∈L):e∈lvO own f L:=by
 unfold lvO;split
 ·exact addF_mem h
 ·exact h
theorem len_addF (f:Fl) (L:List Ext):(addF f L).length≤L.length+1:=by unfold addF;split<;>simp
abbrev fndA:Nat:=6000000
theorem found_ct (p:Jp) (bw bd ba bs bj:Nat) (hbw:p.bw=bw) (W:Wk) (cd ca cs:Chunk) (h:Wc bd ba bs W cd ca cs) (pf vf:Fl) (vts qts:List T5) (hpf:FileIn W (pf,partsF qts)) (hvf:FileIn W (vf,vts)) (hwv:vf.width=1) (hcv:vf.count≤500) (hcp:pf.count≤500)
  (hpp:∀x∈partsF qts,okP vts.length x) (m:Nat) (hm1:nblocks W.δ.size 2 pf.count≤m) (hm2:nblocks W.δ.size 1 vf.count≤m) (hm:m≤1000) (hroom:m*(W.live.length+3)+(total W.live+2*m)≤W.σ.n) (hr:5*W.δ.size≤W.α.room-W.α.used) (hac:W.δ.acts≤900000000) (ph:Option Addr) (nh capj:Nat):
  Ct Tryz.prog 42 [pv bj,flv pf,flv vf] [jrow bj bw 0 ph nh capj,wrow bw bd ba bs,cd,ca,cs] fun v H'=>
   ∃f e cd' ca' cs' W',v= .tuple #[flv f,.int .i64 e]∧H'=[jrow bj bw 0 ph nh capj,wrow bw bd ba bs,cd',ca',cs']∧Wc bd ba bs W' cd' ca' cs'∧Stepped p W W' fndA 20000 none ((partsF qts).map (foundT vts)) f e∧
    (f.count≤pf.count∧f.blocks≤nblocks W.δ.size 2 pf.count∧(e=0→f.width=2∧f.count=pf.count)):=by
 obtain⟨LvP,hfoP,hsubP⟩:=hpf
 obtain⟨LvV,hfoV,hsubV⟩:=hvf
 dsimp only at hfoP hfoV
 obtain⟨⟨hs1,hs2⟩,_⟩:=h.dev.num
 have hlP:=hfoP.len
 have hlV:=hfoV.len
 have hv1:∀t∈vts,okT 1 t:=by have:=hfoV.fit;rw[hwv] at this;exact this
 have hvi:∀t∈vts,inI64 t.c0:=fun t ht=>(okT_cols (hv1 t ht)).1
 have hpi:∀x∈partsF qts,inI64 x.c2:=fun x hx=>(okT_cols (hfoP.fit x hx)).2.2.1
 obtain⟨_,_,_,_,_,hfk,_⟩:=h.sp
 have hbig0:m≤big W.σ.free:=big_room h.live hfk (by
  have:m*(W.live.length+1)≤m*(W.live.length+3):=Nat.mul_le_mul_left _ (by omega)
  omega)
 obtain⟨nb,hnb⟩:∃nb,nb=nblocks W.δ.size 2 pf.count:=⟨_,rfl⟩
 rw[←hnb] at hm1⊢
 have hflv:∀f:Fl,flv f= .agg #[.int .i64 (f.first:Int),.int .i64 (f.blocks:Int),.int .i64 (f.width:Int),.int .i64 (f.count:Int)]:=fun _=>rfl
 have hh2:1≤holds W.δ.size 2:=holds_pos hs1 (by omega) (by omega)
 have hRd:=Read_u bw bd ba bs W cd ca cs h pf (partsF qts) LvP hfoP (by omega)
 have hfin:∀(W':Wk) (cd' ca' cs':Chunk) (f:Fl) (e:Int) (kk:Nat),Wc bd ba bs W' cd' ca' cs'→W'.α.gs.Perm W.α.gs→Ev W W' kk 20000→kk≤fndA→Keep W.live W W'→
   ((e=0∧W'.live.Perm (addF f W.live)∧f.width=2∧f.count=pf.count∧FileOk W'.δ.disk W.δ.size [f.ext] f ((partsF qts).map (foundT vts)))∨(e=6∧f=⟨0,0,0,0⟩∧W.δ.fault≠-1∧W'.live.Perm W.live))→
   ∃f' e' cd'' ca'' cs'' W'',Value.tuple #[flv f,.int .i64 e]= .tuple #[flv f',.int .i64 e']∧[jrow bj bw 0 ph nh capj,wrow bw bd ba bs,cd',ca',cs']=[jrow bj bw 0 ph nh capj,wrow bw bd ba bs,cd'',ca'',cs'']∧Wc bd ba bs W'' cd'' ca'' cs''∧Stepped p W W'' fndA 20000 none ((partsF qts).map (foundT vts)) f' e'∧
    (f'.count≤pf.count∧f'.blocks≤nb∧(e'=0→f'.width=2∧f'.count=pf.count)):=by
  intro W' cd' ca' cs' f e kk a1 a2 a3 a4 a5 a6
  refine⟨f,e,cd',ca',cs',W',rfl,rfl,a1,⟨a2,a3.room,a3.size,a3.n,by have:=a3.acts.2;omega,a3.big,a3.fault,a5,?_⟩,?_⟩
  ·rcases a6 with⟨x1,x2,_,_,x3⟩|⟨x1,x2,x3,x4⟩
   ·exact .inl ⟨x1,rfl,x2,x3⟩
   ·exact .inr ⟨by omega,x2,x4,.inl ⟨x1,x3⟩⟩
  ·rcases a6 with⟨x1,x2,y1,y2,x3⟩|⟨x1,rfl,x3,x4⟩
   ·exact⟨by omega,by rw[x3.blk,y1,y2,hnb];exact Nat.le_refl _,fun _=>⟨y1,y2⟩⟩
   ·exact⟨Nat.zero_le _,Nat.zero_le _,fun h=>by omega⟩
 rw[hflv pf] at hRd
 rw[hflv pf,hflv vf]
 unfold jrow at hfin⊢
 refine Ct.introD Tryz.func42 rfl Tryz.ntmps42 (nle rfl) fun w0=> ?_;dsimp only[argSlots,Nat.reduceAdd]
 repeat(first|(refine st ?_;intros)|refine G.draw [] (h:= ?_))
 rename_i b4 b5 b6
 refine R.callX (hct:=hRd) (h:= ?_)
 rintro _ _ ⟨bx,g,ca1,α1,cx,cb,rfl,rfl,hW1,hE1,hg1,hgn1,hr1⟩
 dsimp only[List.cons_append,List.nil_append]
 constructor
 ·(·(first|(intro _ _ h;cases h;done)|(repeat(first|exact qok_nil|(apply qok_cons;(·first|(intro hc;exact absurd hc (nmem rfl))|(intro _;apply CellPr.mk;(·repeat(first|exact Has.here|apply Has.there));(first|exact rfl|assumption))|(intro _;apply CellsPr.mk;(·repeat(first|exact Has.here|apply Has.there));(first|exact rfl|assumption))))))))
 have hu1:α1.used=W.α.used+W.δ.size:=by
  have:=hW1.ar.num.2.2.2
  dsimp only at this
  rw[this,(hg1.map (·.n)).sum_nat,h.ar.num.2.2.2];simp[hgn1];omega
 have hrm1:α1.room=W.α.room:=hE1.room
 have hWr:=Write_u bw bd ba bs {W with α:=α1} cd ca1 cs hW1 2 pf.count (by omega) (by omega) (by omega) (by dsimp only;omega)
 dsimp only at hWr
 rw[←hnb] at hWr
 repeat(first|(refine st ?_;intros)|refine G.draw [] (h:= ?_))
 refine R.callX (hct:=hWr) (h:= ?_)
 rintro _ _ (⟨_,bx2,first,g2,cd2,ca2,cs2,W2,cy,cc,rfl,rfl,hW2,hE2,e1,e2,e3,e4,e5⟩|⟨hfull,_⟩)
 rotate_left
 ·exact absurd hbig0 (by omega)
 dsimp only[List.cons_append,List.nil_append]
 constructor
 ·(·(first|(intro _ _ h;cases h;done)|(repeat(first|exact qok_nil|(apply qok_cons;(·first|(intro hc;exact absurd hc (nmem rfl))|(intro _;apply CellPr.mk;(·repeat(first|exact Has.here|apply Has.there));(first|exact rfl|assumption))|(intro _;apply CellsPr.mk;(·repeat(first|exact Has.here|apply Has.there));(first|exact rfl|assumption))))))))
 have hE12:=hE1.trans hE2
 have hs2z:W2.δ.size=W.δ.size:=hE12.size
 have hK2:Keep W.live W W2:=fun x _=>by rw[e1]
 have hg2:W2.α.gs.Perm (g::g2::W.α.gs):=(e2.trans (hg1.cons _)).trans (.swap _ _ _)
 have hused:∀{W1:Wk} {cd1 ca1 cs1:Chunk},Wc bd ba bs W1 cd1 ca1 cs1→W1.α.gs.Perm (g::g2::W.α.gs)→W1.α.used=W.α.used+2*W.δ.size:=by
  intro W1 cd1 ca1 cs1 h1 h2
  rw[h1.ar.num.2.2.2,(h2.map (·.n)).sum_nat,h.ar.num.2.2.2];simp[hgn1,e3];omega
 repeat(first|(refine st ?_;intros)|refine G.draw [] (h:= ?_))
 rename_i ban
 have hM:=ansMore_ct bw bd ba bs W2 cd2 ca2 cs2 hW2 bx ban pf (partsF qts) LvP (by rw[e1];exact hfoP) (fun e he=>e4.mem (hsubP e he)) g (g2::W.α.gs) hg2 0 (Nat.zero_le _) cx cb (hr1.move hE2.size) T5.zero false (by rw[e1];omega)
 unfold aRow at hM
 refine R.call (hct:=hM) (h:= ?_)
 rintro _ _ ⟨cd3,ca3,W3,cx3,cb3,t3,ok3,e,rfl,rfl,hW3,hE3,hd3,hσ3,hl3,hc3⟩
 try dsimp only[List.cons_append,List.nil_append]
 have hE13:=hE12.trans hE3
 have hK3:Keep W.live W W3:=fun x hx=>by rw[hd3];exact hK2 x hx
 have hlv3:LvOf first nb W.live W3.live:=by rw[hl3];exact e4
 have hwr3:IsWr bw bx2 W3 first nb 2 pf.count g2 [] cy cc:=by
  exact e5.move hE3.size (fun x _ _=>by rw[hd3])
 rcases hc3 with⟨rfl,hg3,rfl,hok3,hr3⟩|⟨rfl,hf3,hg3,hx3⟩
 rotate_left
 ·have hD:=DropAny bw bd ba bs W3 cd3 ca3 cs2 hW3 bx2 first nb 2 pf.count g2 (W.α.gs) (W.live) cy cc (.inl ⟨hg3,hlv3,_,hwr3⟩)
  repeat(first|(refine st ?_;intros)|refine G.draw [] (h:= ?_))
  refine Go.SL.Lv.call (hc:=hD) (h:= ?_)
  rintro _ _ ⟨cdA,caA,csA,WA,cyA,ccA,rfl,hWA,hEA,hdA,hgA,hlA⟩
  try dsimp only[List.cons_append,List.nil_append]
  have hRc:=RCloseAny bw bd ba bs WA cdA caA csA hWA bx pf (partsF qts) g W.α.gs cx3 cb3 (.inr ⟨hgA,hx3⟩)
  refine Go.SL.Lv.call (hc:=hRc) (h:= ?_)
  rintro _ _ ⟨caB,αB,cxB,rfl,hWB,hEB,hgB⟩
  try dsimp only[List.cons_append,List.nil_append]
  have hEe:=(hE13).trans (hEA.trans hEB)
  have hKe:Keep W.live W {WA with α:=αB}:=fun x hx=>by show WA.δ.disk x=_;rw[hdA];exact(hK3) x hx
  (refine Go.SL.Lv.nil (Hr:=[[(bj,row [pv bw,.int .i64 0,.slice ph nh capj] 102)],wrow bw bd ba bs,cdA,caB,csA]) Tryz.results42 (hR:= ?_);exact hfin {WA with α:=αB} cdA caB csA ⟨0,0,0,0⟩ 6 _ hWB hgB (hEe.weak (Nat.le_refl _) (by omega)) (by unfold fndA;omega) hKe (.inr ⟨rfl,rfl,fault_keep hE12 hf3,hlA⟩))
 have hmin:min (0+1) pf.count=min 1 pf.count:=rfl
 rw[hok3]
 have hJ0:AnsJ ⟨bw,bx,bx2,ban,first,nb,g,g2,pf,partsF qts,vts,W.live⟩ W3 0 0 0 W3 ⟨0,0,tsat (partsF qts) 0,decide (0<pf.count),cx3,cb3,cy,cc,true,true⟩:=
  ⟨rfl,rfl,rfl,hr3,hwr3,hlv3,Keep.refl _ _,id,Nat.zero_le _,rfl,rfl,fun j x hj=>absurd hj (Nat.not_lt_zero _),fun j x _ hx=>by
   have:=hpp x (List.mem_of_getElem? hx)
   unfold okP at this
   unfold ltP;omega⟩
 have hlev0:levT vts 0=vts:=levT_zero hv1
 repeat(first|(refine st ?_;intros)|refine G.draw [] (h:= ?_))
 rename_i b13
 refine G.loop (X:=FndX) (fun x=>Wc bd ba bs x.W x.cd x.ca x.cs∧AnsJ ⟨bw,bx,bx2,ban,first,nb,g,g2,pf,partsF qts,vts,lvO x.own x.f W.live⟩ x.W x.k 0 0 x.W x.r∧x.W.α.gs.Perm (g::g2::W.α.gs)∧(∃LvF,FileOk x.W.δ.disk W.δ.size LvF x.f (levT vts x.k)∧∀e∈LvF,e∈lvO x.own x.f W.live)∧x.f.width=1∧
   Keep W.live W x.W∧Ev W x.W (1+x.k*600000) (nb+x.k*1000)∧(x.k=0→x.own=false)∧x.k≤9∧(x.own=true→x.f.blocks≤m))
  (fun x=>[(15,.int .i64 (x.k:Int)),(14,.bool x.own),(0,pv bj),(8,pv bx),(10,pv bx2),(11,pv ban),(13,pv b13),(6,pv b6)])
  (fun x=>[[(b6,row [.int .i64 0,.int .i64 0,.int .i64 0,.int .i64 0] 27)],[(b13,row [.int .i64 (x.f.first:Int),.int .i64 (x.f.blocks:Int),.int .i64 (x.f.width:Int),.int .i64 (x.f.count:Int)] 27)],[(bj,row [pv bw,.int .i64 0,.slice ph nh capj] 102)],[(ban,row [.func (.func 51) #[pv bx] #[],.int .i64 x.r.t.c0,.int .i64 x.r.t.c1,.int .i64 x.r.t.c2,.int .i64 x.r.t.c3,.int .i64 x.r.t.c4,.bool x.r.ok] 130)],wrow bw bd ba bs,x.cd,x.ca,x.cs,x.r.cx,x.r.cb,x.r.cy,x.r.cc]) (fun x=>20-x.k) ⟨0,false,vf,cd3,ca3,cs2,W3,_⟩
  ⟨hW3,hJ0,hg3,⟨LvV,by rw[hlev0];exact hfoV.keep fun x ⟨e,he,h2⟩=>hK3 x ⟨e,hsubV e he,h2⟩,hsubV⟩,hwv,hK3,hE13.weak (by dsimp only;omega) (by dsimp only;omega),fun _=>rfl,by dsimp only;omega,fun h=>by cases h⟩ (body:= ?_)
 rintro⟨k,own,f,cd4,ca4,cs4,W4,r4⟩ ⟨hW4,hJ4,hg4,⟨LvF,hfoF,hsubF⟩,hw4,hK4,hE4,hown,hk10,hfm⟩
 dsimp only at hW4 hJ4 hg4 hfoF hsubF hw4 hK4 hE4 hown hk10 hfm⊢
 have hsz4:W4.δ.size=W.δ.size:=hE4.size
 have hac4:=hE4.acts.2
 have hlF:=hfoF.len
 rw[levT_len] at hlF
 have hp2:=Nat.two_pow_pos k
 have hu4:=hused hW4 hg4
 have hrm4:W4.α.room=W.α.room:=hE4.room
 have hF4:AnsF ⟨bw,bx,bx2,ban,first,nb,g,g2,pf,partsF qts,vts,lvO own f W.live⟩ W4 LvP:=
  ⟨hlP,by rw[hsz4];exact hfoP.keep fun x ⟨e,he,h2⟩=>hK4 x ⟨e,hsubP e he,h2⟩,fun e he=>lvO_mem (hsubP e he),partsF_sorted qts,hpi,hvi,hJ4.sz,by dsimp only;omega⟩
 have hAn:=answer_ct bd ba bs _ W4 LvP hF4 k W4 cd4 ca4 cs4 hW4 r4 hJ4 W.α.gs hg4 f LvF (by rw[hsz4];exact hfoF) hsubF (by omega) (by omega) (by omega)
 have hok4:=hJ4.oo
 have hq4:=hJ4.qn
 have hhi4:=hJ4.hi
 have hrd4:=hJ4.rd
 have hwr4:=hJ4.wr
 have hlv4:=hJ4.lv
 dsimp only at hok4 hq4 hhi4 hrd4 hwr4 hlv4 hAn
 unfold aRow at hAn
 rw[hflv f] at hAn
 have hbig:∀{W1:Wk} {cd1 ca1 cs1:Chunk},Wc bd ba bs W1 cd1 ca1 cs1→W1.σ.n=W.σ.n→LvOf first nb (lvO own f W.live) W1.live→m≤big W1.σ.free:=by
  intro W1 cd1 ca1 cs1 h1 hn hlv
  obtain⟨_,_,_,_,_,hfk1,_⟩:=h1.sp
  have h2:=lvX.1 hlv
  have h3:=h2.length_eq
  have h4:=total_perm h2
  rw[total_addF] at h4
  have h5:=len_addF ⟨first,nb,0,0⟩ (lvO own f W.live)
  have h6:(lvO own f W.live).length≤W.live.length+1:=by
   unfold lvO;split
   ·exact len_addF _ _
   ·omega
  have h7:total (lvO own f W.live)≤m+total W.live:=by
   unfold lvO;split
   ·rename_i ho
    rw[total_addF]
    have:=hfm ho
    omega
   ·omega
  refine big_room h1.live hfk1 ?_
  have h8:m*(W1.live.length+1)≤m*(W.live.length+3):=Nat.mul_le_mul_left _ (by omega)
  dsimp only at h4
  rw[hn];omega
 by_cases hlt:r4.q<pf.count
 rotate_left
 ·have hqe:r4.q=pf.count:=by omega
  rw[decide_eq_false hlt] at hok4
  have hps:((partsF qts).take r4.q).map (foundT vts)=(partsF qts).map (foundT vts):=by rw[List.take_of_length_le (by omega)]
  rw[hps] at hwr4
  have hCl0:=fun (L:List Ext) (W5:Wk) (cs5:Chunk) (hW5:Wc bd ba bs W5 cd4 ca4 cs5) (hδ:W5.δ=W4.δ) (hα:W5.α=W4.α) (hl:LvOf first nb L W5.live)=>Close_w bw bd ba bs W5 cd4 ca4 cs5 hW5 bx2 first nb 2 pf.count g2 _ r4.cy r4.cc (hwr4.move (by rw[hδ]) (fun x _ _=>by rw[hδ])) (g::W.α.gs) (by rw[hα];exact hg4.trans (.swap _ _ _)) L hl (by rw[hδ];omega) (by rw[hδ,hsz4];exact hh2)
  have hlen:((partsF qts).map (foundT vts)).length=pf.count:=by rw[List.length_map];exact hlP
  cases own with
  |false=>
   have hCl:=hCl0 W.live W4 cs4 hW4 rfl rfl (by exact hlv4)
   repeat(first|(refine st ?_;intros)|refine G.draw [] (h:= ?_))
   refine R.call (hct:=hCl) (h:= ?_)
   rintro _ _ ⟨cd6,ca6,cs6,W6,cy6,cc6,f6,e6,rfl,rfl,hW6,hE6,hK6,hg6,hx6,hc6⟩
   try dsimp only[List.cons_append,List.nil_append]
   rw[hflv f6]
   have hD:=DropAny bw bd ba bs W6 cd6 ca6 cs6 hW6 bx2 first nb 2 pf.count g2 (g::W.α.gs) W6.live cy6 cc6 (.inr ⟨hg6,.refl _,hx6⟩)
   repeat(first|(refine st ?_;intros)|refine G.draw [] (h:= ?_))
   refine Go.SL.Lv.call (hc:=hD) (h:= ?_)
   rintro _ _ ⟨cdA,caA,csA,WA,cyA,ccA,rfl,hWA,hEA,hdA,hgA,hlA⟩
   try dsimp only[List.cons_append,List.nil_append]
   have hRc:=RCloseAny bw bd ba bs WA cdA caA csA hWA bx pf (partsF qts) g W.α.gs r4.cx r4.cb (.inl ⟨hgA,_,hrd4.move (by rw[hEA.size,hE6.size])⟩)
   refine Go.SL.Lv.call (hc:=hRc) (h:= ?_)
   rintro _ _ ⟨caB,αB,cxB,rfl,hWB,hEB,hgB⟩
   try dsimp only[List.cons_append,List.nil_append]
   have hEe:=(hE4).trans (hE6.trans (hEA.trans hEB))
   have hKe:Keep W.live W {WA with α:=αB}:=fun x hx=>by show WA.δ.disk x=_;rw[hdA,hK6 x hx];exact hK4 x hx
   (refine Go.SL.Lv.nil (Hr:=[[(bj,row [pv bw,.int .i64 0,.slice ph nh capj] 102)],wrow bw bd ba bs,cdA,caB,csA]) Tryz.results42 (hR:= ?_);refine hfin {WA with α:=αB} cdA caB csA f6 e6 _ hWB hgB (hEe.weak (Nat.le_refl _) (by omega)) (by unfold fndA;omega) hKe ?_)
   rcases hc6 with⟨rfl,hl6,hfw,hfc,hfo6⟩|⟨rfl,rfl,hf6,hl6⟩
   ·exact .inl ⟨rfl,hlA.trans hl6,hfw,hfc.trans hlen,by rw[hdA];rw[hsz4] at hfo6;exact hfo6⟩
   ·exact .inr ⟨rfl,rfl,fault_keep (hE4) hf6,hlA.trans hl6⟩
  |true=>
   have hFr:=Free_u bw bd ba bs W4 cd4 ca4 cs4 hW4 f (addF ⟨first,nb,0,0⟩ W.live) (LvOf.add ((lvX.1 hlv4).trans (addF_swap _ _ _)))
   rw[hflv f] at hFr
   repeat(first|(refine st ?_;intros)|refine G.draw [] (h:= ?_))
   refine R.callX (hct:=hFr) (h:= ?_)
   rintro _ _ ⟨cs5,W5,rfl,rfl,hW5,hE5,hδ5,hα5,hl5⟩
   dsimp only[List.cons_append,List.nil_append]
   constructor
   ·(·(first|(intro _ _ h;cases h;done)|(repeat(first|exact qok_nil|(apply qok_cons;(·first|(intro hc;exact absurd hc (nmem rfl))|(intro _;apply CellPr.mk;(·repeat(first|exact Has.here|apply Has.there));(first|exact rfl|assumption))|(intro _;apply CellsPr.mk;(·repeat(first|exact Has.here|apply Has.there));(first|exact rfl|assumption))))))))
   have hCl:=hCl0 W.live W5 cs5 hW5 hδ5 hα5 (lvX.2 (by rw[hl5]))
   repeat(first|(refine st ?_;intros)|refine G.draw [] (h:= ?_))
   refine R.call (hct:=hCl) (h:= ?_)
   rintro _ _ ⟨cd6,ca6,cs6,W6,cy6,cc6,f6,e6,rfl,rfl,hW6,hE6,hK6,hg6,hx6,hc6⟩
   try dsimp only[List.cons_append,List.nil_append]
   rw[hflv f6]
   have hD:=DropAny bw bd ba bs W6 cd6 ca6 cs6 hW6 bx2 first nb 2 pf.count g2 (g::W.α.gs) W6.live cy6 cc6 (.inr ⟨hg6,.refl _,hx6⟩)
   repeat(first|(refine st ?_;intros)|refine G.draw [] (h:= ?_))
   refine Go.SL.Lv.call (hc:=hD) (h:= ?_)
   rintro _ _ ⟨cdA,caA,csA,WA,cyA,ccA,rfl,hWA,hEA,hdA,hgA,hlA⟩
   try dsimp only[List.cons_append,List.nil_append]
   have hRc:=RCloseAny bw bd ba bs WA cdA caA csA hWA bx pf (partsF qts) g W.α.gs r4.cx r4.cb (.inl ⟨hgA,_,hrd4.move (by rw[hEA.size,hE6.size,hδ5])⟩)
   refine Go.SL.Lv.call (hc:=hRc) (h:= ?_)
   rintro _ _ ⟨caB,αB,cxB,rfl,hWB,hEB,hgB⟩
   try dsimp only[List.cons_append,List.nil_append]
   have hEe:=(hE4.trans hE5).trans (hE6.trans (hEA.trans hEB))
   have hKe:Keep W.live W {WA with α:=αB}:=fun x hx=>by show WA.δ.disk x=_;rw[hdA,hK6 x hx,hδ5];exact hK4 x hx
   (refine Go.SL.Lv.nil (Hr:=[[(bj,row [pv bw,.int .i64 0,.slice ph nh capj] 102)],wrow bw bd ba bs,cdA,caB,csA]) Tryz.results42 (hR:= ?_);refine hfin {WA with α:=αB} cdA caB csA f6 e6 _ hWB hgB (hEe.weak (Nat.le_refl _) (by omega)) (by unfold fndA;omega) hKe ?_)
   rcases hc6 with⟨rfl,hl6,hfw,hfc,hfo6⟩|⟨rfl,rfl,hf6,hl6⟩
   ·exact .inl ⟨rfl,hlA.trans hl6,hfw,hfc.trans hlen,by rw[hdA];rw[hδ5,hsz4] at hfo6;exact hfo6⟩
   ·exact .inr ⟨rfl,rfl,fault_keep (hE4.trans hE5) hf6,hlA.trans hl6⟩
 rw[decide_eq_true hlt] at hok4
 have htg:(partsF qts)[r4.q]? =some (partsF qts)[r4.q]:=List.getElem?_eq_getElem (by omega)
 have hpk:=hpp _ (List.getElem_mem (l:=partsF qts) (n:=r4.q) (by omega))
 have hkq:=hhi4 r4.q _ (Nat.le_refl _) htg
 have hkn:2^k≤vts.length:=by
  unfold okP at hpk
  unfold ltP at hkq
  have h1:k≤(partsF qts)[r4.q].c0.toNat:=by omega
  have h2:=Nat.pow_le_pow_right (n:=2) (by omega) h1
  omega
 have hk8:k≤8:=by
  rcases Nat.lt_or_ge k 9 with h1|h1
  ·omega
  ·have h2:=Nat.pow_le_pow_right (n:=2) (by omega) h1
   have:2^9=512:=by decide
   omega
 have hwk:IntKind.wrap .i64 ((k:Int)+1)=((k+1:Nat):Int):=by rw[wrap_i64 (by omega)];omega
 have hk512:2^k≤512:=by omega
 have hsh:IntKind.wrap .i64 (1*2^(min ((k:Nat):Int).toNat IntKind.i64.bits))=((2^k:Nat):Int):=by
  have h1:min ((k:Nat):Int).toNat IntKind.i64.bits=k:=by
   rw[Int.toNat_natCast];exact Nat.min_eq_left (by show k≤64;omega)
  rw[h1]
  have h2:(1:Int)*2^k=((2^k:Nat):Int):=by rw[Int.one_mul];simp
  rw[h2];exact wrap_i64 (by omega)
 repeat(first|(refine st ?_;intros)|refine G.draw [] (h:= ?_))
 refine R.callX (hct:=hAn) (h:= ?_)
 rintro _ _ ⟨cd5,ca5,cs5,W5,r5,e,rfl,rfl,hW5,hE5,hg5,hJ5,hB5⟩
 dsimp only[List.cons_append,List.nil_append]
 constructor
 ·(·(first|(intro _ _ h;cases h;done)|(repeat(first|exact qok_nil|(apply qok_cons;(·first|(intro hc;exact absurd hc (nmem rfl))|(intro _;apply CellPr.mk;(·repeat(first|exact Has.here|apply Has.there));(first|exact rfl|assumption))|(intro _;apply CellsPr.mk;(·repeat(first|exact Has.here|apply Has.there));(first|exact rfl|assumption))))))))
 have hfc5:f.count+f.count*(2*pf.count)≤500+500*(2*500):=by
  have:f.count*(2*pf.count)≤500*(2*500):=Nat.mul_le_mul (by omega) (by omega)
  omega
 have hE45:=hE4.trans hE5
 have hac5:=hE45.acts.2
 by_cases he:e=0
 rotate_left
 ·cases own with
  |false=>
   obtain⟨e6,hfl5,hkp5,hrd5,hwr5⟩:=hB5 he
   dsimp only at hkp5 hrd5 hwr5
   subst e6
   have hK5:Keep W.live W W5:=hK4.trans (hkp5.sub fun e he=>lvO_mem he)
   have hwr6:WSt bw bx2 first nb 2 pf.count g2 (if r5.ro=true then g::W.α.gs else W.α.gs) W.live W5 r5.cy r5.cc:=by
    rcases hwr5 with⟨a,b,ps,c⟩|⟨a,b,c⟩
    ·refine .inl ⟨?_,b,ps,c⟩
     refine hg5.trans ?_;unfold ansOwn;rw[a];cases r5.ro<;>simp[List.Perm.swap]
    ·refine .inr ⟨?_,b,c⟩
     refine hg5.trans ?_;unfold ansOwn;rw[a];cases r5.ro<;>simp
   have hrd6:∀(WA:Wk),WA.δ.size=W5.δ.size→WA.α.gs.Perm (if r5.ro=true then g::W.α.gs else W.α.gs)→RSt bw bx pf (partsF qts) g W.α.gs WA r5.cx r5.cb:=by
    intro WA hs hgs
    rcases hrd5 with⟨a,pos,b⟩|⟨a,b⟩
    ·rw[if_pos a] at hgs;exact .inl ⟨hgs,pos,b.move hs⟩
    ·rw[if_neg (by rw[a];decide)] at hgs;exact .inr ⟨hgs,b⟩
   have hD:=DropAny bw bd ba bs W5 cd5 ca5 cs5 hW5 bx2 first nb 2 pf.count g2 (if r5.ro=true then g::W.α.gs else W.α.gs) (W.live) r5.cy r5.cc (hwr6)
   repeat(first|(refine st ?_;intros)|refine G.draw [] (h:= ?_))
   refine Go.SL.Lv.call (hc:=hD) (h:= ?_)
   rintro _ _ ⟨cdA,caA,csA,WA,cyA,ccA,rfl,hWA,hEA,hdA,hgA,hlA⟩
   try dsimp only[List.cons_append,List.nil_append]
   have hRc:=RCloseAny bw bd ba bs WA cdA caA csA hWA bx pf (partsF qts) g W.α.gs r5.cx r5.cb (hrd6 WA hEA.size hgA)
   refine Go.SL.Lv.call (hc:=hRc) (h:= ?_)
   rintro _ _ ⟨caB,αB,cxB,rfl,hWB,hEB,hgB⟩
   try dsimp only[List.cons_append,List.nil_append]
   have hEe:=(hE45).trans (hEA.trans hEB)
   have hKe:Keep W.live W {WA with α:=αB}:=fun x hx=>by show WA.δ.disk x=_;rw[hdA];exact(hK5) x hx
   (refine Go.SL.Lv.nil (Hr:=[[(bj,row [pv bw,.int .i64 0,.slice ph nh capj] 102)],wrow bw bd ba bs,cdA,caB,csA]) Tryz.results42 (hR:= ?_);exact hfin {WA with α:=αB} cdA caB csA ⟨0,0,0,0⟩ 6 _ hWB hgB (hEe.weak (Nat.le_refl _) (by omega)) (by unfold fndA;omega) hKe (.inr ⟨rfl,rfl,fault_keep hE4 hfl5,hlA⟩))
  |true=>
   obtain⟨e6,hfl5,hkp5,hrd5,hwr5⟩:=hB5 he
   dsimp only at hkp5 hrd5 hwr5
   subst e6
   have hK5:Keep W.live W W5:=hK4.trans (hkp5.sub fun e he=>lvO_mem he)
   have hlx:W5.live.Perm (addF f (if r5.wo=true then addF ⟨first,nb,0,0⟩ W.live else W.live)):=by
    rcases hwr5 with⟨a,b,_⟩|⟨a,b,_⟩
    ·rw[if_pos a];exact(lvX.1 b).trans (addF_swap _ _ _)
    ·rw[if_neg (by rw[a];decide)];exact b
   have hFr:=Free_u bw bd ba bs W5 cd5 ca5 cs5 hW5 f _ (LvOf.add hlx)
   rw[hflv f] at hFr
   repeat(first|(refine st ?_;intros)|refine G.draw [] (h:= ?_))
   refine R.callX (hct:=hFr) (h:= ?_)
   rintro _ _ ⟨cs6,W6,rfl,rfl,hW6,hE6,hδ6,hα6,hl6⟩
   dsimp only[List.cons_append,List.nil_append]
   constructor
   ·(·(first|(intro _ _ h;cases h;done)|(repeat(first|exact qok_nil|(apply qok_cons;(·first|(intro hc;exact absurd hc (nmem rfl))|(intro _;apply CellPr.mk;(·repeat(first|exact Has.here|apply Has.there));(first|exact rfl|assumption))|(intro _;apply CellsPr.mk;(·repeat(first|exact Has.here|apply Has.there));(first|exact rfl|assumption))))))))
   have hE46:=hE45.trans hE6
   have hwr6:WSt bw bx2 first nb 2 pf.count g2 (if r5.ro=true then g::W.α.gs else W.α.gs) W.live W6 r5.cy r5.cc:=by
    rcases hwr5 with⟨a,b,ps,c⟩|⟨a,b,c⟩
    ·refine .inl ⟨?_,lvX.2 (by rw[hl6,if_pos a]),ps,c.move hE6.size (fun x _ _=>by rw[hδ6])⟩
     rw[hα6];refine hg5.trans ?_;unfold ansOwn;rw[a];cases r5.ro<;>simp[List.Perm.swap]
    ·refine .inr ⟨?_,by rw[hl6,if_neg (by rw[a];decide)],c⟩
     rw[hα6];refine hg5.trans ?_;unfold ansOwn;rw[a];cases r5.ro<;>simp
   have hKx:Keep W.live W W6:=fun x hx=>by rw[hδ6];exact hK5 x hx
   have hrd6:∀(WA:Wk),WA.δ.size=W5.δ.size→WA.α.gs.Perm (if r5.ro=true then g::W.α.gs else W.α.gs)→RSt bw bx pf (partsF qts) g W.α.gs WA r5.cx r5.cb:=by
    intro WA hs hgs
    rcases hrd5 with⟨a,pos,b⟩|⟨a,b⟩
    ·rw[if_pos a] at hgs;exact .inl ⟨hgs,pos,b.move hs⟩
    ·rw[if_neg (by rw[a];decide)] at hgs;exact .inr ⟨hgs,b⟩
   have hD:=DropAny bw bd ba bs W6 cd5 ca5 cs6 hW6 bx2 first nb 2 pf.count g2 (if r5.ro=true then g::W.α.gs else W.α.gs) (W.live) r5.cy r5.cc (hwr6)
   repeat(first|(refine st ?_;intros)|refine G.draw [] (h:= ?_))
   refine Go.SL.Lv.call (hc:=hD) (h:= ?_)
   rintro _ _ ⟨cdA,caA,csA,WA,cyA,ccA,rfl,hWA,hEA,hdA,hgA,hlA⟩
   try dsimp only[List.cons_append,List.nil_append]
   have hRc:=RCloseAny bw bd ba bs WA cdA caA csA hWA bx pf (partsF qts) g W.α.gs r5.cx r5.cb (hrd6 WA (by rw[hEA.size,hE6.size]) hgA)
   refine Go.SL.Lv.call (hc:=hRc) (h:= ?_)
   rintro _ _ ⟨caB,αB,cxB,rfl,hWB,hEB,hgB⟩
   try dsimp only[List.cons_append,List.nil_append]
   have hEe:=(hE46).trans (hEA.trans hEB)
   have hKe:Keep W.live W {WA with α:=αB}:=fun x hx=>by show WA.δ.disk x=_;rw[hdA];exact(hKx) x hx
   (refine Go.SL.Lv.nil (Hr:=[[(bj,row [pv bw,.int .i64 0,.slice ph nh capj] 102)],wrow bw bd ba bs,cdA,caB,csA]) Tryz.results42 (hR:= ?_);exact hfin {WA with α:=αB} cdA caB csA ⟨0,0,0,0⟩ 6 _ hWB hgB (hEe.weak (Nat.le_refl _) (by omega)) (by unfold fndA;omega) hKe (.inr ⟨rfl,rfl,fault_keep hE4 hfl5,hlA⟩))
 subst he
 have hJ5:=hJ5 rfl
 obtain⟨hro5,hwo5,hpl5,hrd5,hwr5,hlv5,hkp5,hfl5,hqn5,htt5,hoo5,hlo5,hhi5⟩:=id hJ5
 dsimp only at hro5 hwo5 hpl5 hrd5 hwr5 hlv5 hkp5 hfl5 hqn5 htt5 hoo5 hlo5 hhi5
 have hg5':W5.α.gs.Perm (g::g2::W.α.gs):=by simpa[ansOwn,hro5,hwo5] using hg5
 have hsz5:W5.δ.size=W.δ.size:=hE45.size
 have hK5:Keep W.live W W5:=hK4.trans (hkp5.sub fun e he=>lvO_mem he)
 have hu5:=hused hW5 hg5'
 have hrm5:W5.α.room=W.α.room:=hE45.room
 have hb5:=hbig hW5 hE45.n hlv5
 have hnl:nblocks W5.δ.size 1 (f.count-2^k)≤m:=by
  rw[hsz5]
  exact Nat.le_trans (nblocks_mono (by omega)) hm2
 have hLe:=level_ct bw bd ba bs W5 cd5 ca5 cs5 hW5 f (levT vts k) LvF (by rw[hsz5];exact hfoF.keep fun x ⟨e,he,h2⟩=>hkp5 x ⟨e,hsubF e he,h2⟩) (fun e he=>hlv5.mem (hsubF e he)) hw4 (2^k) (by omega) (by omega) (by omega) (by omega) (by omega)
 rw[hflv f,levT_succ] at hLe
 repeat(first|(refine st ?_;intros)|refine G.draw [] (h:= ?_))
 refine R.callX (hct:=hLe) (h:= ?_)
 rintro _ _ ⟨cd6,ca6,cs6,W6,up,e,rfl,rfl,hW6,hE6,hK6,hg6,hc6⟩
 dsimp only[List.cons_append,List.nil_append]
 constructor
 ·(·(first|(intro _ _ h;cases h;done)|(repeat(first|exact qok_nil|(apply qok_cons;(·first|(intro hc;exact absurd hc (nmem rfl))|(intro _;apply CellPr.mk;(·repeat(first|exact Has.here|apply Has.there));(first|exact rfl|assumption))|(intro _;apply CellsPr.mk;(·repeat(first|exact Has.here|apply Has.there));(first|exact rfl|assumption))))))))
 rw[hflv up]
 have hE46:=hE45.trans hE6
 have hac6:=hE46.acts.2
 have hsz6:W6.δ.size=W.δ.size:=hE46.size
 have hg6':W6.α.gs.Perm (g::g2::W.α.gs):=hg6.trans hg5'
 have hK6':Keep W.live W W6:=hK5.trans (hK6.sub fun e he=>hlv5.mem (lvO_mem he))
 have hrd6:IsRd bw bx W6 pf (partsF qts) g (min (r5.q+1) pf.count) r5.cx r5.cb:=hrd5.move hE6.size
 have hwr6:IsWr bw bx2 W6 first nb 2 pf.count g2 (((partsF qts).take r5.q).map (foundT vts)) r5.cy r5.cc:=hwr5.move hE6.size (fun x h1 h2=>by
  by_cases hn0:nb=0
  ·omega
  ·refine hK6 x ⟨(first,nb),(lvX.1 hlv5).mem_iff.2 ?_,h1,h2⟩
   unfold addF;rw[if_neg hn0];exact List.mem_cons_self)
 have hlo6:∀j x,j<r5.q→(partsF qts)[j]? =some x→ltP x (k+1) 0:=fun j x hj hx=>by
  have:=hlo5 j x hj hx
  unfold ltP at this⊢;omega
 have hhi6:∀j x,r5.q≤j→(partsF qts)[j]? =some x→¬ltP x (k+1) 0:=fun j x hj hx=>by
  have h1:=hhi5 j x hj hx
  have h2:=hpp x (List.mem_of_getElem? hx)
  unfold okP at h2
  unfold ltP at h1⊢
  by_cases hck:x.c0=(k:Int)
  ·exfalso
   rw[hck,Int.toNat_natCast] at h2
   omega
  ·omega
 rcases hc6 with⟨rfl,hl6,hfw6,hfc6,hfo6⟩|⟨rfl,rfl,hf6,hl6⟩
 ·cases own with
  |false=>
   repeat(first|(refine st ?_;intros)|refine G.draw [] (h:= ?_))
   refine Dn.round ⟨k+1,true,up,cd6,ca6,cs6,W6,{r5 with i:=0}⟩ ⟨hW6,⟨hro5,hwo5,rfl,hrd6,hwr6,lvX.2 (hl6.trans ((addF_perm (lvX.1 hlv5)).trans (addF_swap _ _ _))),Keep.refl _ _,id,hqn5,htt5,hoo5,hlo6,hhi6⟩,by exact hg6',?_,hfw6,hK6',hE46.weak (by dsimp only;omega) (by dsimp only;omega),fun h=>absurd h (by dsimp only;omega),by dsimp only;omega,fun _=> ?_⟩ (by dsimp only;omega)
   ·have h1:FileOk W6.δ.disk W.δ.size [up.ext] up (levT vts (k+1)):=by rw[←hsz5];exact hfo6
    by_cases hub:up.blocks=0
    ·exact⟨[],{h1 with live:=fun h=>absurd hub h},fun e he=>by cases he⟩
    ·refine⟨[up.ext],h1,fun e he=> ?_⟩
     simp only[List.mem_singleton] at he;subst he
     show up.ext∈addF up W.live
     unfold addF;rw[if_neg hub];exact List.mem_cons_self
   ·dsimp only;rw[hfo6.blk,hfw6,hfc6];exact hnl
  |true=>
   have hlx:W6.live.Perm (addF f (addF ⟨first,nb,0,0⟩ (addF up W.live))):=by
    refine hl6.trans ((addF_perm (lvX.1 hlv5)).trans ?_)
    refine(addF_perm (addF_swap _ _ _)).trans ((addF_swap _ _ _).trans (addF_perm (addF_swap _ _ _)))
   have hFr:=Free_u bw bd ba bs W6 cd6 ca6 cs6 hW6 f _ (LvOf.add hlx)
   rw[hflv f] at hFr
   repeat(first|(refine st ?_;intros)|refine G.draw [] (h:= ?_))
   refine R.callX (hct:=hFr) (h:= ?_)
   rintro _ _ ⟨cs7,W7,rfl,rfl,hW7,hE7,hδ7,hα7,hl7⟩
   dsimp only[List.cons_append,List.nil_append]
   constructor
   ·(·(first|(intro _ _ h;cases h;done)|(repeat(first|exact qok_nil|(apply qok_cons;(·first|(intro hc;exact absurd hc (nmem rfl))|(intro _;apply CellPr.mk;(·repeat(first|exact Has.here|apply Has.there));(first|exact rfl|assumption))|(intro _;apply CellsPr.mk;(·repeat(first|exact Has.here|apply Has.there));(first|exact rfl|assumption))))))))
   repeat(first|(refine st ?_;intros)|refine G.draw [] (h:= ?_))
   refine Dn.round ⟨k+1,true,up,cd6,ca6,cs7,W7,{r5 with i:=0}⟩ ⟨hW7,⟨hro5,hwo5,rfl,hrd6.move hE7.size,hwr6.move hE7.size (fun x _ _=>by rw[hδ7]),lvX.2 (by rw[hl7];exact .refl _),Keep.refl _ _,id,hqn5,htt5,hoo5,hlo6,hhi6⟩,by rw[hα7];exact hg6',?_,hfw6,fun x hx=>by rw[hδ7];exact hK6' x hx,(hE46.trans hE7).weak (by dsimp only;omega) (by dsimp only;omega),fun h=>absurd h (by dsimp only;omega),by dsimp only;omega,fun _=> ?_⟩ (by dsimp only;omega)
   ·have h1:FileOk W7.δ.disk W.δ.size [up.ext] up (levT vts (k+1)):=by rw[hδ7,←hsz5];exact hfo6
    by_cases hub:up.blocks=0
    ·exact⟨[],{h1 with live:=fun h=>absurd hub h},fun e he=>by cases he⟩
    ·refine⟨[up.ext],h1,fun e he=> ?_⟩
     simp only[List.mem_singleton] at he;subst he
     show up.ext∈addF up W.live
     unfold addF;rw[if_neg hub];exact List.mem_cons_self
   ·dsimp only;rw[hfo6.blk,hfw6,hfc6];exact hnl
 ·cases own with
  |false=>
   have hD:=DropAny bw bd ba bs W6 cd6 ca6 cs6 hW6 bx2 first nb 2 pf.count g2 (g::W.α.gs) (W.live) r5.cy r5.cc (.inl ⟨hg6'.trans (.swap _ _ _),lvX.2 (hl6.trans (lvX.1 hlv5)),_,hwr6⟩)
   repeat(first|(refine st ?_;intros)|refine G.draw [] (h:= ?_))
   refine Go.SL.Lv.call (hc:=hD) (h:= ?_)
   rintro _ _ ⟨cdA,caA,csA,WA,cyA,ccA,rfl,hWA,hEA,hdA,hgA,hlA⟩
   try dsimp only[List.cons_append,List.nil_append]
   have hRc:=RCloseAny bw bd ba bs WA cdA caA csA hWA bx pf (partsF qts) g W.α.gs r5.cx r5.cb (.inl ⟨hgA,_,(hrd6.move hEA.size)⟩)
   refine Go.SL.Lv.call (hc:=hRc) (h:= ?_)
   rintro _ _ ⟨caB,αB,cxB,rfl,hWB,hEB,hgB⟩
   try dsimp only[List.cons_append,List.nil_append]
   have hEe:=(hE46).trans (hEA.trans hEB)
   have hKe:Keep W.live W {WA with α:=αB}:=fun x hx=>by show WA.δ.disk x=_;rw[hdA];exact(hK6') x hx
   (refine Go.SL.Lv.nil (Hr:=[[(bj,row [pv bw,.int .i64 0,.slice ph nh capj] 102)],wrow bw bd ba bs,cdA,caB,csA]) Tryz.results42 (hR:= ?_);exact hfin {WA with α:=αB} cdA caB csA ⟨0,0,0,0⟩ 6 _ hWB hgB (hEe.weak (Nat.le_refl _) (by omega)) (by unfold fndA;omega) hKe (.inr ⟨rfl,rfl,fault_keep hE45 hf6,hlA⟩))
  |true=>
   have hlx:W6.live.Perm (addF f (addF ⟨first,nb,0,0⟩ W.live)):=hl6.trans ((lvX.1 hlv5).trans (addF_swap _ _ _))
   have hFr:=Free_u bw bd ba bs W6 cd6 ca6 cs6 hW6 f _ (LvOf.add hlx)
   rw[hflv f] at hFr
   repeat(first|(refine st ?_;intros)|refine G.draw [] (h:= ?_))
   refine R.callX (hct:=hFr) (h:= ?_)
   rintro _ _ ⟨cs7,W7,rfl,rfl,hW7,hE7,hδ7,hα7,hl7⟩
   dsimp only[List.cons_append,List.nil_append]
   constructor
   ·(·(first|(intro _ _ h;cases h;done)|(repeat(first|exact qok_nil|(apply qok_cons;(·first|(intro hc;exact absurd hc (nmem rfl))|(intro _;apply CellPr.mk;(·repeat(first|exact Has.here|apply Has.there));(first|exact rfl|assumption))|(intro _;apply CellsPr.mk;(·repeat(first|exact Has.here|apply Has.there));(first|exact rfl|assumption))))))))
   have hKx:Keep W.live W W7:=fun x hx=>by rw[hδ7];exact hK6' x hx
   have hD:=DropAny bw bd ba bs W7 cd6 ca6 cs7 hW7 bx2 first nb 2 pf.count g2 (g::W.α.gs) (W.live) r5.cy r5.cc (.inl ⟨by rw[hα7];exact hg6'.trans (.swap _ _ _),lvX.2 (by rw[hl7]),_,hwr6.move hE7.size (fun x _ _=>by rw[hδ7])⟩)
   repeat(first|(refine st ?_;intros)|refine G.draw [] (h:= ?_))
   refine Go.SL.Lv.call (hc:=hD) (h:= ?_)
   rintro _ _ ⟨cdA,caA,csA,WA,cyA,ccA,rfl,hWA,hEA,hdA,hgA,hlA⟩
   try dsimp only[List.cons_append,List.nil_append]
   have hRc:=RCloseAny bw bd ba bs WA cdA caA csA hWA bx pf (partsF qts) g W.α.gs r5.cx r5.cb (.inl ⟨hgA,_,(hrd6.move (hE7.trans hEA).size)⟩)
   refine Go.SL.Lv.call (hc:=hRc) (h:= ?_)
   rintro _ _ ⟨caB,αB,cxB,rfl,hWB,hEB,hgB⟩
   try dsimp only[List.cons_append,List.nil_append]
   have hEe:=((hE46.trans hE7)).trans (hEA.trans hEB)
   have hKe:Keep W.live W {WA with α:=αB}:=fun x hx=>by show WA.δ.disk x=_;rw[hdA];exact(hKx) x hx
   (refine Go.SL.Lv.nil (Hr:=[[(bj,row [pv bw,.int .i64 0,.slice ph nh capj] 102)],wrow bw bd ba bs,cdA,caB,csA]) Tryz.results42 (hR:= ?_);exact hfin {WA with α:=αB} cdA caB csA ⟨0,0,0,0⟩ 6 _ hWB hgB (hEe.weak (Nat.le_refl _) (by omega)) (by unfold fndA;omega) hKe (.inr ⟨rfl,rfl,fault_keep hE45 hf6,hlA⟩))
def chkQ (bn n:Nat):Maker Unit:=⟨fun _=>[[(bn,row [.int .i64 (n:Int)] 3)]],fun _ t=>if okQ n t then[⟨t.c0,0,0,0,0⟩] else[],fun _ _=>(),fun _ t=>if okQ n t then none else some 3⟩
theorem chkQ_C (bn n:Nat) (k:Unit):(chkQ bn n).C k=[[(bn,row [.int .i64 (n:Int)] 3)]]:=rfl
theorem chkQ_mk (bn n:Nat):MakeU (chkQ bn n) 1 (fun _ t=>okT 3 t) 67 [] [pv bn]:=by
 rintro bx Pst Br bnd hP ps X ⟨⟩ t hX hk hb
 have htv:tv t= .agg #[.int .i64 t.c0,.int .i64 t.c1,.int .i64 t.c2,.int .i64 t.c3,.int .i64 t.c4]:=rfl
 rw[htv]
 unfold putV
 simp only[List.nil_append,List.cons_append]
 show Ct _ _ _ [X,[(bn,row [.int .i64 (n:Int)] 3)]] _
 have ti:=okT_cols hk
 by_cases h:okQ n t
 ·simp only[chkQ,if_pos h,List.length_singleton] at hb
  have hP1:=hP ps X ⟨t.c0,0,0,0,0⟩ hX (okT1 ti.1) hb
  unfold okQ at h
  obtain⟨h0,h1,h2,h3⟩:=h
  refine Ct.intro Tryz.func67 rfl Tryz.ntmps67 (nle rfl) fun w0=> ?_;dsimp only[argSlots,Nat.reduceAdd]
  repeat(refine st ?_;intros)
  refine R.callV (hct:=by exact hP1) (h:= ?_)
  rintro _ _ ⟨X',rfl,⟨rfl,hX'⟩|⟨rfl,hB⟩⟩
  try dsimp only[List.cons_append,List.nil_append]
  ·repeat(refine st ?_;intros)
   (refine Dn.post (Hr:=[X',[(bn,row [.int .i64 (n:Int)] 3)]]) Tryz.results67 (hR:= ?_);exact⟨X',(),rfl,.inl ⟨rfl,if_pos ⟨h0,h1,h2,h3⟩,(by trivial),by simpa[chkQ,okQ,h0,h1,h2,h3] using hX'⟩⟩)
  ·repeat(refine st ?_;intros)
   (refine Dn.post (Hr:=[X',[(bn,row [.int .i64 (n:Int)] 3)]]) Tryz.results67 (hR:= ?_);exact⟨X',(),rfl,.inr (.inl ⟨rfl,hB⟩)⟩)
 ·have hn:(chkQ bn n).err () t=some 3:=if_neg h
  unfold okQ at h
  by_cases h0:t.c0<0
  ·refine Ct.intro Tryz.func67 rfl Tryz.ntmps67 (nle rfl) fun w0=> ?_;dsimp only[argSlots,Nat.reduceAdd]
   repeat(refine st ?_;intros)
   (refine Dn.post (Hr:=[X,[(bn,row [.int .i64 (n:Int)] 3)]]) Tryz.results67 (hR:= ?_);exact⟨X,(),rfl,.inr (.inr ⟨3,hn,by decide,rfl,ps,hX⟩)⟩)
  by_cases h1:t.c1<0
  ·refine Ct.intro Tryz.func67 rfl Tryz.ntmps67 (nle rfl) fun w0=> ?_;dsimp only[argSlots,Nat.reduceAdd]
   repeat(refine st ?_;intros)
   (refine Dn.post (Hr:=[X,[(bn,row [.int .i64 (n:Int)] 3)]]) Tryz.results67 (hR:= ?_);exact⟨X,(),rfl,.inr (.inr ⟨3,hn,by decide,rfl,ps,hX⟩)⟩)
  by_cases h2:t.c2<t.c1
  ·refine Ct.intro Tryz.func67 rfl Tryz.ntmps67 (nle rfl) fun w0=> ?_;dsimp only[argSlots,Nat.reduceAdd]
   repeat(refine st ?_;intros)
   (refine Dn.post (Hr:=[X,[(bn,row [.int .i64 (n:Int)] 3)]]) Tryz.results67 (hR:= ?_);exact⟨X,(),rfl,.inr (.inr ⟨3,hn,by decide,rfl,ps,hX⟩)⟩)
  have h3:(n:Int)≤t.c2:=by omega
  refine Ct.intro Tryz.func67 rfl Tryz.ntmps67 (nle rfl) fun w0=> ?_;dsimp only[argSlots,Nat.reduceAdd]
  repeat(refine st ?_;intros)
  (refine Dn.post (Hr:=[X,[(bn,row [.int .i64 (n:Int)] 3)]]) Tryz.results67 (hR:= ?_);exact⟨X,(),rfl,.inr (.inr ⟨3,hn,by decide,rfl,ps,hX⟩)⟩)
def halfM:Maker Unit:=⟨fun _=>[],fun _ t=>halfT t,fun _ _=>(),fun _ _=>none⟩
theorem halfM_all:∀(ts:List T5) (k:Unit),halfM.all k ts=ts.flatMap halfT
 |[],_=>rfl
 |t::ts,k=>by simp only[Maker.all,halfM_all ts,List.flatMap_cons];rfl
theorem halfT_okT {n:Nat} {q:T5} (h:okQ n q) (hn:n≤10000) (hk:okT 3 q):∀p∈halfT q,okT 3 p:=by
 have h1:=lgQ_is h
 have h2:=Nat.two_pow_pos (lgQ q)
 have h3:lgQ q≤14:=by
  rcases Nat.lt_or_ge (lgQ q) 15 with h|h4
  ·omega
  ·have h5:=Nat.pow_le_pow_right (n:=2) (by omega) h4
   have:2^15=32768:=by decide
   unfold okQ at h
   omega
 have ti:=okT_cols hk
 unfold okQ at h
 intro p hp
 unfold halfT at hp
 simp only[List.mem_cons,List.not_mem_nil,or_false] at hp
 rcases hp with rfl|rfl
 ·exact okT3 (by unfold inI64;omega) ti.2.1 ti.1
 ·exact okT3 (by unfold inI64;omega) (by unfold inI64;omega) ti.1
theorem half_mk (n:Nat) (hn:n≤10000):MakeU halfM 3 (fun _ t=>okT 3 t∧okQ n t) 69 [] []:=by
 rintro bx Pst Br bnd hP ps X ⟨⟩ t hX ⟨hk,hq⟩ hb
 have htv:tv t= .agg #[.int .i64 t.c0,.int .i64 t.c1,.int .i64 t.c2,.int .i64 t.c3,.int .i64 t.c4]:=rfl
 rw[htv]
 unfold putV
 simp only[List.nil_append,List.cons_append]
 show Ct _ _ _ [X] _
 have hok:=halfT_okT hq hn hk
 have h1:=lgQ_is hq
 have h2:=Nat.two_pow_pos (lgQ t)
 have hb':ps.length+2≤bnd:=hb
 have hP1:=hP ps X ⟨(lgQ t:Int),t.c1,t.c0,0,0⟩ hX (hok _ (by simp[halfT])) (by omega)
 have hP2:=fun X' h=>hP (ps++[⟨(lgQ t:Int),t.c1,t.c0,0,0⟩]) X' ⟨(lgQ t:Int),t.c2-((2^lgQ t:Nat):Int)+1,t.c0,0,0⟩ h (hok _ (by simp[halfT])) (by rw[List.length_append,List.length_singleton];omega)
 have h3:lgQ t≤14:=by
  rcases Nat.lt_or_ge (lgQ t) 15 with h|h4
  ·omega
  ·have h5:=Nat.pow_le_pow_right (n:=2) (by omega) h4
   have:2^15=32768:=by decide
   unfold okQ at hq
   omega
 unfold okQ at hq
 obtain⟨x,hx⟩:∃x:Nat,t.c2-t.c1+1=(x:Int):=⟨(t.c2-t.c1+1).toNat,by omega⟩
 have hlx:lgQ t=Nat.log2 x:=by unfold lgQ;rw[hx,Int.toNat_natCast]
 have hbl:bitLen x=lgQ t+1:=by unfold bitLen;rw[if_neg (by omega),←hlx]
 have hL:=len64c x (by omega)
 rw[hbl] at hL
 have e1:IntKind.wrap .i64 (t.c2-t.c1)=t.c2-t.c1:=wrap_i64 (by omega)
 have e2:IntKind.wrap .i64 (t.c2-t.c1+1)=(x:Int):=by rw[hx];exact wrap_i64 (by omega)
 have e3:IntKind.wrap .u64 (x:Int)=(x:Int):=wrap_u64 (by omega)
 have e4:IntKind.wrap .i64 (((lgQ t+1:Nat):Int)-1)=(lgQ t:Int):=by rw[wrap_i64 (by omega)];omega
 have hsh:IntKind.wrap .i64 (1*2^(min ((lgQ t:Nat):Int).toNat IntKind.i64.bits))=((2^lgQ t:Nat):Int):=by
  have h1:min ((lgQ t:Nat):Int).toNat IntKind.i64.bits=lgQ t:=by
   rw[Int.toNat_natCast];exact Nat.min_eq_left (by show lgQ t≤64;omega)
  rw[h1]
  have h2:(1:Int)*2^(lgQ t)=((2^lgQ t:Nat):Int):=by rw[Int.one_mul];simp
  rw[h2];exact wrap_i64 (by omega)
 have e5:IntKind.wrap .i64 (t.c2-((2^lgQ t:Nat):Int))=t.c2-((2^lgQ t:Nat):Int):=wrap_i64 (by omega)
 have e6:IntKind.wrap .i64 (t.c2-((2^lgQ t:Nat):Int)+1)=t.c2-((2^lgQ t:Nat):Int)+1:=wrap_i64 (by omega)
 refine Ct.intro Tryz.func69 rfl Tryz.ntmps69 (nle rfl) fun w0=> ?_;dsimp only[argSlots,Nat.reduceAdd]
 repeat(first|(refine st ?_;intros)|refine G.draw [] (h:= ?_))
 refine R.call (hct:=hL) (h:= ?_)
 rintro _ _ ⟨rfl,rfl⟩
 try dsimp only[List.cons_append,List.nil_append]
 repeat(first|(refine st ?_;intros)|refine G.draw [] (h:= ?_))
 refine R.callV (hct:=by exact hP1) (h:= ?_)
 rintro _ _ ⟨X',rfl,⟨rfl,hX'⟩|⟨rfl,hB⟩⟩
 try dsimp only[List.cons_append,List.nil_append]
 ·have hP3:=hP2 X' hX'
  repeat(first|(refine st ?_;intros)|refine G.draw [] (h:= ?_))
  refine R.callV (hct:=by exact hP3) (h:= ?_)
  rintro _ _ ⟨X2,rfl,⟨rfl,hX2⟩|⟨rfl,hB⟩⟩
  try dsimp only[List.cons_append,List.nil_append]
  ·repeat(first|(refine st ?_;intros)|refine G.draw [] (h:= ?_))
   (refine Dn.post (Hr:=[X2]) Tryz.results69 (hR:= ?_);exact⟨X2,(),rfl,.inl ⟨rfl,rfl,(by trivial),by simpa[halfM,halfT] using hX2⟩⟩)
  ·repeat(first|(refine st ?_;intros)|refine G.draw [] (h:= ?_))
   (refine Dn.post (Hr:=[X2]) Tryz.results69 (hR:= ?_);exact⟨X2,(),rfl,.inr (.inl ⟨rfl,hB⟩)⟩)
 ·repeat(first|(refine st ?_;intros)|refine G.draw [] (h:= ?_))
  (refine Dn.post (Hr:=[X']) Tryz.results69 (hR:= ?_);exact⟨X',(),rfl,.inr (.inl ⟨rfl,hB⟩)⟩)
instance (n:Nat) (qts:List T5):Decidable (okQs n qts):=by unfold okQs;infer_instance
def errQ (n:Nat) (qts:List T5):Option Nat:=if okQs n qts then none else some 3
theorem chkQ_bad (bn n:Nat):∀(ts:List T5) (k:Unit),(chkQ bn n).bad k ts=if∀q∈ts,okQ n q then none else some 3
 |[],_=>by simp[Maker.bad]
 |t::ts,k=>by
  simp only[Maker.bad]
  have ih:=chkQ_bad bn n ts ((chkQ bn n).next k t)
  by_cases h:okQ n t
  ·have:(chkQ bn n).err k t=none:=if_pos h
   rw[this]
   dsimp only
   rw[ih]
   simp[h]
  ·have:(chkQ bn n).err k t=some 3:=if_neg h
   rw[this]
   dsimp only
   rw[if_neg (by simp[h])]
theorem chkQ_all (bn n:Nat):∀(ts:List T5) (k:Unit),(∀q∈ts,okQ n q)→(chkQ bn n).all k ts=ts.map fun t=>⟨t.c0,0,0,0,0⟩
 |[],_,_=>rfl
 |t::ts,k,h=>by
  simp only[Maker.all,chkQ_all bn n ts _ fun q hq=>h q (List.mem_cons_of_mem _ hq),List.map_cons]
  have:(chkQ bn n).outs k t=[⟨t.c0,0,0,0,0⟩]:=if_pos (h t List.mem_cons_self)
  rw[this];rfl
theorem map_c0len {ts:List T5}:(srt (ltO o1) true (ts.map fun t=>(⟨t.c0,0,0,0,0⟩:T5))).length=ts.length↔ts.Pairwise fun a c=>a.c0≠c.c0:=by
 have:=once_len (ts.map fun t=>(⟨t.c0,0,0,0,0⟩:T5))
 rw[List.length_map,List.pairwise_map] at this
 exact this
structure HlvX where
 e:Int
 er:Option Nat
 C:Chunk
theorem halves_ct {p:Jp} {B m k a s0:Nat} {e:Int} {Gf:List (Fl×List T5)} {C:Chunk} (hR:Rm p B m k a) (hJ:JobS p B k a s0 e none Gf C) (qf:Fl) (qts:List T5) (hq:In0 p (qf,qts)) (hw:qf.width=3) (hcq:qf.count≤300) (n:Nat) (hn:n≤10000) (c:Nat) (hc:qf.count≤c) (hcB:c≤B) (hT:sortT c≤m) (hl:Gf.length+2≤k) (hst:s0≤9000):
  Ct Tryz.prog 39 [pv p.bj,flv qf,.int .i64 (n:Int)] [C] fun v H'=>∃f C' e',v=flv f∧H'=[C']∧JobS p B k a (s0+4) e' (errQ n qts) ((f,partsF qts)::Gf) C'∧FB (2*qf.count) c 3 (2*qf.count) e' f∧(e'=0→e=0):=by
 have hflv:∀f:Fl,flv f= .agg #[.int .i64 (f.first:Int),.int .i64 (f.blocks:Int),.int .i64 (f.width:Int),.int .i64 (f.count:Int)]:=fun _=>rfl
 have hfl4:∀f:Fl,fl4 f=[.int .i64 (f.first:Int),.int .i64 (f.blocks:Int),.int .i64 (f.width:Int),.int .i64 (f.count:Int)]:=fun _=>rfl
 have hto1:tv o1= .agg #[.int .i64 1,.int .i64 0,.int .i64 0,.int .i64 0,.int .i64 0]:=rfl
 have hto12:tv o12= .agg #[.int .i64 1,.int .i64 2,.int .i64 0,.int .i64 0,.int .i64 0]:=rfl
 obtain⟨hql,hqfit,hqb,_,_⟩:=in0file hq
 dsimp only at hql hqfit hqb
 rw[hw] at hqfit
 have hB:=hR.bs
 have hqbl:qf.blocks≤qf.count:=by rw[hqb];exact nb_le hR.ok.size.1 (by omega) (by omega)
 have hM1:=fun b5 b=>SMake1 hR hJ (chkQ b5 n) () 1 qf.count c 1 (by omega) 67 inferInstance [pv b5] _ (chkQ_mk b5 n) (fun _ t _=>by unfold chkQ;dsimp only;split<;>simp) (by omega) qf qts (.inr hq) (by omega)
  (fun _=>Maker.oks_of (M:=chkQ b5 n) (I:=fun _=>True) (Q:=okT 3) (fun _ t _ h=>⟨h,trivial⟩) _ () trivial hqfit) (fun _=>by
   have:=Maker.all_len (M:=chkQ b5 n) (n:=1) (fun _ t=>by unfold chkQ;dsimp only;split<;>simp) qts ()
   omega) (by omega) hcB (by omega) (by omega) b
 simp only[hfl4,chkQ_C] at hM1
 rw[hflv]
 refine Ct.intro Tryz.func39 rfl Tryz.ntmps39 (nle rfl) fun w0=> ?_;dsimp only[argSlots,Nat.reduceAdd]
 repeat(refine st ?_;intros)
 rename_i b4 b5 b6 b7
 refine R.callX (hct:=hM1 _ _) (h:= ?_)
 rintro _ _ ⟨f1,C1,e1,k1,rfl,rfl,hJ1,hF1,hE1⟩
 dsimp only[List.cons_append,List.nil_append]
 constructor
 ·(·(first|(intro _ _ h;cases h;done)|(repeat(first|exact qok_nil|(apply qok_cons;(·first|(intro hc;exact absurd hc (nmem rfl))|(intro _;apply CellPr.mk;(·repeat(first|exact Has.here|apply Has.there));(first|exact rfl|assumption))|(intro _;apply CellsPr.mk;(·repeat(first|exact Has.here|apply Has.there));(first|exact rfl|assumption))))))))
 try rw[hflv]
 rw[orNone,chkQ_bad] at hJ1
 have hS2:=SSort hR hJ1 f1 _ Gf o1 rfl true hF1 .here (by omega) hcB hT (by omega)
 rw[hflv,hto1] at hS2
 repeat(refine st ?_;intros)
 refine R.callX (hct:=hS2) (h:= ?_)
 rintro _ _ ⟨f2,C2,e2,rfl,rfl,hJ2,hF2,hE2⟩
 dsimp only[List.cons_append,List.nil_append]
 constructor
 ·(·(first|(intro _ _ h;cases h;done)|(repeat(first|exact qok_nil|(apply qok_cons;(·first|(intro hc;exact absurd hc (nmem rfl))|(intro _;apply CellPr.mk;(·repeat(first|exact Has.here|apply Has.there));(first|exact rfl|assumption))|(intro _;apply CellsPr.mk;(·repeat(first|exact Has.here|apply Has.there));(first|exact rfl|assumption))))))))
 try rw[hflv]
 have h12:e2=0→e1=0∧e=0∧(∀q∈qts,okQ n q)∧f2.count=(srt (ltO o1) true (qts.map fun t=>(⟨t.c0,0,0,0,0⟩:T5))).length:=fun h=>by
  have h1:=hE2 h
  have h2:=hE1 h1
  have h3:=h2.2.2
  rw[chkQ_bad] at h3
  have h4:∀q∈qts,okQ n q:=by
   by_cases h5:∀q∈qts,okQ n q
   ·exact h5
   ·rw[if_neg h5] at h3;cases h3
  have h6:=(hF2.ok h).2
  rw[chkQ_all b5 n qts () h4] at h6
  exact⟨h1,h2.1,h4,h6⟩
 generalize (chkQ b5 n).all () qts=als at*
 obtain⟨x2,hx2⟩:∃x2:Option Nat,x2=if qts.Pairwise (fun a c=>a.c0≠c.c0) then none else some 3:=⟨_,rfl⟩
 have herr:((if∀q∈qts,okQ n q then none else some 3:Option Nat).or x2)=errQ n qts:=by
  rw[hx2];unfold errQ
  by_cases h1:∀q∈qts,okQ n q
  ·rw[if_pos h1]
   by_cases h2:qts.Pairwise (fun a c=>a.c0≠c.c0)
   ·rw[if_pos h2,if_pos (show okQs n qts from ⟨h1,h2⟩)];rfl
   ·rw[if_neg h2,if_neg (show¬okQs n qts from fun h=>h2 h.2)];rfl
  ·rw[if_neg h1,if_neg (show¬okQs n qts from fun h=>h1 h.1)];rfl
 repeat(refine stn ?_;intros)
 rename_i bc
 refine G.cut (D':=[]) (X:=HlvX) (fun x=>JobS p B k a (s0+2) x.e (errQ n qts) ((f2,srt (ltO o1) true als)::Gf) x.C∧(x.e=0→e=0)) (fun _=>[(7,pv bc),(6,pv b6),(4,pv b4),(0,pv p.bj)])
  (fun x=>[x.C,[(bc,row [.int .i64 (f2.first:Int),.int .i64 (f2.blocks:Int),.int .i64 (f2.width:Int),.int .i64 (f2.count:Int)] 27)],[(b6,row [.int .i64 0,.int .i64 0,.int .i64 0,.int .i64 0] 27)],[(b4,row [.int .i64 (qf.first:Int),.int .i64 (qf.blocks:Int),.int .i64 (qf.width:Int),.int .i64 (qf.count:Int)] 27)]]) ?_ ?_
 ·by_cases hcc:(f2.count:Int)=(qf.count:Int)
  ·repeat(refine st ?_;intros)
   refine Dn.meet ⟨e2,none,C2⟩ ⟨?_,fun h=>(h12 h).2.1⟩
   rw[←herr]
   refine hJ2.orE x2 fun h=> ?_
   obtain⟨_,_,_,h4⟩:=h12 h
   rw[hx2,if_pos]
   exact map_c0len.1 (by omega)
  ·have hF3:=SFail hJ2 3 (by decide) (by decide) x2 (fun h=>by
    obtain⟨_,_,_,h4⟩:=h12 h
    rw[hx2,if_neg]
    intro h5
    have:=map_c0len.2 h5
    omega)
   repeat(refine st ?_;intros)
   refine R.callX (hct:=hF3) (h:= ?_)
   rintro _ _ ⟨e3,C3,rfl,rfl,hJ3,he3⟩
   dsimp only[List.cons_append,List.nil_append]
   constructor
   ·(·(first|(intro _ _ h;cases h;done)|(repeat(first|exact qok_nil|(apply qok_cons;(·first|(intro hc;exact absurd hc (nmem rfl))|(intro _;apply CellPr.mk;(·repeat(first|exact Has.here|apply Has.there));(first|exact rfl|assumption))|(intro _;apply CellsPr.mk;(·repeat(first|exact Has.here|apply Has.there));(first|exact rfl|assumption))))))))
   repeat(refine st ?_;intros)
   exact Dn.meet ⟨e3,none,C3⟩ ⟨by rw[←herr];exact hJ3,fun h=>absurd h he3⟩
 rintro⟨e3,_,C3⟩ ⟨hJ3,hE3⟩
 dsimp only at hJ3 hE3⊢
 have hFr:=fun b=>SFree hR hJ3 [(f2,srt (ltO o1) true als)] Gf (.cons .here .nil) (by simp) _ 1 _ (vec1 b f2)
 simp only[hfl4,List.map_cons,List.map_nil] at hFr
 repeat(refine st ?_;intros)
 refine R.callX (hct:=hFr _) (h:= ?_)
 rintro _ _ ⟨C4,rfl,rfl,hJ4⟩
 dsimp only[List.cons_append,List.nil_append]
 constructor
 ·(·(first|(intro _ _ h;cases h;done)|(repeat(first|exact qok_nil|(apply qok_cons;(·first|(intro hc;exact absurd hc (nmem rfl))|(intro _;apply CellPr.mk;(·repeat(first|exact Has.here|apply Has.there));(first|exact rfl|assumption))|(intro _;apply CellsPr.mk;(·repeat(first|exact Has.here|apply Has.there));(first|exact rfl|assumption))))))))
 have hwq:IntKind.wrap .i64 (2*(qf.count:Int))=((2*qf.count:Nat):Int):=by rw[wrap_i64 (by omega)];omega
 have hok4:e3=0→∀q∈qts,okT 3 q∧okQ n q:=fun h q hm=>by
  have h1:=hJ4.er0 h
  unfold errQ at h1
  split at h1
  ·rename_i h2;exact⟨hqfit q hm,h2.1 q hm⟩
  ·cases h1
 have hM5:=fun b=>SMake1n hR hJ4 halfM (fun _ _=>rfl) () 3 (2*qf.count) c 2 (by omega) 69 inferInstance [] _ (half_mk n hn) (fun _ t _=>by simp[halfM,halfT]) (by omega) qf qts (.inr hq) (by omega)
  (fun h=>Maker.oks_of (M:=halfM) (I:=fun _=>True) (Q:=fun q=>okT 3 q∧okQ n q) (fun _ t _ h=>⟨h,trivial⟩) _ () trivial (hok4 h)) (fun _=>by
   have:=Maker.all_len (M:=halfM) (n:=2) (fun _ t=>by simp[halfM,halfT]) qts ()
   omega) (.inr ⟨by omega,by omega⟩) hcB (by omega) (by omega) b
 rw[halfM_all] at hM5
 simp only[hfl4,show∀k,halfM.C k=[] from fun _=>rfl] at hM5
 repeat(refine st ?_;intros)
 refine R.callX (hct:=hM5 _) (h:= ?_)
 rintro _ _ ⟨f5,C5,e5,k5,rfl,rfl,hJ5,hF5,hE5⟩
 dsimp only[List.cons_append,List.nil_append]
 constructor
 ·(·(first|(intro _ _ h;cases h;done)|(repeat(first|exact qok_nil|(apply qok_cons;(·first|(intro hc;exact absurd hc (nmem rfl))|(intro _;apply CellPr.mk;(·repeat(first|exact Has.here|apply Has.there));(first|exact rfl|assumption))|(intro _;apply CellsPr.mk;(·repeat(first|exact Has.here|apply Has.there));(first|exact rfl|assumption))))))))
 try rw[hflv]
 have hS6:=SSort hR hJ5 f5 _ Gf o12 rfl false hF5 .here (by omega) hcB hT (by omega)
 rw[hflv,hto12,show srt (ltO o12) false (qts.flatMap halfT)=partsF qts from rfl,partsF_len,hql] at hS6
 repeat(refine st ?_;intros)
 refine R.callX (hct:=hS6) (h:= ?_)
 rintro _ _ ⟨f6,C6,e6,rfl,rfl,hJ6,hF6,hE6⟩
 dsimp only[List.cons_append,List.nil_append]
 constructor
 ·(·(first|(intro _ _ h;cases h;done)|(repeat(first|exact qok_nil|(apply qok_cons;(·first|(intro hc;exact absurd hc (nmem rfl))|(intro _;apply CellPr.mk;(·repeat(first|exact Has.here|apply Has.there));(first|exact rfl|assumption))|(intro _;apply CellsPr.mk;(·repeat(first|exact Has.here|apply Has.there));(first|exact rfl|assumption))))))))
 try rw[hflv]
 repeat(refine st ?_;intros)
 (refine Dn.post (Hr:=[C6]) Tryz.results39 (hR:= ?_);exact⟨f6,C6,e6,rfl,rfl,hJ6,hF6,fun h=>hE3 (hE5 (hE6 h)).1⟩)
end Go.Proofs.YtjoicjgfgkpdjaaGreat
