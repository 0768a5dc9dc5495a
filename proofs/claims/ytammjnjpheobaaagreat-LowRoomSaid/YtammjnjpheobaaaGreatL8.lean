/-
  Parts of the proof, put together (8). No condition.
-/
import Derived.Test.YtammjnjpheobaaaGreatL7
set_option linter.unusedVariables false
set_option linter.unusedSimpArgs false
set_option linter.unnecessarySimpa false
set_option maxHeartbeats 4000000
open Go.IntKind renaming wrap→AH
open Go.Proofs.Tryz renaming prog→AC
open List renaming cons_append→AA,nil_append→AB,getElem?_eq_getElem→AE,length_append→AF,mem_cons_self→AI,mem_cons_of_mem→AJ,length_cons→AL,mem_cons→AM,getD_eq_getElem?_getD→AN,mem_append→AO,append_nil→AQ,append_assoc→AR,mem_map→AT,length_nil→AU,map_append→AV,flatten_cons→AW,length_map→AX,mem_singleton→AY,map_cons→A0,flatten_append→A3,take_of_length_le→A4,flatMap_cons→A6,flatten_nil→A8,count_append→BI,drop_eq_getElem_cons→BM,take_add_one→BN,mem_append_left→BO,pairwise_iff_getElem→BQ,take_append_drop→BT,flatMap_append→B9,perm_append_comm→CA,getElem_of_mem→CQ,sum_append→CT,sum_cons→DB,map_nil→DY
open List.Perm renaming append_left→BJ,swap→CO
open Nat renaming reduceAdd→AD,le_refl→AG,zero_le→AS,mul_le_mul_right→A5,le_trans→BA,succ_mul→BD,mul_le_mul_left→BU,le_div_iff_mul_le→CI,mul_le_mul→DA,add_le_add_right→DD,div_mul_le_self→DK,add_mul→DM,mul_comm→EC
open Option.some renaming injEq→A9
namespace Go.Proofs.YtammjnjpheobaaaGreat
open Go.SL Go.Spc Go.Tup Go.Srt
theorem aDv (f g:Fl) (l:List Ext):(aCh f (aCh g l)).Perm (aCh g (aCh f l)):=by
 unfold aCh
 split<;>split<;>first|exact .refl _|exact CO _ _ _
theorem aOl (f:Fl):∀(fs:List Fl) (l:List Ext),(aAy fs (aCh f l)).Perm (aCh f (aAy fs l))
 |[],_=> .refl _
 |g::fs,l=>by
  have h:=aOl f fs (aCh g l)
  refine List.Perm.trans ?_ h
  show(aAy fs (aCh g (aCh f l))).Perm _
  exact addFs_live (aDv g f l)
where
 addFs_live:∀{fs:List Fl} {a b:List Ext},a.Perm b→(aAy fs a).Perm (aAy fs b)
 |[],_,_,h=>h
 |f::fs,_,_,h=>addFs_live (fs:=fs) (aCx h)
theorem addFs_live {fs:List Fl} {a b:List Ext} (h:a.Perm b):(aAy fs a).Perm (aAy fs b):=aOl.addFs_live h
theorem aDl (f:Fl) (fs:List Fl) (l:List Ext):(aAy (f::fs) l).Perm (aCh f (aAy fs l)):=aOl f fs l
theorem aEd {a b:List Fl} (h:a.Perm b) (l:List Ext):(aAy a l).Perm (aAy b l):=by
 induction h generalizing l with
 |nil=>exact .refl _
 |cons x _ ih=>exact ih _
 |swap x y l'=>exact addFs_live (aDv _ _ _)
 |trans _ _ ih1 ih2=>exact(ih1 l).trans (ih2 l)
theorem aDm.add {f:Fl} {Lv live:List Ext} (h:live.Perm (aCh f Lv)):aDm f.first f.blocks Lv live:=by
 unfold aDm;unfold aCh at h
 split
 ·rename_i h0;rw[if_pos h0] at h;exact h
 ·rename_i h0;rw[if_neg h0] at h;exact h
theorem aBl (fs:List Fl):(aAi fs).length=fs.length*4:=by
 induction fs with
 |nil=>rfl
 |cons f fs ih=>simp only[aAi,A6,AF,AL] at ih⊢;rw[ih];simp;omega
theorem aJq {rs:List (Fl×List T5)} {rest:List Value} {j:Nat} {r:Fl×List T5} (h:rs[j]? =some r):
  ((aAi (rs.map (·.1))++rest).drop (j*4)).take 4=[.int .i64 (r.1.first:Int),.int .i64 (r.1.blocks:Int),.int .i64 (r.1.width:Int),.int .i64 (r.1.count:Int)]:=by
 induction rs generalizing j with
 |nil=>simp at h
 |cons x rs ih=>
  cases j with
  |zero=>simp at h;subst h;simp[aAi]
  |succ j=>
   have e:aAi ((x::rs).map (·.1))=[.int .i64 (x.1.first:Int),.int .i64 (x.1.blocks:Int),.int .i64 (x.1.width:Int),.int .i64 (x.1.count:Int)]++aAi (rs.map (·.1)):=by simp[aAi]
   rw[e,AR,show(j+1)*4=4+j*4 by omega,←List.drop_drop]
   exact ih (by simpa using h)
theorem aQp (fs:List Fl):(aAi fs).all Value.oneCell'=true:=by
 induction fs with
 |nil=>rfl
 |cons f fs ih=>
  simp only[aAi,A6,List.all_append] at ih⊢
  rw[ih];rfl
theorem aXf {s k:Nat} (hp:1≤aAf s k) (rs:List (Fl×List T5)):aAb s k (rs.map (·.1.count)).sum≤aBk s k rs:=by
 have hadd:∀a b,aAb s k (a+b)≤aAb s k a+aAb s k b:=by
  intro a b
  unfold aAb
  generalize aAf s k=h at*
  have h1:a≤(a+h-1)/h*h:=by have:=Nat.div_add_mod (a+h-1) h;have:=Nat.mod_lt (a+h-1) (show 0<h by omega);rw[EC];omega
  have h2:b≤(b+h-1)/h*h:=by have:=Nat.div_add_mod (b+h-1) h;have:=Nat.mod_lt (b+h-1) (show 0<h by omega);rw[EC];omega
  rw[Nat.div_le_iff_le_mul_add_pred (by omega)]
  rw[Nat.mul_add,EC h,EC h]
  omega
 induction rs with
 |nil=>simp[aBk,aEc hp]
 |cons r rs ih=>
  simp only[aBk,A0,DB] at ih⊢
  exact BA (hadd _ _) (Nat.add_le_add_left ih _)
theorem aEu (s k:Nat) (a b:List (Fl×List T5)):aBk s k (a++b)=aBk s k a+aBk s k b:=by simp[aBk,CT]
theorem aCs.swap {d:Nat→Option (List Int)} {size k:Nat} {o:T5} {once:Bool} {l out:List T5} {a g b:List (Fl×List T5)} {f:Fl} (h:aCs d size k o once l (a++(g++b))) (h1:f.width=k) (h2:aAq d size [f.ext] f out) (h3:Sd (ltO o) once out) (h4:Go.Srt.Sp (ltO o) once (g.flatMap (·.2)) out) (h5:0<f.count):
  aCs d size k o once l ((a++[(f,out)])++b) where
 each:=fun r hr=>by
  simp only[AO,AY] at hr
  rcases hr with(hr|rfl)|hr
  ·exact h.each r (by simp[hr])
  ·exact⟨h1,h2,h3⟩
  ·exact h.each r (by simp[hr])
 sp:=by
  have:=h.sp
  rw[B9,B9] at this
  rw[B9,B9,AR]
  refine this.trans (Go.Srt.Sp.app (Go.Srt.Sp.refl _ _) (Go.Srt.Sp.app ?_ (Go.Srt.Sp.refl _ _)))
  simpa using h4
 pos:=fun hl r hr=>by
  simp only[AO,AY] at hr
  rcases hr with(hr|rfl)|hr
  ·exact h.pos hl r (by simp[hr])
  ·exact h5
  ·exact h.pos hl r (by simp[hr])
structure PassX where
 dn:List (Fl×List T5)
 rem:List (Fl×List T5)
 nx:List (Fl×List T5)
 cd:aAc
 ca:aAc
 cs:aAc
 W:Wk
 pr:Option Addr
 rc:Nat
 pn:Option Addr
 nc:Nat
 vn:aAc
 last:T5
 sm:Bool
structure FreeX where
 j:Nat
 cs:aAc
 W:Wk
theorem bNa (bz bw bd ba bs:Nat) (W:Wk) (cd ca cs:aAc) (h:Wc bd ba bs W cd ca cs) (k:Nat) (hk1:1≤k) (hk5:k≤5) (o:T5) (once:Bool) (l:List T5) (hl:l≠[]) (rs:List (Fl×List T5)) (hR:aCs W.δ.disk W.δ.size k o once l rs) (live0:List Ext) (hlv:W.live.Perm (aAy (rs.map (·.1)) live0))
  (p:Option Addr) (cap:Nat) (vc:aAc) (hV:Vec 27 4 p rs.length cap (aAi (rs.map (·.1))) vc) (h2:2≤rs.length) (hr:5*W.δ.size≤W.α.room-W.α.used) (hac:W.δ.acts≤10000000000) (hcn:(rs.map (·.1.count)).sum≤1000000)
  (last:T5) (sm:Bool) (fan:Nat) (hfan:fan+1=(W.α.room-W.α.used)/W.δ.size):
  Ct AC 129 [pv bz] [aPk bz bw o once p rs.length cap last sm,aAh bw bd ba bs,cd,ca,cs,vc] fun v H'=>
   ∃cd' ca' cs' W' p' cap' vc' last' sm' rs',H'=[aPk bz bw o once p' rs'.length cap' last' sm',aAh bw bd ba bs,cd',ca',cs',vc']∧Wc bd ba bs W' cd' ca' cs'∧Ev W W' (2*aBk W.δ.size k rs) (aBk W.δ.size k rs)∧aBr live0 W W'∧W'.α.gs.Perm W.α.gs∧
    Vec 27 4 p' rs'.length cap' (aAi (rs'.map (·.1))) vc'∧W'.live.Perm (aAy (rs'.map (·.1)) live0)∧
    ((v= .int .i64 0∧aCs W'.δ.disk W.δ.size k o once l rs'∧0<rs'.length∧rs'.length*fan≤rs.length+(fan-1)∧(rs'.map (·.1.count)).sum≤(rs.map (·.1.count)).sum∧aBk W.δ.size k rs'≤aBk W.δ.size k rs)∨
     (v= .int .i64 5∧big W.σ.free<aBk W.δ.size k rs)∨(v= .int .i64 6∧W.δ.fault≠-1)):=by
 obtain⟨⟨hs1,hs2⟩,hbk,hfr⟩:=h.dev.num
 obtain⟨hu1,hu2,_,hu4⟩:=h.ar.num
 have hp:=aAj hs1 hk1 hk5
 have hD:=aGs bw bd ba bs
 have hA:=aGt bw bd ba bs
 have hL:=bHz ba W.α ca h.ar
 rw[show(W.α.room:Int)-(W.α.used:Int)=((W.α.room-W.α.used:Nat):Int) by omega] at hL
 have hSz:=aGh bd W.δ cd h.dev
 have hVn:=Vec.nil 27 4
 unfold aPk aHx
 have hL1:W.α.room-W.α.used≤1000000000:=by omega
 have hf4:4≤fan:=by
  have:5≤(W.α.room-W.α.used)/W.δ.size:=by rw[CI (by omega)];omega
  omega
 have hfb:fan+1≤1000000000:=by rw[hfan];exact BA (Nat.div_le_self _ _) hL1
 have hfs:(fan+1)*W.δ.size≤W.α.room-W.α.used:=by rw[hfan];exact DK _ _
 have e1:AH .i64 (((W.α.room-W.α.used:Nat):Int).tdiv (W.δ.size:Int))=((fan+1:Nat):Int):=by
  rw[Int.tdiv_eq_ediv_of_nonneg (by omega),←Int.natCast_ediv,←hfan,aAd (by omega)]
 have e2:AH .i64 (((fan+1:Nat):Int)-1)=(fan:Int):=by rw[aAd (by omega)];omega
 obtain⟨_,h0|⟨vb,rest,rfl,rfl,hvl,hmc,hcm⟩⟩:=hV
 ·omega
 have hget:∀(j:Nat) (r:Fl×List T5),rs[j]? =some r→((aAi (rs.map (·.1))++rest).drop (j*4)).take 4=_:=fun j r hj=>aJq hj
 generalize hcells:aAi (rs.map (·.1))++rest=cells at*
 have hpos0:=hR.pos hl
 have hfA0:aBk W.δ.size k rs≤(rs.map (·.1.count)).sum:=aUs hp
 refine Ct.intro Tryz.func129 rfl Tryz.ntmps129 (nle rfl) fun w0=> ?_;dsimp only[aAa,AD]
 repeat(first|(refine st ?_;intros)|refine G.draw (id:=1) [(4,.quiet),(5,.quiet),(10,.quiet),(11,.quiet)] (h:= ?_)|refine G.draw [] (h:= ?_)|refine G.drawOrd (id:=16) [0,1,2,5,6,7,8,9,10,3,4,11,12,13,14] [(4,.eff [8])] (h:= ?_)|(refine cq hD ?_)|(refine cq hA ?_)|(refine cq hL ?_)|(refine cq hSz ?_))
 refine G.loop (X:=PassX) (fun x=>rs=x.dn++x.rem∧Wc bd ba bs x.W x.cd x.ca x.cs∧Ev W x.W (2*aBk W.δ.size k x.dn) (aBk W.δ.size k x.dn)∧aBr live0 W x.W∧x.W.α.gs.Perm W.α.gs∧x.W.live.Perm (aAy ((x.nx++x.rem).map (·.1)) live0)∧aCs x.W.δ.disk W.δ.size k o once l (x.nx++x.rem)∧
   Vec 27 4 x.pn x.nx.length x.nc (aAi (x.nx.map (·.1))) x.vn∧x.rem.length≤x.rc∧x.rc≤cap∧(x.rem≠[]→x.pr=some ⟨vb,x.dn.length*4,none⟩)∧x.nx.length*fan≤x.dn.length+(fan-1)∧(x.rem≠[]→x.nx.length*fan≤x.dn.length)∧
   (x.nx.map (·.1.count)).sum≤(x.dn.map (·.1.count)).sum∧aBk W.δ.size k x.nx≤aBk W.δ.size k x.dn∧(x.dn≠[]→0<x.nx.length))
  (fun x=>[(4,.slice x.pn x.nx.length x.nc),(3,.int .i64 (fan:Int)),(0,pv bz)])
  (fun x=>[[(bz,row [pv bw,.int .i64 o.c0,.int .i64 o.c1,.int .i64 o.c2,.int .i64 o.c3,.int .i64 o.c4,.bool once,.slice x.pr x.rem.length x.rc,.int .i64 x.last.c0,.int .i64 x.last.c1,.int .i64 x.last.c2,.int .i64 x.last.c3,.int .i64 x.last.c4,.bool x.sm] 186)],aAh bw bd ba bs,x.cd,x.ca,x.cs,[(vb,row cells 27)],x.vn]) (fun x=>x.rem.length)
  ⟨[],rs,[],cd,ca,cs,W,some ⟨vb,0,none⟩,cap,none,0,[],last,sm⟩
  ⟨rfl,h,(Ev.refl W).weak (AS _) (AS _),aBr.refl _ _,.refl _,by simpa using hlv,by simpa using hR,Vec.nil _ _,hmc,AG _,fun _=>rfl,by simp,by simp,by simp,by simp[aBk],by simp⟩ (by repeat(first|exact trivial|refine⟨rfl,?_⟩)) (by repeat(first|exact aAo.nil|(apply aAo.cons;·(first|exact aAn.nil|(repeat(first|exact aAn.here|apply aAn.there)))))) ?_
 rintro⟨dn,rem,nx,cd1,ca1,cs1,W1,pr,rc,pn,nc,vn,last1,sm1⟩ ⟨hrs,hW1,hE1,hK1,hg1,hl1,hR1,hV1,hrc,hrcc,hpr,hlen,hlen2,hcs1,hfA1,hnx1⟩
 dsimp only at hrs hW1 hE1 hK1 hg1 hl1 hR1 hV1 hrc hrcc hpr hlen hlen2 hcs1 hfA1 hnx1⊢
 have hsz1:=hE1.size
 have hrm1:W1.α.room=W.α.room:=hE1.room
 have hac1:=hE1.acts
 have hus1:W1.α.used=W.α.used:=by rw[hW1.ar.num.2.2.2,(hg1.map (·.n)).sum_nat,←hu4]
 have hpos1:=hR1.pos hl
 have hsum:(rs.map (·.1.count)).sum=(dn.map (·.1.count)).sum+(rem.map (·.1.count)).sum:=by rw[hrs,AV,CT]
 have hfAs:aBk W.δ.size k rs=aBk W.δ.size k dn+aBk W.δ.size k rem:=by rw[hrs,aEu]
 have hrsl:rs.length=dn.length+rem.length:=by rw[hrs,AF]
 have hrsle:rs.length≤1000000:=BA (aLv fun r hr=>hpos0 r hr) hcn
 have hnxl:nx.length≤1000000:=by
  have h1:nx.length*1≤nx.length*fan:=BU _ (by omega)
  have h2:nx.length≤(nx.map (·.1.count)).sum:=aLv fun r hr=>hpos1 r (BO _ hr)
  omega
 by_cases hrem:0<rem.length
 ·have hne:rem≠[]:=fun e=>by rw[e] at hrem;simp at hrem
  have hpe:=hpr hne
  subst hpe
  have hlen2:=hlen2 hne
  by_cases hone:rem.length=1
  ·obtain⟨r,rfl⟩:∃r,rem=[r]:=by
    match rem,hone with
    |[r],_=>exact⟨r,rfl⟩
   have hg0:=hget dn.length r (by rw[hrs];simp)
   have hmin:min (fan:Int) (([r].length:Nat):Int)=1:=by simp;omega
   have hrl1:rs.length=dn.length+1:=by rw[hrsl];rfl
   repeat(first|(refine st ?_;intros)|refine G.draw (id:=1) [(4,.quiet),(5,.quiet),(10,.quiet),(11,.quiet)] (h:= ?_)|refine G.draw [] (h:= ?_)|refine G.drawOrd (id:=16) [0,1,2,5,6,7,8,9,10,3,4,11,12,13,14] [(4,.eff [8])] (h:= ?_)|(refine cq hD ?_)|(refine cq hA ?_)|(refine cq hL ?_)|(refine cq hSz ?_))
   rename_i p' cap' c' hV'
   have hV3:Vec 27 4 p' (nx.length+1) cap' (aAi ((nx++[r]).map (·.1))) c':=by rw[AV,aCo];exact hV'
   have hln:(nx++[r]).length=nx.length+1:=by simp
   rw[←hln] at hV3
   (refine Dn.post (Hr:=[[(bz,row [pv bw,.int .i64 o.c0,.int .i64 o.c1,.int .i64 o.c2,.int .i64 o.c3,.int .i64 o.c4,.bool once,.slice p' (nx.length+1) cap',.int .i64 last1.c0,.int .i64 last1.c1,.int .i64 last1.c2,.int .i64 last1.c3,.int .i64 last1.c4,.bool sm1] 186)],aAh bw bd ba bs,cd1,ca1,cs1,c']) Tryz.results129 (hR:= ?_);refine⟨cd1,ca1,cs1,W1,p',cap',c',last1,sm1,nx++[r],by rw[hln],hW1,hE1.weak (by omega) (by omega),hK1,hg1,hV3,hl1,.inl ⟨rfl,hR1,by omega,?_,?_,?_⟩⟩)
   ·rw[hln,BD];omega
   ·rw[hsum,AV,CT];omega
   ·rw[hfAs,aEu];omega
  ·obtain⟨kk,hkk⟩:∃kk,kk=min fan rem.length:=⟨_,rfl⟩
   have hmin:min (fan:Int) (rem.length:Int)=(kk:Int):=by omega
   obtain⟨grp,hgrp⟩:∃grp,grp=rem.take kk:=⟨_,rfl⟩
   obtain⟨rem',hrem'⟩:∃rem',rem'=rem.drop kk:=⟨_,rfl⟩
   have hsp:rem=grp++rem':=by rw[hgrp,hrem',BT]
   have hgl:grp.length=kk:=by rw[hgrp,List.length_take];omega
   have hrl':rem'.length=rem.length-kk:=by rw[hrem',List.length_drop]
   have hgget:∀(j:Nat) (r:Fl×List T5),grp[j]? =some r→(cells.drop (dn.length*4+j*4)).take 4=[.int .i64 (r.1.first:Int),.int .i64 (r.1.blocks:Int),.int .i64 (r.1.width:Int),.int .i64 (r.1.count:Int)]:=by
    intro j r hj
    rw[←DM]
    refine hget (dn.length+j) r ?_
    have hlt:=(List.getElem?_eq_some_iff.1 hj).1
    rw[hrs,hsp,List.getElem?_append_right (by omega),show dn.length+j-dn.length=j by omega,List.getElem?_append_left hlt];exact hj
   have hingr:∀r∈grp,r∈nx++rem:=fun r hr=>by rw[hsp];simp[hr]
   have hcg:(rem.map (·.1.count)).sum=(grp.map (·.1.count)).sum+(rem'.map (·.1.count)).sum:=by rw[hsp,AV,CT]
   have hfg:aBk W.δ.size k rem=aBk W.δ.size k grp+aBk W.δ.size k rem':=by rw[hsp,aEu]
   have hnsum:=aXf hp grp
   have hkf:(kk+1)*W.δ.size≤(fan+1)*W.δ.size:=A5 _ (by omega)
   have hMg:=bIr bz bw bd ba bs W1 cd1 ca1 cs1 hW1 k o once grp ⟨hk1,hk5,by omega,fun r hr=>⟨(hR1.each r (hingr r hr)).1,by rw[hsz1];exact(hR1.each r (hingr r hr)).2.1,(hR1.each r (hingr r hr)).2.2,hpos1 r (hingr r hr)⟩,fun r hr=>hl1.mem_iff.2 (aGv (AT.2 ⟨r,hingr r hr,rfl⟩) (by
     have h1:=(hR1.each r (hingr r hr)).2.1.blk
     have h2:=(hR1.each r (hingr r hr)).1
     have h3:=hpos1 r (hingr r hr)
     rw[h1,h2]
     unfold aAb
     have:1≤(r.1.count+aAf W.δ.size k-1)/aAf W.δ.size k:=by rw[CI (by omega)];omega
     omega)),by rw[hsz1,hrm1,hus1,hgl];omega,by omega,by omega⟩ vb (dn.length*4) rc cells hgget (some ⟨vb,dn.length*4,none⟩) rem.length rc last1 sm1
   unfold aPk aHx at hMg
   rw[hgl,hsz1] at hMg
   repeat(first|(refine st ?_;intros)|refine G.draw (id:=1) [(4,.quiet),(5,.quiet),(10,.quiet),(11,.quiet)] (h:= ?_)|refine G.draw [] (h:= ?_)|refine G.drawOrd (id:=16) [0,1,2,5,6,7,8,9,10,3,4,11,12,13,14] [(4,.eff [8])] (h:= ?_)|(refine cq hD ?_)|(refine cq hA ?_)|(refine cq hL ?_)|(refine cq hSz ?_))
   rw[hmin,Int.toNat_natCast]
   refine R.call (hct:=hMg) (h:= ?_)
   rintro _ _ ⟨cd2,ca2,cs2,W2,last2,sm2,rfl,hW2,hE2,hK2,hg2,⟨f,out,rfl,hl2,hf2,hfc2,hfc3,hfo2,hsd2,hsp2⟩|⟨rfl,hbg2,hl2⟩|⟨rfl,hft2,hl2⟩⟩
   try dsimp only[AA,AB]
   ·have hflv:flv f= .agg #[.int .i64 (f.first:Int),.int .i64 (f.blocks:Int),.int .i64 (f.width:Int),.int .i64 (f.count:Int)]:=rfl
    rw[hflv]
    repeat(first|(refine st ?_;intros)|refine G.draw (id:=1) [(4,.quiet),(5,.quiet),(10,.quiet),(11,.quiet)] (h:= ?_)|refine G.draw [] (h:= ?_)|refine G.drawOrd (id:=16) [0,1,2,5,6,7,8,9,10,3,4,11,12,13,14] [(4,.eff [8])] (h:= ?_)|(refine cq hD ?_)|(refine cq hA ?_)|(refine cq hL ?_)|(refine cq hSz ?_))
    rename_i b6
    obtain⟨base,hbase⟩:∃base,base=aAy (((nx++[(f,out)])++rem').map (·.1)) live0:=⟨_,rfl⟩
    have hlg:W2.live.Perm (aAy (grp.map (·.1)) base):=by
     refine hl2.trans ((aCx hl1).trans ((aDl _ _ _).symm.trans ?_))
     rw[hbase,show∀a b l,aAy a (aAy b l)=aAy (b++a) l from fun a b l=>by simp[aAy]]
     refine aEd ?_ _
     rw[hsp]
     simp only[AV,A0,DY,AR]
     have h1:∀(f:Fl) (a b c:List Fl),(f::(a++(b++c))).Perm (a++([f]++(c++b))):=fun f a b c=>by
      refine(List.perm_middle (l₁:=a) (l₂:=b++c)).symm.trans (BJ _ ?_)
      exact List.Perm.cons _ CA
     exact h1 _ _ _ _
    refine G.loop (X:=FreeX) (fun x=>x.j≤kk∧Wc bd ba bs x.W cd2 ca2 x.cs∧Ev W2 x.W 0 0∧x.W.δ=W2.δ∧x.W.α=W2.α∧x.W.live.Perm (aAy ((grp.drop x.j).map (·.1)) base))
     (fun x=>[(81,.int .i64 (x.j:Int)),(80,.int .i64 (kk:Int)),(79,.slice (some ⟨vb,dn.length*4,none⟩) kk rc),(6,pv b6),(5,.int .i64 (kk:Int)),(4,.slice pn nx.length nc),(3,.int .i64 (fan:Int)),(0,pv bz)])
     (fun x=>[[(bz,row [pv bw,.int .i64 o.c0,.int .i64 o.c1,.int .i64 o.c2,.int .i64 o.c3,.int .i64 o.c4,.bool once,.slice (some ⟨vb,dn.length*4,none⟩) rem.length rc,.int .i64 last2.c0,.int .i64 last2.c1,.int .i64 last2.c2,.int .i64 last2.c3,.int .i64 last2.c4,.bool sm2] 186)],aAh bw bd ba bs,cd2,ca2,x.cs,[(vb,row cells 27)],vn,[(b6,row [.int .i64 (f.first:Int),.int .i64 (f.blocks:Int),.int .i64 (f.width:Int),.int .i64 (f.count:Int)] 27)]])
     (fun x=>kk-x.j) ⟨0,cs2,W2⟩ ⟨AS _,hW2,Ev.refl _,rfl,rfl,hlg⟩ (body:= ?_)
    rintro⟨j,cs3,W3⟩ ⟨hj,hW3,hE3,hδ3,hα3,hl3⟩
    dsimp only at hj hW3 hE3 hδ3 hα3 hl3⊢
    by_cases hjk:j<kk
    ·have hjg:grp[j]? =some grp[j]:=AE (by omega)
     have hgj:=hgget j _ hjg
     have hdj:grp.drop j=grp[j]::grp.drop (j+1):=BM (by omega)
     rw[hdj] at hl3
     generalize grp[j]=r at*
     have hFr:=aKn bw bd ba bs W3 cd2 ca2 cs3 hW3 r.1 _ (aDm.add (hl3.trans (aDl _ _ _)))
     have hflr:flv r.1= .agg #[.int .i64 (r.1.first:Int),.int .i64 (r.1.blocks:Int),.int .i64 (r.1.width:Int),.int .i64 (r.1.count:Int)]:=rfl
     rw[hflr] at hFr
     have e3:AH .i64 ((j:Int)+1)=((j+1:Nat):Int):=by rw[aAd (by omega)];rfl
     repeat(first|(refine st ?_;intros)|refine G.draw (id:=1) [(4,.quiet),(5,.quiet),(10,.quiet),(11,.quiet)] (h:= ?_)|refine G.draw [] (h:= ?_)|refine G.drawOrd (id:=16) [0,1,2,5,6,7,8,9,10,3,4,11,12,13,14] [(4,.eff [8])] (h:= ?_)|(refine cq hD ?_)|(refine cq hA ?_)|(refine cq hL ?_)|(refine cq hSz ?_))
     refine R.call (hct:=hFr) (h:= ?_)
     rintro _ _ ⟨cs4,W4,rfl,rfl,hW4,hE4,hδ4,hα4,hl4⟩
     try dsimp only[AA,AB]
     repeat(first|(refine st ?_;intros)|refine G.draw (id:=1) [(4,.quiet),(5,.quiet),(10,.quiet),(11,.quiet)] (h:= ?_)|refine G.draw [] (h:= ?_)|refine G.drawOrd (id:=16) [0,1,2,5,6,7,8,9,10,3,4,11,12,13,14] [(4,.eff [8])] (h:= ?_)|(refine cq hD ?_)|(refine cq hA ?_)|(refine cq hL ?_)|(refine cq hSz ?_))
     exact Dn.round ⟨j+1,cs4,W4⟩ ⟨hjk,hW4,hE3.trans hE4,hδ4.trans hδ3,hα4.trans hα3,by dsimp only;rw[hl4]⟩ (by dsimp only;omega)
    ·obtain rfl:j=kk:=by omega
     have hl5:W3.live.Perm base:=by rw[←hgl,List.drop_length] at hl3;exact hl3
     repeat(first|(refine st ?_;intros)|refine G.draw (id:=1) [(4,.quiet),(5,.quiet),(10,.quiet),(11,.quiet)] (h:= ?_)|refine G.draw [] (h:= ?_)|refine G.drawOrd (id:=16) [0,1,2,5,6,7,8,9,10,3,4,11,12,13,14] [(4,.eff [8])] (h:= ?_)|(refine cq hD ?_)|(refine cq hA ?_)|(refine cq hL ?_)|(refine cq hSz ?_))
     rename_i p' cap' c' hV'
     have hV3:Vec 27 4 p' (nx.length+1) cap' (aAi ((nx++[(f,out)]).map (·.1))) c':=by rw[AV,aCo];exact hV'
     have hln:(nx++[(f,out)]).length=nx.length+1:=by simp
     have hR2:=hR1.keep (live0:=live0) (d':=W2.δ.disk) fun x hx=>hK2 x ((aGc hl1 x).2 hx)
     rw[hsp] at hR2
     have hK12:=hK1.trans (hK2.sub (Lv':=live0) fun e he=>hl1.mem_iff.2 (aCy he))
     have hE13:=(hE1.trans hE2).trans hE3
     have hdl:(dn++grp).length=dn.length+j:=by rw[AF,hgl]
     have hne':rem'≠[]→j<rem.length∧j=fan:=fun hn=>by
      have:=List.length_pos_iff.2 hn
      omega
     rw[←hln,←hrl']
     rw[←hln] at hV3
     refine Dn.round ⟨dn++grp,rem',nx++[(f,out)],cd2,ca2,cs3,W3,cutA (some ⟨vb,dn.length*4,none⟩) j rc 4,rc-j,p',cap',c',last2,sm2⟩ ⟨by dsimp only;rw[hrs,hsp,AR],hW3,?_,fun x hx=>by dsimp only;rw[hδ3];exact hK12 x hx,by dsimp only;rw[hα3];exact hg2.trans hg1,by dsimp only;rw[←hbase];exact hl5,?_,hV3,by dsimp only;omega,by dsimp only;omega,?_,?_,?_,?_,?_,?_⟩ (by dsimp only;omega)
     ·refine hE13.weak ?_ ?_
      ·dsimp only;rw[aEu];omega
      ·dsimp only;rw[aEu];omega
     ·dsimp only;rw[hδ3];exact hR2.swap hf2 hfo2 hsd2 hsp2 hfc2
     ·intro hn
      obtain⟨h1,h2⟩:=hne' hn
      dsimp only
      unfold cutA
      rw[if_neg (by omega),Option.map_some,Addr.add_mk,hdl,DM]
     ·dsimp only;rw[hln,hdl,BD];omega
     ·intro hn
      obtain⟨h1,h2⟩:=hne' hn
      dsimp only;rw[hln,hdl,BD];omega
     ·dsimp only;rw[AV,AV,CT,CT]
      simp only[A0,DY,DB,List.sum_nil];omega
     ·dsimp only;rw[aEu,aEu]
      have:aBk W.δ.size k [(f,out)]=aAb W.δ.size k f.count:=by simp[aBk]
      have h3:aAb W.δ.size k f.count≤aAb W.δ.size k (grp.map (·.1.count)).sum:=aAk hfc3
      omega
     ·intro _;dsimp only;omega
   ·have hflv:flv ⟨0,0,0,0⟩= .agg #[.int .i64 0,.int .i64 0,.int .i64 0,.int .i64 0]:=rfl
    rw[hflv]
    have hnews:(cells.drop (dn.length*4)).take (rem.length*4)=aAi (rem.map (·.1)):=by
     rw[←hcells,hrs,AV,aCo,AR]
     have h1:dn.length*4=(aAi (dn.map (·.1))).length:=by rw[aBl,AX]
     have h2:rem.length*4=(aAi (rem.map (·.1))).length:=by rw[aBl,AX]
     rw[h1,List.drop_left,h2,List.take_left]
    have hnl:(aAi (rem.map (·.1))).length=rem.length*4:=by rw[aBl,AX]
    have hall:(aAi (rem.map (·.1))).all Value.oneCell'=true:=aQp _
    repeat(first|(refine st ?_;intros)|refine G.draw (id:=1) [(4,.quiet),(5,.quiet),(10,.quiet),(11,.quiet)] (h:= ?_)|refine G.draw [] (h:= ?_)|refine G.drawOrd (id:=16) [0,1,2,5,6,7,8,9,10,3,4,11,12,13,14] [(4,.eff [8])] (h:= ?_)|(refine cq hD ?_)|(refine cq hA ?_)|(refine cq hL ?_)|(refine cq hSz ?_))
    rename_i p' cap' c' hV'
    have hV3:Vec 27 4 p' (nx.length+rem.length) cap' (aAi ((nx++rem).map (·.1))) c':=by rw[AV,aCo];exact hV'
    have hln:(nx++rem).length=nx.length+rem.length:=by simp
    rw[←hln] at hV3
    (refine Dn.post (Hr:=[[(bz,row [pv bw,.int .i64 o.c0,.int .i64 o.c1,.int .i64 o.c2,.int .i64 o.c3,.int .i64 o.c4,.bool once,.slice p' (nx.length+rem.length) cap',.int .i64 last2.c0,.int .i64 last2.c1,.int .i64 last2.c2,.int .i64 last2.c3,.int .i64 last2.c4,.bool sm2] 186)],aAh bw bd ba bs,cd2,ca2,cs2,c']) Tryz.results129 (hR:= ?_);refine⟨cd2,ca2,cs2,W2,p',cap',c',last2,sm2,nx++rem,by rw[hln],hW2,(hE1.trans hE2).weak (by omega) (by omega),hK1.trans (hK2.sub fun e he=>hl1.mem_iff.2 (aCy he)),hg2.trans hg1,hV3,hl2.trans hl1,.inr (.inl ⟨rfl,by have:=hE1.big;omega⟩)⟩)
   ·have hflv:flv ⟨0,0,0,0⟩= .agg #[.int .i64 0,.int .i64 0,.int .i64 0,.int .i64 0]:=rfl
    rw[hflv]
    have hnews:(cells.drop (dn.length*4)).take (rem.length*4)=aAi (rem.map (·.1)):=by
     rw[←hcells,hrs,AV,aCo,AR]
     have h1:dn.length*4=(aAi (dn.map (·.1))).length:=by rw[aBl,AX]
     have h2:rem.length*4=(aAi (rem.map (·.1))).length:=by rw[aBl,AX]
     rw[h1,List.drop_left,h2,List.take_left]
    have hnl:(aAi (rem.map (·.1))).length=rem.length*4:=by rw[aBl,AX]
    have hall:(aAi (rem.map (·.1))).all Value.oneCell'=true:=aQp _
    repeat(first|(refine st ?_;intros)|refine G.draw (id:=1) [(4,.quiet),(5,.quiet),(10,.quiet),(11,.quiet)] (h:= ?_)|refine G.draw [] (h:= ?_)|refine G.drawOrd (id:=16) [0,1,2,5,6,7,8,9,10,3,4,11,12,13,14] [(4,.eff [8])] (h:= ?_)|(refine cq hD ?_)|(refine cq hA ?_)|(refine cq hL ?_)|(refine cq hSz ?_))
    rename_i p' cap' c' hV'
    have hV3:Vec 27 4 p' (nx.length+rem.length) cap' (aAi ((nx++rem).map (·.1))) c':=by rw[AV,aCo];exact hV'
    have hln:(nx++rem).length=nx.length+rem.length:=by simp
    rw[←hln] at hV3
    (refine Dn.post (Hr:=[[(bz,row [pv bw,.int .i64 o.c0,.int .i64 o.c1,.int .i64 o.c2,.int .i64 o.c3,.int .i64 o.c4,.bool once,.slice p' (nx.length+rem.length) cap',.int .i64 last2.c0,.int .i64 last2.c1,.int .i64 last2.c2,.int .i64 last2.c3,.int .i64 last2.c4,.bool sm2] 186)],aAh bw bd ba bs,cd2,ca2,cs2,c']) Tryz.results129 (hR:= ?_);refine⟨cd2,ca2,cs2,W2,p',cap',c',last2,sm2,nx++rem,by rw[hln],hW2,(hE1.trans hE2).weak (by omega) (by omega),hK1.trans (hK2.sub fun e he=>hl1.mem_iff.2 (aCy he)),hg2.trans hg1,hV3,hl2.trans hl1,.inr (.inr ⟨rfl,fun e=>hft2 (hE1.fault e)⟩)⟩)
 ·obtain rfl:rem=[]:=by
   cases rem with
   |nil=>rfl
   |cons a b=>simp at hrem
  rw[AQ] at hR1 hl1 hrs
  repeat(first|(refine st ?_;intros)|refine G.draw (id:=1) [(4,.quiet),(5,.quiet),(10,.quiet),(11,.quiet)] (h:= ?_)|refine G.draw [] (h:= ?_)|refine G.drawOrd (id:=16) [0,1,2,5,6,7,8,9,10,3,4,11,12,13,14] [(4,.eff [8])] (h:= ?_)|(refine cq hD ?_)|(refine cq hA ?_)|(refine cq hL ?_)|(refine cq hSz ?_))
  (refine Dn.post (Hr:=[[(bz,row [pv bw,.int .i64 o.c0,.int .i64 o.c1,.int .i64 o.c2,.int .i64 o.c3,.int .i64 o.c4,.bool once,.slice pn nx.length nc,.int .i64 last1.c0,.int .i64 last1.c1,.int .i64 last1.c2,.int .i64 last1.c3,.int .i64 last1.c4,.bool sm1] 186)],aAh bw bd ba bs,cd1,ca1,cs1,vn]) Tryz.results129 (hR:= ?_);refine⟨cd1,ca1,cs1,W1,pn,nc,vn,last1,sm1,nx,rfl,hW1,hE1.weak (by omega) (by omega),hK1,hg1,hV1,hl1,.inl ⟨rfl,hR1,hnx1 (fun e=>by rw[e] at hrs;rw[hrs] at h2;simp at h2),by omega,by omega,by omega⟩⟩)
def lgq (n:Nat):Nat:=if h:n≤1 then 0 else 1+lgq ((n+3)/4)
termination_by n
decreasing_by omega
theorem aRx {n:Nat} (h:n≤1):lgq n=0:=by unfold lgq;rw[dif_pos h]
theorem aJe {n:Nat} (h:¬n≤1):lgq n=1+lgq ((n+3)/4):=by rw[lgq,dif_neg h]
theorem aRy:∀{b a:Nat},a≤b→lgq a≤lgq b:=by
 intro b
 induction b using Nat.strongRecOn with
 |ind b ih=>
  intro a hab
  by_cases ha:a≤1
  ·rw[aRx ha];exact AS _
  ·rw[aJe ha,aJe (show¬b≤1 by omega)]
   have:=ih ((b+3)/4) (by omega) (a:=(a+3)/4) (by omega)
   omega
theorem bIs {n m fan:Nat} (hf:4≤fan) (hn:¬n≤1) (h:m*fan≤n+(fan-1)):lgq m+1≤lgq n∧m<n:=by
 have h1:m≤(n+3)/4:=by
  rw[CI (by omega)]
  by_cases hm:m=0
  ·subst hm;omega
  ·obtain⟨j,rfl⟩:∃j,m=j+1:=⟨m-1,by omega⟩
   obtain⟨i,rfl⟩:∃i,fan=4+i:=⟨fan-4,by omega⟩
   have:(j+1)*(4+i)=j*4+j*i+(4+i):=by rw[BD,Nat.mul_add]
   have h0:0≤j*i:=AS _
   omega
 have h2:=aRy h1
 rw[aJe hn]
 omega
theorem aRz:∀(k n:Nat),n≤4^k→lgq n≤k
 |0,n,h=>by rw[aRx (by simpa using h)];omega
 |k+1,n,h=>by
  by_cases h1:n≤1
  ·rw[aRx h1];omega
  ·rw[aJe h1]
   have:=aRz k ((n+3)/4) (by rw[Nat.pow_succ] at h;omega)
   omega
theorem aSa {d:Nat→Option (List Int)} {size k:Nat} {o:T5} {once:Bool} {l:List T5} {rs:List (Fl×List T5)} (h:aCs d size k o once l rs):aBk size k rs=(rs.map (·.1.blocks)).sum:=by
 unfold aBk
 refine congrArg List.sum (List.map_congr_left fun r hr=> ?_)
 obtain⟨h1,h2,_⟩:=h.each r hr
 rw[h2.blk,h1]
structure SortX where
 e:Nat
 P:Nat
 rs:List (Fl×List T5)
 cd:aAc
 ca:aAc
 cs:aAc
 vc:aAc
 W:Wk
 p:Option Addr
 cap:Nat
 last:T5
 sm:Bool
theorem aBd {W W':Wk} {k m:Nat} (h:Ev W W' k m) (hf:W'.δ.fault≠-1):W.δ.fault≠-1:=fun e=>hf (h.fault e)
theorem bNb (bw bd ba bs:Nat) (W:Wk) (cd ca cs:aAc) (h:Wc bd ba bs W cd ca cs) (f:Fl) (fts:List T5) (live0:List Ext) (hfo:aAq W.δ.disk W.δ.size [f.ext] f fts) (hlv:W.live.Perm (aCh f live0)) (o:T5) (ho:aGb o=true) (once:Bool)
  (hr:5*W.δ.size≤W.α.room-W.α.used) (hac:W.δ.acts≤1000000000) (hcn:f.count≤100000) (c:Nat) (hc:c=(W.α.room-W.α.used-2*W.δ.size)/f.width):
  Ct AC 83 [pv bw,flv f,tv o,.bool once] [aAh bw bd ba bs,cd,ca,cs] fun v H'=>
   ∃cd' ca' cs' W' q S P,H'=[aAh bw bd ba bs,cd',ca',cs']∧Wc bd ba bs W' cd' ca' cs'∧Ev W W' (aAb W.δ.size f.width f.count+S+2*S*P) (S+S*P)∧W'.α.gs.Perm W.α.gs∧
    S*aAf W.δ.size f.width≤f.count+q*(aAf W.δ.size f.width-1)∧(q-1)*c≤f.count∧(0<f.count→(q-1)*c<f.count)∧P≤lgq q∧aBr live0 W W'∧
    ((∃g out,v= .tuple #[flv g,.int .i64 0]∧W'.live.Perm (aCh g live0)∧g.width=f.width∧g.count≤f.count∧aAq W'.δ.disk W.δ.size [g.ext] g out∧Sd (ltO o) once out∧Go.Srt.Sp (ltO o) once fts out)∨
     (v= .tuple #[flv ⟨0,0,0,0⟩,.int .i64 5]∧big W.σ.free<S+S*P∧W'.live.Perm W.live∧aBr W.live W W')∨
     (v= .tuple #[flv ⟨0,0,0,0⟩,.int .i64 6]∧W.δ.fault≠-1∧W'.live.Perm W.live∧aBr W.live W W')):=by
 obtain⟨⟨hs1,hs2⟩,hbk,hfr⟩:=h.dev.num
 obtain⟨hu1,hu2,_,hu4⟩:=h.ar.num
 have hk1:=hfo.w1
 have hk5:=hfo.w2
 have hp:=aAj hs1 hk1 hk5
 have htl:=hfo.len
 have hF:=aEh o.c0 o.c1 o.c2 o.c3 o.c4
 rw[show(⟨o.c0,o.c1,o.c2,o.c3,o.c4⟩:T5)=o from rfl,ho] at hF
 have hD:=aGs bw bd ba bs
 have hA:=aGt bw bd ba bs
 have hRd:=aIk bw bd ba bs W cd ca cs h f fts [f.ext] hfo (by omega)
 have hflv:flv f= .agg #[.int .i64 (f.first:Int),.int .i64 (f.blocks:Int),.int .i64 (f.width:Int),.int .i64 (f.count:Int)]:=rfl
 have hov:tv o= .agg #[.int .i64 o.c0,.int .i64 o.c1,.int .i64 o.c2,.int .i64 o.c3,.int .i64 o.c4]:=rfl
 rw[hflv] at hRd⊢
 rw[hov]
 refine Ct.intro Tryz.func83 rfl Tryz.ntmps83 (nle rfl) fun w0=> ?_;dsimp only[aAa,AD]
 repeat(first|(refine st ?_;intros)|(refine cq hF ?_)|(refine cq hD ?_)|(refine cq hA ?_)|(refine cq hL ?_)|(refine cq hSz ?_))
 refine R.call (hct:=hRd) (h:= ?_)
 rintro _ _ ⟨bx,g,ca1,α1,cx,cb,rfl,rfl,hW1,hE1,hg1,hgn,hr1⟩
 try dsimp only[AA,AB]
 have hRc:=aMy bw bd ba bs {W with α:=α1} cd ca1 cs hW1 bx f fts g W.α.gs hg1 0 cx cb hr1
 repeat(first|(refine st ?_;intros)|(refine cq hF ?_)|(refine cq hD ?_)|(refine cq hA ?_)|(refine cq hL ?_)|(refine cq hSz ?_))
 refine R.call (hct:=hRc) (h:= ?_)
 rintro _ _ ⟨ca2,α2,cx2,rfl,rfl,hW2,hE2,hg2,hx2⟩
 try dsimp only[AA,AB]
 have hrm2:α2.room=W.α.room:=by have h1:α1.room=W.α.room:=hE1.room;have h2:α2.room=α1.room:=hE2.room;omega
 have hus2:α2.used=W.α.used:=by
  have h1:=hW2.ar.num.2.2.2
  dsimp only at h1
  rw[h1,(hg2.map (·.n)).sum_nat,←hu4]
 have hL:=bHz ba α2 ca2 hW2.ar
 rw[show(α2.room:Int)-(α2.used:Int)=((W.α.room-W.α.used:Nat):Int) by omega] at hL
 have hSz:=aGh bd W.δ cd h.dev
 have e5:AH .i64 (5*(W.δ.size:Int))=((5*W.δ.size:Nat):Int):=by rw[aAd (by omega)];omega
 obtain⟨Lv,hfoL,hsubL⟩:∃Lv,aAq W.δ.disk W.δ.size Lv f fts∧∀e∈Lv,e∈W.live:=by
  by_cases hb:f.blocks=0
  ·exact⟨[],{hfo with live:=fun e=>absurd hb e},by simp⟩
  ·refine⟨[f.ext],hfo,fun e he=> ?_⟩
   simp only[AY] at he;subst he
   unfold aCh at hlv;rw[if_neg hb] at hlv
   exact hlv.mem_iff.2 AI
 repeat(first|(refine st ?_;intros)|(refine cq hF ?_)|(refine cq hD ?_)|(refine cq hA ?_)|(refine cq hL ?_)|(refine cq hSz ?_))
 rename_i b5 b6 b8 bz
 have hFm:=bMq bz bw bd ba bs {W with α:=α2} cd ca2 cs hW2 f fts Lv hfoL hsubL o once ⟨0,0,0,0,0⟩ false (by dsimp only;omega) (by dsimp only;omega) (by omega) (W.α.room-W.α.used) c (by dsimp only;omega) hc
 rw[hflv] at hFm
 unfold aPk aHx at hFm
 dsimp only at hFm
 have hE02:=hE1.trans hE2
 refine R.call (hct:=hFm) (h:= ?_)
 rintro _ _ ⟨cd3,ca3,cs3,W3,vc3,p3,cap3,last3,sm3,rs3,q,S,l3,rfl,hW3,hE3,hK3,hg3,hV3,hl3,hR3,hS,hq1,hq2,hq3,hcase⟩
 try dsimp only[AA,AB]
 obtain⟨e3,rfl,hcase3⟩:∃e3:Nat,_=Value.int .i64 (e3:Int)∧((e3=0∧l3=fts∧rs3≠[]∧rs3.length=q∧((rs3.map (·.1.count)).sum≤f.count)∧((rs3.map (·.1.blocks)).sum≤S))∨(e3=5∧big W.σ.free<S)∨(e3=6∧W.δ.fault≠-1)):=by
  rcases hcase with⟨e,h⟩|⟨e,h⟩|⟨e,h⟩
  ·exact⟨0,e,.inl ⟨rfl,h⟩⟩
  ·exact⟨5,e,.inr (.inl ⟨rfl,h⟩)⟩
  ·exact⟨6,e,.inr (.inr ⟨rfl,h⟩)⟩
 have hKW3:aBr W.live W W3:=hK3
 have hEW3:=hE02.trans hE3
 repeat(first|(refine st ?_;intros)|(refine cq hF ?_)|(refine cq hD ?_)|(refine cq hA ?_)|(refine cq hL ?_)|(refine cq hSz ?_))
 refine G.loop (X:=SortX) (fun x=>Wc bd ba bs x.W x.cd x.ca x.cs∧Ev W x.W (aAb W.δ.size f.width f.count+S+2*S*x.P) (S+S*x.P)∧aBr W.live W x.W∧x.W.α.gs.Perm W.α.gs∧x.W.live.Perm (aAy (x.rs.map (·.1)) W.live)∧Vec 27 4 x.p x.rs.length x.cap (aAi (x.rs.map (·.1))) x.vc∧x.P≤lgq q∧
   ((x.e=0∧aCs x.W.δ.disk W.δ.size f.width o once fts x.rs∧0<x.rs.length∧(x.rs.map (·.1.count)).sum≤f.count∧aBk W.δ.size f.width x.rs≤S∧x.P+lgq x.rs.length≤lgq q)∨(x.e=5∧big W.σ.free<S+S*x.P)∨(x.e=6∧W.δ.fault≠-1)))
  (fun x=>[(11,.int .i64 (x.e:Int)),(12,pv bz),(8,pv b8),(5,pv b5),(0,pv bw)])
  (fun x=>[[(bz,row [pv bw,.int .i64 o.c0,.int .i64 o.c1,.int .i64 o.c2,.int .i64 o.c3,.int .i64 o.c4,.bool once,.slice x.p x.rs.length x.cap,.int .i64 x.last.c0,.int .i64 x.last.c1,.int .i64 x.last.c2,.int .i64 x.last.c3,.int .i64 x.last.c4,.bool x.sm] 186)],aAh bw bd ba bs,x.cd,x.ca,x.cs,x.vc,[(b8,row [.int .i64 0,.int .i64 0,.int .i64 0,.int .i64 0] 27)],[(b5,row [.int .i64 (f.first:Int),.int .i64 (f.blocks:Int),.int .i64 (f.width:Int),.int .i64 (f.count:Int)] 27)]])
  (fun x=>if x.e=0 then x.rs.length+1 else 0) ⟨e3,0,rs3,cd3,ca3,cs3,vc3,W3,p3,cap3,last3,sm3⟩
  ⟨hW3,hEW3.weak (by dsimp only;omega) (by dsimp only;omega),hKW3,hg3.trans hg2,hl3,hV3,AS _,?_⟩ (body:= ?_)
 ·rcases hcase3 with⟨e,rfl,h1,h2,h3,h4⟩|⟨e,h1⟩|⟨e,h1⟩
  ·exact .inl ⟨e,hR3,List.length_pos_iff.2 h1,h3,by rw[aSa hR3];exact h4,by dsimp only;rw[h2];omega⟩
  ·exact .inr (.inl ⟨e,by dsimp only;omega⟩)
  ·exact .inr (.inr ⟨e,h1⟩)
 rintro⟨e4,P4,rs4,cd4,ca4,cs4,vc4,W4,p4,cap4,last4,sm4⟩ ⟨hW4,hE4,hK4,hg4,hl4,hV4,hP4,hc4⟩
 dsimp only at hW4 hE4 hK4 hg4 hl4 hV4 hP4 hc4⊢
 have hP9:P4≤9:=BA hP4 (aRz 9 q (by omega))
 have hSle:=S_le hp hS
 have hSP:2*S*P4≤2*S*9:=BU _ hP9
 have hnf:=aAv (n:=f.count) hp
 have hsz4:=hE4.size
 have hrm4:W4.α.room=W.α.room:=hE4.room
 have hac4:=hE4.acts
 have hus4:W4.α.used=W.α.used:=by rw[hW4.ar.num.2.2.2,(hg4.map (·.n)).sum_nat,←hu4]
 rcases hc4 with⟨rfl,hR4,hrp4,hcs4,hfA4,hPl4⟩|hc4
 ·by_cases h1:rs4.length=1
  ·obtain⟨r,rfl⟩:∃r,rs4=[r]:=by
    match rs4,h1 with
    |[r],_=>exact⟨r,rfl⟩
   obtain⟨_,h0|⟨vb,rest,rfl,rfl,hvl,hmc,hcm⟩⟩:=hV4
   ·simp at h0
   have hg0:=aJq (rs:=[r]) (rest:=rest) (j:=0) (r:=r) rfl
   generalize hcells:aAi ([r].map (·.1))++rest=cells at*
   obtain⟨hr1,hr2,hr3⟩:=hR4.each r (by simp)
   have hsp:=hR4.sp
   rw[A6,List.flatMap_nil,AQ] at hsp
   have hlf:W4.live.Perm (aCh f (aCh r.1 live0)):=hl4.trans ((aCx hlv).trans (aDv _ _ _))
   have hFr:=aKn bw bd ba bs W4 cd4 ca4 cs4 hW4 f _ (aDm.add hlf)
   rw[hflv] at hFr
   repeat(first|(refine st ?_;intros)|(refine cq hF ?_)|(refine cq hD ?_)|(refine cq hA ?_)|(refine cq hL ?_)|(refine cq hSz ?_))
   refine R.call (hct:=hFr) (h:= ?_)
   rintro _ _ ⟨cs5,W5,rfl,rfl,hW5,hE5,hδ5,hα5,hl5⟩
   try dsimp only[AA,AB]
   repeat(first|(refine st ?_;intros)|(refine cq hF ?_)|(refine cq hD ?_)|(refine cq hA ?_)|(refine cq hL ?_)|(refine cq hSz ?_))
   (refine Dn.post (Hr:=[aAh bw bd ba bs,cd4,ca4,cs5]) Tryz.results83 (hR:= ?_);refine⟨cd4,ca4,cs5,W5,q,S,P4,rfl,hW5,(hE4.trans hE5).weak (by omega) (by omega),by rw[hα5];exact hg4,hS,hq1,hq2,by omega,fun x hx=> ?_,.inl ⟨r.1,r.2,rfl,by rw[hl5],hr1,by simpa using hcs4,?_,hr3,hsp⟩⟩)
   ·rw[hδ5]
    exact hK4 x (by
     obtain⟨e,he,h2⟩:=hx
     exact⟨e,hlv.mem_iff.2 (aKq he),h2⟩)
   ·rw[hδ5];exact hr2
  ·have hcnt0:fts≠[]:=by
    intro e0
    have h2:¬q≤1:=fun hq=>by
     have h3:=aJe (n:=rs4.length) (by omega)
     rw[aRx hq] at hPl4;omega
    have hc1:1≤c:=by rw[hc,CI (by omega)];omega
    have h4:(q-1)*1≤(q-1)*c:=BU _ hc1
    have h5:=congrArg List.length e0
    rw[htl,AU] at h5
    omega
   obtain⟨fan,hfan⟩:∃fan,fan+1=(W.α.room-W.α.used)/W.δ.size:=⟨(W.α.room-W.α.used)/W.δ.size-1,by
    have:5≤(W.α.room-W.α.used)/W.δ.size:=by rw[CI (by omega)];omega
    omega⟩
   have hf4:4≤fan:=by
    have:5≤(W.α.room-W.α.used)/W.δ.size:=by rw[CI (by omega)];omega
    omega
   have hPs:=bNa bz bw bd ba bs W4 cd4 ca4 cs4 hW4 f.width hk1 hk5 o once fts hcnt0 rs4 (by rw[hsz4];exact hR4) W.live hl4 p4 cap4 vc4 hV4 (by omega) (by rw[hsz4,hrm4,hus4];exact hr) (by omega) (by omega) last4 sm4 fan (by rw[hsz4,hrm4,hus4];exact hfan)
   unfold aPk aHx at hPs
   rw[hsz4] at hPs
   repeat(first|(refine st ?_;intros)|(refine cq hF ?_)|(refine cq hD ?_)|(refine cq hA ?_)|(refine cq hL ?_)|(refine cq hSz ?_))
   refine R.call (hct:=hPs) (h:= ?_)
   rintro _ _ ⟨cd5,ca5,cs5,W5,p5,cap5,vc5,last5,sm5,rs5,rfl,hW5,hE5,hK5,hg5,hV5,hl5,hcase5⟩
   try dsimp only[AA,AB]
   have hl2S:2*S*(P4+1)=2*S*P4+2*S:=Nat.mul_succ _ _
   have hlS:S*(P4+1)=S*P4+S:=Nat.mul_succ _ _
   have hPq:P4+1≤lgq q:=by
    have h3:=aJe (n:=rs4.length) (by omega)
    omega
   have hE45:Ev W W5 (aAb W.δ.size f.width f.count+S+2*S*(P4+1)) (S+S*(P4+1)):=(hE4.trans hE5).weak (by omega) (by omega)
   obtain⟨e5',rfl,hcase6⟩:∃e5:Nat,_=Value.int .i64 (e5:Int)∧((e5=0∧aCs W5.δ.disk W.δ.size f.width o once fts rs5∧0<rs5.length∧(rs5.map (·.1.count)).sum≤f.count∧aBk W.δ.size f.width rs5≤S∧P4+1+lgq rs5.length≤lgq q∧rs5.length<rs4.length)∨(e5=5∧big W.σ.free<S+S*(P4+1))∨(e5=6∧W.δ.fault≠-1)):=by
    rcases hcase5 with⟨e,h1,h2,h3,h4,h5⟩|⟨e,h2⟩|⟨e,h2⟩
    ·have:=bIs hf4 (by omega) h3
     exact⟨0,e,.inl ⟨rfl,h1,h2,by omega,by omega,by omega,this.2⟩⟩
    ·exact⟨5,e,.inr (.inl ⟨rfl,by have:=hE4.big;omega⟩)⟩
    ·exact⟨6,e,.inr (.inr ⟨rfl,aBd hE4 h2⟩)⟩
   repeat(first|(refine st ?_;intros)|(refine cq hF ?_)|(refine cq hD ?_)|(refine cq hA ?_)|(refine cq hL ?_)|(refine cq hSz ?_))
   refine Dn.round ⟨e5',P4+1,rs5,cd5,ca5,cs5,vc5,W5,p5,cap5,last5,sm5⟩ ⟨hW5,hE45,hK4.trans hK5,hg5.trans hg4,hl5,hV5,hPq,?_⟩ ?_
   ·rcases hcase6 with⟨e,h1,h2,h3,h4,h5,_⟩|h2|h2
    ·exact .inl ⟨e,h1,h2,h3,h4,h5⟩
    ·exact .inr (.inl h2)
    ·exact .inr (.inr h2)
   ·rcases hcase6 with⟨e,_,_,_,_,_,h6⟩|⟨e,_⟩|⟨e,_⟩<;>(dsimp only;subst e;simp;try omega)
 ·have he4:e4≠0∧(e4:Int)≠0:=by rcases hc4 with⟨rfl,_⟩|⟨rfl,_⟩<;>decide
  obtain⟨he4,he4i⟩:=he4
  have hll4:rs4.length≤9223372036854775807:=by
   obtain⟨h1,h0|⟨vb,rest,_,_,_,hmc,hcm⟩⟩:=hV4
   ·omega
   ·simp only[maxLen] at hcm;omega
  repeat(first|(refine st ?_;intros)|(refine cq hF ?_)|(refine cq hD ?_)|(refine cq hA ?_)|(refine cq hL ?_)|(refine cq hSz ?_))
  refine G.loop (X:=FreeX) (fun x=>x.j≤rs4.length∧Wc bd ba bs x.W cd4 ca4 x.cs∧Ev W4 x.W 0 0∧x.W.δ=W4.δ∧x.W.α=W4.α∧x.W.live.Perm (aAy ((rs4.drop x.j).map (·.1)) W.live))
   (fun x=>[(71,.int .i64 (x.j:Int)),(70,.int .i64 (rs4.length:Int)),(69,.slice p4 rs4.length cap4),(11,.int .i64 (e4:Int)),(8,pv b8),(0,pv bw)])
   (fun x=>[aAh bw bd ba bs,cd4,ca4,x.cs,vc4,[(b8,row [.int .i64 0,.int .i64 0,.int .i64 0,.int .i64 0] 27)]])
   (fun x=>rs4.length-x.j) ⟨0,cs4,W4⟩ ⟨AS _,hW4,Ev.refl _,rfl,rfl,hl4⟩ (body:= ?_)
  rintro⟨j,cs5,W5⟩ ⟨hj,hW5,hE5,hδ5,hα5,hl5⟩
  dsimp only at hj hW5 hE5 hδ5 hα5 hl5⊢
  by_cases hjk:j<rs4.length
  ·have hjg:rs4[j]? =some rs4[j]:=AE hjk
   have hdj:rs4.drop j=rs4[j]::rs4.drop (j+1):=BM hjk
   obtain⟨_,h0|⟨vb,rest,rfl,rfl,hvl,hmc,hcm⟩⟩:=hV4
   ·omega
   have hgj:=aJq (rest:=rest) hjg
   generalize hcells:aAi (rs4.map (·.1))++rest=cells at*
   rw[hdj] at hl5
   generalize rs4[j]=r at*
   have hFr:=aKn bw bd ba bs W5 cd4 ca4 cs5 hW5 r.1 _ (aDm.add (hl5.trans (aDl _ _ _)))
   have hflr:flv r.1= .agg #[.int .i64 (r.1.first:Int),.int .i64 (r.1.blocks:Int),.int .i64 (r.1.width:Int),.int .i64 (r.1.count:Int)]:=rfl
   rw[hflr] at hFr
   have e3:AH .i64 ((j:Int)+1)=((j+1:Nat):Int):=by rw[aAd (by omega)];rfl
   repeat(first|(refine st ?_;intros)|(refine cq hF ?_)|(refine cq hD ?_)|(refine cq hA ?_)|(refine cq hL ?_)|(refine cq hSz ?_))
   refine R.call (hct:=hFr) (h:= ?_)
   rintro _ _ ⟨cs6,W6,rfl,rfl,hW6,hE6,hδ6,hα6,hl6⟩
   try dsimp only[AA,AB]
   repeat(first|(refine st ?_;intros)|(refine cq hF ?_)|(refine cq hD ?_)|(refine cq hA ?_)|(refine cq hL ?_)|(refine cq hSz ?_))
   exact Dn.round ⟨j+1,cs6,W6⟩ ⟨hjk,hW6,hE5.trans hE6,hδ6.trans hδ5,hα6.trans hα5,by dsimp only;rw[hl6]⟩ (by dsimp only;omega)
  ·obtain rfl:j=rs4.length:=by omega
   have hl6:W5.live.Perm W.live:=by rw[List.drop_length] at hl5;exact hl5
   have hKx:aBr W.live W W5:=fun x hx=>by rw[hδ5];exact hK4 x hx
   have hKy:aBr live0 W W5:=hKx.sub fun e he=>hlv.mem_iff.2 (aKq he)
   repeat(first|(refine st ?_;intros)|(refine cq hF ?_)|(refine cq hD ?_)|(refine cq hA ?_)|(refine cq hL ?_)|(refine cq hSz ?_))
   (refine Dn.post (Hr:=[aAh bw bd ba bs,cd4,ca4,cs5]) Tryz.results83 (hR:= ?_);refine⟨cd4,ca4,cs5,W5,q,S,P4,rfl,hW5,(hE4.trans hE5).weak (by omega) (by omega),by rw[hα5];exact hg4,hS,hq1,hq2,hP4,hKy,?_⟩)
   rcases hc4 with⟨rfl,h1⟩|⟨rfl,h1⟩
   ·exact .inr (.inl ⟨rfl,h1,hl6,hKx⟩)
   ·exact .inr (.inr ⟨rfl,h1,hl6,hKx⟩)
theorem bNc (p:Option Addr) (n cap:Nat) (ts:List T5) (c:aAc) (hv:RV p n ts c) (hn:n≤1000000000) (p2:Option Addr) (n2 cap2:Nat) (us:List T5) (c2:aAc) (hv2:RV p2 n2 us c2):
  CtQ AC 23 [.slice p n cap,.slice p2 n2 cap2] [c,c2] (.bool (decide (ts=us))):=by
 have hlen:=hv.1
 have hlen2:=hv2.1
 by_cases hnn:n=n2
 ·subst hnn
  refine Ct.intro Tryz.func23 rfl Tryz.ntmps23 (nle rfl) fun w0=> ?_;dsimp only[aAa,AD]
  repeat(first|(refine st ?_;intros)|refine G.draw [] (h:= ?_))
  refine G.loop (X:=Nat) (fun i=>i≤n∧ts.take i=us.take i) (fun i=>[(5,.int .i64 (i:Int)),(0,.slice p n cap),(1,.slice p2 n cap2)]) (fun _=>[c,c2]) (fun i=>n-i) 0 ⟨AS _,by simp⟩ (body:= ?_)
  rintro i ⟨hi,hz⟩
  by_cases h0:i<n
  ·obtain⟨b,off,cs,T,fz,rfl,rfl,hr⟩:=hv.pos (by omega)
   obtain⟨b2,off2,cs2,T2,fz2,rfl,rfl,hr2⟩:=hv2.pos (by omega)
   have hj:=hr i h0
   have hj2:=hr2 i h0
   have hlt:i<ts.length:=by omega
   have hlt2:i<us.length:=by omega
   have hgd:ts.getD i ⟨0,0,0,0,0⟩=ts[i]:=by simp[AN,hlt]
   have hgd2:us.getD i ⟨0,0,0,0,0⟩=us[i]:=by simp[AN,hlt2]
   have htk:ts.take (i+1)=ts.take i++[ts[i]]:=by rw[BN];simp[hlt]
   have htk2:us.take (i+1)=us.take i++[us[i]]:=by rw[BN];simp[hlt2]
   have hne:ts[i]≠us[i]→ts≠us:=fun h e=>h (by subst e;rfl)
   rw[hgd] at hj
   rw[hgd2] at hj2
   have e1:AH .i64 ((i:Int)+1)=((i+1:Nat):Int):=by rw[aAd (by omega)];rfl
   generalize ts[i]=t at*
   generalize us[i]=u at*
   simp only[aAl] at hj hj2
   by_cases htu:t=u
   ·subst htu
    repeat(first|(refine st ?_;intros)|refine G.draw [] (h:= ?_))
    exact Dn.round (i+1) ⟨by omega,by rw[htk,htk2,hz]⟩ (by omega)
   ·rw[decide_eq_false (hne htu)]
    have hne5:¬(t.c0=u.c0∧t.c1=u.c1∧t.c2=u.c2∧t.c3=u.c3∧t.c4=u.c4):=fun ⟨h0,h1,h2,h3,h4⟩=>htu (by cases t;cases u;simp_all)
    repeat(first|(refine st ?_;intros)|refine G.draw [] (h:= ?_))
    (refine Dn.post (Hr:=[[(b,aCa cs T fz)],[(b2,aCa cs2 T2 fz2)]]) Tryz.results23 (hR:= ?_);exact⟨rfl,rfl⟩)
  ·obtain rfl:i=n:=by omega
   have hf:ts=us:=by
    have h1:=A4 (l:=ts) (i:=i) (by omega)
    have h2:=A4 (l:=us) (i:=i) (by omega)
    rw[←h1,←h2,hz]
   rw[decide_eq_true hf]
   repeat(first|(refine st ?_;intros)|refine G.draw [] (h:= ?_))
   (refine Dn.post (Hr:=[c,c2]) Tryz.results23 (hR:= ?_);exact⟨rfl,rfl⟩)
 ·rw[decide_eq_false (by intro e;subst e;omega)]
  refine Ct.intro Tryz.func23 rfl Tryz.ntmps23 (nle rfl) fun w0=> ?_;dsimp only[aAa,AD]
  repeat(first|(refine st ?_;intros)|refine G.draw [] (h:= ?_))
  (refine Dn.post (Hr:=[c,c2]) Tryz.results23 (hR:= ?_);exact⟨rfl,rfl⟩)
def aEi (b:Nat):Nat:=(b+(b/3+1))*(1+lgq (b/3+1))
def aXg (b:Nat):Nat:=b+(b+(b/3+1))*(1+2*lgq (b/3+1))
theorem aXh {s k n L c q S:Nat} (hs:8≤s) (hk1:1≤k) (hk5:k≤5) (h5:5*s≤L) (hc:c=(L-2*s)/k) (hS:S*aAf s k≤n+q*(aAf s k-1)) (hq1:(q-1)*c≤n) (hq2:0<n→(q-1)*c<n):
  q≤aAb s k n/3+1∧S≤aAb s k n+(aAb s k n/3+1):=by
 have hp:1≤aAf s k:=aAj hs hk1 hk5
 have hc3:3*aAf s k≤c:=by
  rw[hc,CI (by omega)]
  have h1:aAf s k*k≤s-2:=DK _ _
  rw[Nat.mul_assoc];omega
 have hnb:n≤aAb s k n*aAf s k:=by
  unfold aAb
  generalize aAf s k=h at*
  have:=Nat.div_add_mod (n+h-1) h
  have h2:=Nat.mod_lt (n+h-1) (show 0<h by omega)
  rw[EC] at this
  omega
 generalize aAb s k n=b at*
 generalize aAf s k=h at*
 have hq:q≤b/3+1:=by
  rcases Nat.eq_zero_or_pos n with rfl|hn
  ·have h1:(q-1)*1≤(q-1)*c:=BU _ (by omega)
   omega
  ·have h1:(q-1)*(3*h)≤(q-1)*c:=BU _ hc3
   have h2:=hq2 hn
   have h3:(q-1)*3*h<b*h:=by rw[Nat.mul_assoc];omega
   have h4:(q-1)*3<b:=Nat.lt_of_mul_lt_mul_right h3
   omega
 refine⟨hq,?_⟩
 have h1:q*(h-1)≤q*h:=BU _ (by omega)
 have h2:S*h≤(b+q)*h:=by rw[DM];omega
 have h3:S≤b+q:=Nat.le_of_mul_le_mul_right h2 (by omega)
 omega
theorem fo_sub {d:Nat→Option (List Int)} {s:Nat} {f:Fl} {ts:List T5} {live l0:List Ext} (h:aAq d s [f.ext] f ts) (hl:live.Perm (aCh f l0)):∃Lv,aAq d s Lv f ts∧∀e∈Lv,e∈live:=by
 by_cases hb:f.blocks=0
 ·exact⟨[],{h with live:=fun e=>absurd hb e},by simp⟩
 ·refine⟨[f.ext],h,fun e he=> ?_⟩
  simp only[AY] at he;subst he
  unfold aCh at hl;rw[if_neg hb] at hl
  exact hl.mem_iff.2 AI
theorem aKb {bd ba bs:Nat} {W W':Wk} {cd ca cs cd' ca' cs':aAc} (h:Wc bd ba bs W cd ca cs) (h':Wc bd ba bs W' cd' ca' cs') (hg:W'.α.gs.Perm W.α.gs):W'.α.used=W.α.used:=by
 rw[h'.ar.num.2.2.2,(hg.map (·.n)).sum_nat,←h.ar.num.2.2.2]
theorem bIt {b m l:Nat} (h:b≤m) (hl:m/3+1≤4^l):aEi b≤(m+(m/3+1))*(1+l):=by
 unfold aEi
 have h1:=aRz l (b/3+1) (by omega)
 exact DA (by omega) (by omega)
theorem aXi {b:Nat} (h:b≤1000):aXg b≤20000:=by
 unfold aXg
 have h1:=aRz 5 (b/3+1) (by omega)
 have h2:(b+(b/3+1))*(1+2*lgq (b/3+1))≤1334*11:=DA (by omega) (by omega)
 omega
theorem aLw (f:Fl) (l:List Ext):aBb (aCh f l)=f.blocks+aBb l:=by
 unfold aCh
 split
 ·rename_i h;rw[h];simp
 ·simp[aBb,Fl.ext]
theorem bNd {bd ba bs:Nat} {W:Wk} {cd ca cs:aAc} (h:Wc bd ba bs W cd ca cs) {l:List Ext} (hl:W.live.Perm l):aBb W.σ.free+aBb l=W.σ.n:=by
 rw[←aFp hl];exact h.live.sum
theorem Sort_u (bw bd ba bs:Nat) (W:Wk) (cd ca cs:aAc) (h:Wc bd ba bs W cd ca cs) (f:Fl) (fts:List T5) (live0:List Ext) (hfo:aAq W.δ.disk W.δ.size [f.ext] f fts) (hlv:W.live.Perm (aCh f live0)) (o:T5) (ho:aGb o=true) (once:Bool)
  (hr:5*W.δ.size≤W.α.room-W.α.used) (hac:W.δ.acts≤1000000000) (hcn:f.count≤100000):
  Ct AC 83 [pv bw,flv f,tv o,.bool once] [aAh bw bd ba bs,cd,ca,cs] fun v H'=>
   ∃cd' ca' cs' W',H'=[aAh bw bd ba bs,cd',ca',cs']∧Wc bd ba bs W' cd' ca' cs'∧Ev W W' (aXg f.blocks) (aEi f.blocks)∧W'.α.gs.Perm W.α.gs∧aBr live0 W W'∧
    ((∃g out,v= .tuple #[flv g,.int .i64 0]∧W'.live.Perm (aCh g live0)∧g.width=f.width∧g.count≤f.count∧aAq W'.δ.disk W.δ.size [g.ext] g out∧Sd (ltO o) once out∧Go.Srt.Sp (ltO o) once fts out)∨
     (v= .tuple #[flv ⟨0,0,0,0⟩,.int .i64 5]∧big W.σ.free<aEi f.blocks∧W'.live.Perm W.live∧aBr W.live W W')∨
     (v= .tuple #[flv ⟨0,0,0,0⟩,.int .i64 6]∧W.δ.fault≠-1∧W'.live.Perm W.live∧aBr W.live W W')):=by
 refine(bNb bw bd ba bs W cd ca cs h f fts live0 hfo hlv o ho once hr hac hcn _ rfl).mono ?_
 rintro v H' ⟨cd',ca',cs',W',q,S,P,rfl,hW,hE,hg,hS,hq1,hq2,hP,hK,hc⟩
 obtain⟨⟨hs1,hs2⟩,_⟩:=h.dev.num
 obtain⟨h1,h2⟩:=aXh hs1 hfo.w1 hfo.w2 hr rfl hS hq1 hq2
 rw[←hfo.blk] at h1 h2 hE
 have hP2:P≤lgq (f.blocks/3+1):=BA hP (aRy h1)
 have hm:S*P≤(f.blocks+(f.blocks/3+1))*lgq (f.blocks/3+1):=DA h2 hP2
 have hT:S+S*P≤aEi f.blocks:=by unfold aEi;rw[Nat.mul_add,Nat.mul_one];omega
 have hA:f.blocks+S+2*S*P≤aXg f.blocks:=by
  unfold aXg
  rw[Nat.mul_add,Nat.mul_one,Nat.mul_left_comm,Nat.mul_assoc]
  omega
 refine⟨cd',ca',cs',W',rfl,hW,hE.weak hA hT,hg,hK,?_⟩
 rcases hc with hc|⟨e,hb,hc⟩|hc
 ·exact .inl hc
 ·exact .inr (.inl ⟨e,by omega,hc⟩)
 ·exact .inr (.inr hc)
structure EachX (K:Type) where
 i:Nat
 cd:aAc
 ca:aAc
 cs:aAc
 cx:aAc
 cb:aAc
 W:Wk
 k:K
def cat (l:List (Fl×List T5)):List T5:=l.flatMap (·.2)
def aEz (κ:Nat) (l:List (Fl×List T5)):Nat:=(l.map fun x=>x.1.blocks+x.1.count*κ).sum
theorem aZk {l:List (Fl×List T5)} {i:Nat} {x:Fl×List T5} (h:l[i]? =some x):cat (l.take (i+1))=cat (l.take i)++x.2:=by
 unfold cat;rw[BN,h];simp
theorem bEs {κ:Nat} {l:List (Fl×List T5)} {i:Nat} {x:Fl×List T5} (h:l[i]? =some x):aEz κ (l.take (i+1))=aEz κ (l.take i)+(x.1.blocks+x.1.count*κ):=by
 unfold aEz;rw[BN,h];simp
theorem bEt {κ:Nat} (l:List (Fl×List T5)) (i:Nat):aEz κ (l.take i)≤aEz κ l:=by
 have:aEz κ l=aEz κ (l.take i)+aEz κ (l.drop i):=by unfold aEz;rw[←List.sum_append_nat,←AV,BT]
 omega
theorem bEu (l:List (Fl×List T5)) (i:Nat):cat l=cat (l.take i)++cat (l.drop i):=by unfold cat;rw[←B9,BT]
theorem bNe (bw bd ba bs:Nat) {K:Type} (M:aAt K) (k0:K) (W:Wk) (cd ca cs:aAc) (h:Wc bd ba bs W cd ca cs) (width bound κ:Nat) (hwd:1≤width) (hwd2:width≤5) (hbn:bound≤100000000)
  (mk:Nat) (hcal:Callable AC mk) (fs us:List Value) (ok:K→T5→Prop) (hM:aGi M width ok mk fs us) (hκ:∀k t,ok k t→(M.outs k t).length≤κ) (hκb:κ≤10000)
  (l:List (Fl×List T5)) (hl:∀x∈l,aBx W x∧x.1.count≤1000000) (p:Option Addr) (cap:Nat) (cf:aAc) (hV:Vec 27 4 p l.length cap (aAi (l.map (·.1))) cf)
  (hok:M.oks ok k0 (cat l)) (hbd:(M.all k0 (cat l)).length≤bound) (hr:2*W.δ.size≤W.α.room-W.α.used) (hac:W.δ.acts+aEz κ l≤10000000000):
  Ct AC 82 [pv bw,.int .i64 (width:Int),.int .i64 (bound:Int),.func (.func mk) fs.toArray us.toArray,.slice p l.length cap] [aAh bw bd ba bs,cd,ca,cs,cf,(M.C k0).flatten] fun v H'=>
   ∃cd' ca' cs' W' k',H'=[aAh bw bd ba bs,cd',ca',cs',cf,(M.C k').flatten]∧Wc bd ba bs W' cd' ca' cs'∧Ev W W' (aEz κ l+1) (aAb W.δ.size width bound)∧W'.α.gs.Perm W.α.gs∧aBr W.live W W'∧
    ((∃f,v= .tuple #[flv f,.int .i64 0]∧M.bad k0 (cat l)=none∧k'=M.st k0 (cat l)∧W'.live.Perm (aCh f W.live)∧f.width=width∧f.count=(M.all k0 (cat l)).length∧aAq W'.δ.disk W.δ.size [f.ext] f (M.all k0 (cat l)))∨
     (∃e:Int,v= .tuple #[flv ⟨0,0,0,0⟩,.int .i64 e]∧e≠0∧W'.live.Perm W.live∧((e=6∧W.δ.fault≠-1)∨(e=5∧big W.σ.free<aAb W.δ.size width bound)∨∃n:Nat,M.bad k0 (cat l)=some n∧e=(n:Int)))):=by
 obtain⟨⟨hs1,hs2⟩,_⟩:=h.dev.num
 have hh:=aAj hs1 hwd hwd2
 have hWr:=aJy bw bd ba bs W cd ca cs h width bound hwd hwd2 hbn (by omega)
 have hVl:=hV.1
 have hlm:l.length≤maxLen:=by
  rcases hV.2 with⟨_,e,_⟩|⟨_,_,_,_,_,h1,h2⟩
  ·omega
  ·omega
 simp only[maxLen] at hlm
 have hz:flv ⟨0,0,0,0⟩= .agg #[.int .i64 0,.int .i64 0,.int .i64 0,.int .i64 0]:=rfl
 refine Ct.introD Tryz.func82 rfl Tryz.ntmps82 (nle rfl) fun w0=> ?_;dsimp only[aAa,AD]
 repeat(refine st ?_;intros)
 apply R.call
 ·exact rfl
 ·exact hWr
 ·exact(by repeat(first|exact aAo.nil|(apply aAo.cons;·(repeat(first|exact aAn.here|apply aAn.there|exact aAn.nil)))))
 ·exact rfl
 ·exact nle rfl
 rintro _ _ (⟨hfit,bx,first,g,cd',ca',cs',W1,cx,cb,rfl,rfl,hW1,hE1,e1,e2,e3,e4,e5⟩|⟨hfull,rfl,cd',ca',cs',W1,rfl,hW1,hE1,e1,e2,e3⟩)
 ·repeat(refine st ?_;intros)
  rename_i b8 b10 b12
  have hus1:W1.α.used=W.α.used+W.δ.size:=by
   rw[hW1.ar.num.2.2.2,(e2.map (·.n)).sum_nat,h.ar.num.2.2.2];simp[e3];omega
  have hrm1:W1.α.room=W.α.room:=hE1.room
  have hsz1:W1.δ.size=W.δ.size:=hE1.size
  refine G.loop (X:=EachX K) (fun x=>x.i≤l.length∧Wc bd ba bs x.W x.cd x.ca x.cs∧Ev W x.W (aEz κ (l.take x.i)) (aAb W.δ.size width bound)∧aBr W.live W x.W∧x.W.α.gs.Perm (g::W.α.gs)∧aDm first (aAb W.δ.size width bound) W.live x.W.live∧
    aIa bw bx x.W first (aAb W.δ.size width bound) width bound g (M.all k0 (cat (l.take x.i))) x.cx x.cb∧x.k=M.st k0 (cat (l.take x.i))∧M.bad k0 (cat (l.take x.i))=none)
   (fun x=>[(31,.int .i64 (x.i:Int)),(30,.int .i64 (l.length:Int)),(29,.slice p l.length cap),(12,pv b12),(10,pv b10),(8,pv b8),(0,pv bw)])
   (fun x=>[[(b8,row [.func (.func mk) fs.toArray us.toArray] 88)],[(b12,row [pv bx] 120)],[(b10,row [.int .i64 0,.int .i64 0,.int .i64 0,.int .i64 0] 27)],aAh bw bd ba bs,x.cd,x.ca,x.cs,x.cx,x.cb,cf,(M.C x.k).flatten]) (fun x=>l.length-x.i) ⟨0,cd',ca',cs',cx,cb,W1,k0⟩
   ⟨AS _,hW1,by simpa[aEz] using hE1,fun x _=>by rw[e1],e2,e4,by simpa[cat,aAt.all] using e5,by simp[cat,aAt.st],by simp[cat,aAt.bad]⟩ (body:= ?_)
  rintro⟨i,cd1,ca1,cs1,cx1,cb1,W2,k2⟩ ⟨hi,hW2,hE2,hK2,hg2,hl2,hw2,hk2,hb2⟩
  dsimp only at hi hW2 hE2 hK2 hg2 hl2 hw2 hk2 hb2⊢
  have hsz2:W2.δ.size=W.δ.size:=hE2.size
  have hrm2:W2.α.room=W.α.room:=hE2.room
  have hus2:W2.α.used=W.α.used+W.δ.size:=by
   rw[hW2.ar.num.2.2.2,(hg2.map (·.n)).sum_nat,h.ar.num.2.2.2];simp[e3];omega
  have hac2:=hE2.acts.2
  have hai:=bEt (κ:=κ) l i
  have hai1:=bEt (κ:=κ) l (i+1)
  by_cases hlt:i<l.length
  ·have hli:l[i]? =some l[i]:=AE hlt
   obtain⟨⟨LvF,hfo,hsub⟩,hcn⟩:=hl _ (List.getElem_mem hlt)
   have hcs:=bEu l (i+1)
   rw[aZk hli] at hcs
   have hokl:M.oks ok k2 l[i].2:=by
    rw[hcs] at hok
    rw[hk2]
    exact((aAt.oks_app (aAt.oks_app hok).1).2 hb2)
   have hbdl:(M.all k0 (cat (l.take i))).length+(M.all k2 l[i].2).length≤bound:=by
    rw[hcs,aAt.all_app,aAt.all_app,AF,AF,←hk2] at hbd
    omega
   have hOv:=aXa bw bd ba bs M k2 (M.all k0 (cat (l.take i))) W2 cd1 ca1 cs1 hW2 bx b8 b12 first width bound κ g W.α.gs W.live cx1 cb1 hg2 (by rw[hsz2];exact hw2) (by rw[hsz2];exact hl2) l[i].1 l[i].2 LvF (by rw[hsz2];exact hfo.keep (fun x ⟨e,he,h2⟩=>hK2 x ⟨e,hsub e he,h2⟩)) hsub
    mk hcal fs us ok hM hκ hκb hokl hbdl hwd hwd2 (by omega) (by omega) hcn
   rw[hsz2] at hOv
   obtain⟨vb,rest,rfl,rfl,hvl,hmc,hcm⟩:∃b rest,p=some ⟨b,0,none⟩∧cf=[(b,row (aAi (l.map (·.1))++rest) 27)]∧cap*4≤(aAi (l.map (·.1))).length+rest.length∧l.length≤cap∧cap≤maxLen:=by
    rcases hV.2 with⟨_,e,_⟩|hh
    ·omega
    ·exact hh
   have hget:((aAi (l.map (·.1))++rest).drop (i*4)).take 4=_:=aJq hli
   have hact:=bEs (κ:=κ) hli
   have hctk:=aZk hli
   have hflv:flv l[i].1= .agg #[.int .i64 (l[i].1.first:Int),.int .i64 (l[i].1.blocks:Int),.int .i64 (l[i].1.width:Int),.int .i64 (l[i].1.count:Int)]:=rfl
   rw[hflv] at hOv
   generalize hx:l[i]=x at*
   generalize hcells:aAi (l.map (·.1))++rest=cells at*
   repeat(refine st ?_;intros)
   refine R.call (hct:=hOv) (h:= ?_)
   rintro _ _ ⟨cd3,ca3,cs3,W3,k3,cx3,cb3,e,rfl,rfl,hW3,hE3,hK3,hc⟩
   try dsimp only[AA,AB]
   have hE23:=hE2.trans hE3
   rcases hc with⟨rfl,hg3,hl3,hw3,hk3,hb3⟩|⟨he,hgl,hwhy⟩
   ·repeat(refine st ?_;intros)
    refine Dn.round ⟨i+1,cd3,ca3,cs3,cx3,cb3,W3,k3⟩ ⟨hlt,hW3,by rw[hact];exact hE23,hK2.trans hK3,hg3,hl3,?_,?_,?_⟩ (by dsimp only;omega)
    ·rw[hctk,aAt.all_app,←hk2];exact hw3
    ·rw[hctk,aAt.st_app,←hk2];exact hk3
    ·rw[hctk,aAt.bad_app,hb2,←hk2];exact hb3
   ·have hwhy2:(e=6∧W.δ.fault≠-1)∨∃n:Nat,M.bad k0 (cat l)=some n∧e=(n:Int):=by
     rcases hwhy with⟨a,b⟩|⟨n,a,b⟩
     ·exact .inl ⟨a,aBd hE2 b⟩
     ·refine .inr ⟨n,?_,b⟩
      rw[hcs,aAt.bad_app,aAt.bad_app,hb2,←hk2];dsimp only;rw[a]
    rcases hgl with⟨hg3,hl3,ps,hw3⟩|⟨hg3,hl3,hx3⟩
    ·have hsz3:W3.δ.size=W.δ.size:=hE23.size
     have hDp:=aWx bw bd ba bs W3 cd3 ca3 cs3 hW3 bx first _ width bound g ps cx3 cb3 hw3 W.α.gs hg3 W.live hl3
     repeat(refine st ?_;intros)
     refine Go.SL.Lv.call (hc:=hDp.2) (h:= ?_)
     rintro _ _ ⟨cd5,ca5,cs5,W5,cx5,cb5,rfl,rfl,hW5,hE5,hd5,hg5,hl5,hx5⟩
     try dsimp only[AA,AB]
     (refine Go.SL.Lv.nil (Hr:=[aAh bw bd ba bs,cd5,ca5,cs5,[(vb,row cells 27)],(M.C k3).flatten]) Tryz.results82 (hR:= ?_);exact⟨cd5,ca5,cs5,W5,k3,rfl,hW5,(hE23.trans hE5).weak (by omega) (AG _),hg5,fun x hx=>by rw[hd5];exact(hK2.trans hK3) x hx,.inr ⟨e,rfl,he,hl5,by rcases hwhy2 with h|h;exact .inl h;exact .inr (.inr h)⟩⟩)
    ·have hDp:=aEs bx cx3 hx3
     repeat(refine st ?_;intros)
     refine Go.SL.Lv.call (hc:=hDp.2) (h:= ?_)
     rintro _ _ ⟨rfl,rfl⟩
     try dsimp only[AA,AB]
     (refine Go.SL.Lv.nil (Hr:=[aAh bw bd ba bs,cd3,ca3,cs3,[(vb,row cells 27)],(M.C k3).flatten]) Tryz.results82 (hR:= ?_);exact⟨cd3,ca3,cs3,W3,k3,rfl,hW3,hE23.weak (by omega) (AG _),hg3,hK2.trans hK3,.inr ⟨e,rfl,he,hl3,by rcases hwhy2 with h|h;exact .inl h;exact .inr (.inr h)⟩⟩)
  ·obtain rfl:i=l.length:=by omega
   rw[List.take_length] at hw2 hk2 hb2 hE2
   have hnc:aAb W.δ.size width (M.all k0 (cat l)).length-(M.all k0 (cat l)).length/aAf W.δ.size width≤1:=by
    unfold aAb
    have h1:((M.all k0 (cat l)).length+aAf W.δ.size width-1)/aAf W.δ.size width≤((M.all k0 (cat l)).length+aAf W.δ.size width)/aAf W.δ.size width:=Nat.div_le_div_right (by omega)
    rw[Nat.add_div_right _ (by omega)] at h1
    omega
   have hCl:=aOd bw bd ba bs W2 cd1 ca1 cs1 hW2 bx first _ width bound g _ cx1 cb1 hw2 W.α.gs hg2 W.live hl2 (by omega)
   rw[hsz2] at hCl
   repeat(refine st ?_;intros)
   refine R.call (hct:=hCl) (h:= ?_)
   rintro _ _ ⟨cd3,ca3,cs3,W3,cx3,cb3,rfl,hW3,hE3,hK3,hg3,hx3,hc⟩
   try dsimp only[AA,AB]
   have hDp:=aEs bx cx3 hx3
   have hE23:=(hE2.trans hE3).weak (k':=aEz κ l+1) (m':=aAb W.δ.size width bound) (by omega) (AG _)
   rcases hc with⟨f,rfl,hlv,hfw,hfc,hfo⟩|⟨rfl,hf,hδ,hlv⟩
   ·have hflv:flv f= .agg #[.int .i64 (f.first:Int),.int .i64 (f.blocks:Int),.int .i64 (f.width:Int),.int .i64 (f.count:Int)]:=rfl
    rw[hflv]
    repeat(refine st ?_;intros)
    refine Go.SL.Lv.call (hc:=hDp.2) (h:= ?_)
    rintro _ _ ⟨rfl,rfl⟩
    try dsimp only[AA,AB]
    (refine Go.SL.Lv.nil (Hr:=[aAh bw bd ba bs,cd3,ca3,cs3,cf,(M.C k2).flatten]) Tryz.results82 (hR:= ?_);exact⟨cd3,ca3,cs3,W3,k2,rfl,hW3,hE23,hg3,hK2.trans hK3,.inl ⟨f,rfl,hb2,hk2,by rw[hlv];exact .refl _,hfw,hfc,hfo⟩⟩)
   ·rw[hz]
    repeat(refine st ?_;intros)
    refine Go.SL.Lv.call (hc:=hDp.2) (h:= ?_)
    rintro _ _ ⟨rfl,rfl⟩
    try dsimp only[AA,AB]
    (refine Go.SL.Lv.nil (Hr:=[aAh bw bd ba bs,cd3,ca3,cs3,cf,(M.C k2).flatten]) Tryz.results82 (hR:= ?_);exact⟨cd3,ca3,cs3,W3,k2,rfl,hW3,hE23,hg3,hK2.trans hK3,.inr ⟨6,rfl,by omega,hlv,.inl ⟨rfl,fun e=>by have:=hE2.fault e;omega⟩⟩⟩)
 ·repeat(refine st ?_;intros)
  (refine Go.SL.Lv.nil (Hr:=[aAh bw bd ba bs,cd',ca',cs',cf,(M.C k0).flatten]) Tryz.results82 (hR:= ?_);exact⟨cd',ca',cs',W1,k0,rfl,hW1,hE1.weak (AS _) (AS _),e3,fun x _=>by rw[e1],.inr ⟨5,rfl,by omega,by rw[e2],.inr (.inl ⟨rfl,hfull⟩)⟩⟩)
theorem aUt:∀(pts:List Nat) (live:List Ext),(∀x∈pts,inF live x)→pts.Pairwise (fun x y=>∃z,x<z∧z<y∧¬inF live z)→pts.length≤live.length
 |[],_,_,_=>AS _
 |x::pts,live,h,hp=>by
  obtain⟨e,he,h1,h2⟩:=h x AI
  obtain⟨l1,l2,rfl⟩:=List.append_of_mem he
  have hsub:∀z,¬inF (l1++e::l2) z→¬inF (l1++l2) z:=by
   rintro z hz ⟨y,hy,h3⟩
   exact hz ⟨y,by simp at hy⊢;rcases hy with h|h;exact .inl h;exact .inr (.inr h),h3⟩
  obtain⟨hx,hr⟩:=List.pairwise_cons.1 hp
  have:=aUt pts (l1++l2) (fun y hy=> ?_) (hr.imp fun ⟨z,a,b,c⟩=>⟨z,a,b,hsub z c⟩)
  ·simp only[AF,AL] at this⊢;omega
  ·obtain⟨e2,he2,h3,h4⟩:=h y (AJ _ hy)
   obtain⟨z,hz1,hz2,hz3⟩:=hx y hy
   simp only[AO,AM] at he2
   rcases he2 with he2|rfl|he2
   ·exact⟨e2,BO _ he2,h3,h4⟩
   ·exact absurd ⟨e2,he,by omega,by omega⟩ hz3
   ·exact⟨e2,List.mem_append_right _ he2,h3,h4⟩
theorem aUu:∀(l:List Ext),aBb l≤l.length*big l
 |[]=>AS _
 |e::l=>by
  have h1:=aUu l
  have h2:e.2≤big (e::l):=bCw AI
  have h3:big l≤big (e::l):=by rw[show e::l=[e]++l from rfl,aWm];omega
  have h4:=BU l.length h3
  simp only[aBb,A0,DB,AL,BD] at h1⊢
  omega
theorem bIu {σ:Sp} {live:List Ext} (h:aTw σ live) (hf:fok σ.n σ.free):σ.free.length≤live.length+1:=by
 cases hfr:σ.free.reverse with
 |nil=>
      have:σ.free=[]:=by simpa using hfr
      rw[this];simp
 |cons e r=>
  have he:σ.free=r.reverse++[e]:=by rw[←List.reverse_reverse σ.free,hfr];simp
  have hf2:=hf
  rw[he,aCu] at hf2
  obtain⟨h1,h2,h3⟩:=hf2
  have:=aUt (r.reverse.map fun a=>a.1+a.2) live ?_ ?_
  ·rw[he];simp at this⊢;omega
  ·intro x hx
   obtain⟨a,ha,rfl⟩:=AT.1 hx
   have h4:=h3 a ha e AI
   have h5:=h2.1 e AI
   have h6:a.1+a.2<σ.n:=by omega
   cases hc:Classical.propDecidable (inF live (a.1+a.2)) with
   |isTrue h=>exact h
   |isFalse hn=>
    exfalso
    obtain⟨b,hb,h7,h8⟩:=(h.free _ h6).2 hn
    rw[he] at hb
    rcases AO.1 hb with hb|hb
    ·have hpw:=h1.2
     have hsym:a=b∨a.1+a.2<b.1∨b.1+b.2<a.1:=by
      by_cases hab:a=b
      ·exact .inl hab
      ·right
       obtain⟨i,hi,rfl⟩:=CQ ha
       obtain⟨j,hj,rfl⟩:=CQ hb
       rcases Nat.lt_trichotomy i j with hij|hij|hij
       ·exact .inl (BQ.1 hpw i j hi hj hij)
       ·subst hij;exact absurd rfl hab
       ·exact .inr (BQ.1 hpw j i hj hi hij)
     rcases hsym with rfl|h9|h9<;>omega
    ·simp only[AY] at hb;subst hb;omega
  ·rw[List.pairwise_map]
   refine(h1.2.and (List.pairwise_of_forall_mem_list (fun a ha b hb=>(⟨ha,hb⟩:a∈r.reverse∧b∈r.reverse)))).imp ?_
   rintro a b ⟨hab,ha,hb⟩
   have hb1:=h1.1 b hb
   have hbm:b∈σ.free:=by rw[he];exact BO _ hb
   exact⟨b.1,hab,by omega,(h.free b.1 (by have:=hf.1 b hbm;omega)).1 ⟨b,hbm,AG _,by omega⟩⟩
theorem aSb {σ:Sp} {live:List Ext} (h:aTw σ live) (hf:fok σ.n σ.free) {m:Nat} (hm:m*(live.length+1)+aBb live≤σ.n):m≤big σ.free:=by
 have h1:=aUu σ.free
 have h2:=bIu h hf
 have h3:=h.sum
 by_cases hlt:m≤big σ.free
 ·exact hlt
 ·exfalso
  have h4:σ.free.length*big σ.free≤(live.length+1)*big σ.free:=A5 _ h2
  have h5:(live.length+1)*(big σ.free+1)≤(live.length+1)*m:=BU _ (by omega)
  rw[Nat.mul_succ] at h5
  rw[EC m] at hm
  omega
end Go.Proofs.YtammjnjpheobaaaGreat
namespace Go.Srt
set_option linter.unusedSectionVars false
variable {α:Type} {lt:α→α→Bool}
def aUv (lt:α→α→Bool) (once:Bool) (x:α):List α→List α
 |[]=>[x]
 |y::l=>if lt y x then y::aUv lt once x l else if once&& !lt x y then x::l else x::y::l
def srt (lt:α→α→Bool) (once:Bool):List α→List α
 |[]=>[]
 |x::l=>aUv lt once x (srt lt once l)
theorem aSc {once:Bool} {x z:α}:∀{l:List α},z∈aUv lt once x l→z=x∨z∈l
 |[],h=>by simpa[aUv] using h
 |y::l,h=>by
  unfold aUv at h
  split at h
  ·rcases List.mem_cons.1 h with rfl|h
   ·exact .inr List.mem_cons_self
   ·exact(aSc h).imp id (List.mem_cons_of_mem _)
  ·split at h
   ·rcases List.mem_cons.1 h with rfl|h
    ·exact .inl rfl
    ·exact .inr (List.mem_cons_of_mem _ h)
   ·rcases List.mem_cons.1 h with rfl|h
    ·exact .inl rfl
    ·exact .inr h
theorem aUw (h:Swo lt) {a b c:α} (h1:lt b a=false) (h2:lt b c=true):lt a c=true:=by
 cases h3:lt a c with
 |true=>rfl
 |false=>have:=h.ntrans b a c h1 h3;rw[this] at h2;cases h2
theorem bEv (h:Swo lt) {once:Bool} {x:α}:∀{l:List α},Sd lt once l→Sd lt once (aUv lt once x l)
 |[],_=>by simp[aUv,Sd]
 |y::l,hs=>by
  obtain⟨h1,h2⟩:=List.pairwise_cons.1 hs
  have hs2:Sd lt once l:=h2
  unfold aUv
  split
  ·rename_i hyx
   refine List.pairwise_cons.2 ⟨fun z hz=> ?_,bEv h hs2⟩
   rcases aSc hz with rfl|hz
   ·cases once with
    |true=>exact hyx
    |false=>exact h.asym _ _ hyx
   ·exact h1 z hz
  ·rename_i hyx
   have hyx:lt y x=false:=by simpa using hyx
   split
   ·rename_i ho
    simp only[Bool.and_eq_true,Bool.not_eq_true'] at ho
    refine List.pairwise_cons.2 ⟨fun z hz=> ?_,hs2⟩
    have:=h1 z hz
    rw[ho.1] at this⊢
    simp only[if_true] at this⊢
    exact aUw h hyx this
   ·rename_i ho
    refine List.pairwise_cons.2 ⟨fun z hz=> ?_,hs⟩
    cases once with
    |false=>
     rcases List.mem_cons.1 hz with rfl|hz
     ·exact hyx
     ·exact h.ntrans _ _ _ (h1 z hz) hyx
    |true=>
     have hxy:lt x y=true:=by simpa using ho
     rcases List.mem_cons.1 hz with rfl|hz
     ·exact hxy
     ·have:=h1 z hz
      simp only[if_true] at this⊢
      exact aUw h (h.asym _ _ hxy) this
theorem bEw (h:Swo lt) {once:Bool} {x:α}:∀(l:List α),Sp lt once (x::l) (aUv lt once x l)
 |[]=>Sp.refl _ _
 |y::l=>by
  unfold aUv
  split
  ·rename_i hyx
   have e1:Sp lt once ([x]++[y]++l) ([y]++[x]++l):=Sp.app (Sp.swap h (by simpa using hyx)) (Sp.refl _ _)
   exact Sp.trans e1 (Sp.app (a:=[y]) (b:=[y]) (Sp.refl _ _) (bEw h l))
  ·rename_i hyx
   have hyx:lt y x=false:=by simpa using hyx
   split
   ·rename_i ho
    simp only[Bool.and_eq_true,Bool.not_eq_true'] at ho
    obtain⟨rfl,hxy⟩:=ho
    intro c
    have he:eqv lt x y=true:=aCv.2 ⟨hxy,hyx⟩
    simp only[List.filter_cons]
    cases hc:eqv lt c x with
    |true=>simp[aGu]
    |false=>
     cases hc2:eqv lt c y with
     |true=>have:=aKp h hc2 (aMz he);rw[this] at hc;cases hc
     |false=>simp
   ·exact Sp.refl _ _
theorem aKu (h:Swo lt) (once:Bool):∀(l:List α),Sd lt once (srt lt once l)
 |[]=>List.Pairwise.nil
 |_::l=>bEv h (aKu h once l)
theorem aZl (h:Swo lt) (once:Bool):∀(l:List α),Sp lt once l (srt lt once l)
 |[]=>Sp.refl _ _
 |x::l=>Sp.trans (Sp.app (a:=[x]) (b:=[x]) (Sp.refl _ _) (aZl h once l)) (bEw h _)
theorem srt_is (h:Swo lt) {once:Bool} {l a:List α} (h1:Sd lt once a) (h2:Sp lt once l a):a=srt lt once l:=
 bMk h h1 (aKu h once l) (h2.symm.trans (aZl h once l))
theorem aUx {x:α}:∀(l:List α),(aUv lt false x l).Perm (x::l)
 |[]=> .refl _
 |y::l=>by
  unfold aUv
  split
  ·exact((aUx l).cons y).trans (.swap _ _ _)
  ·simp
theorem aEj:∀(l:List α),(srt lt false l).Perm l
 |[]=> .refl _
 |x::l=>(aUx _).trans ((aEj l).cons x)
theorem aGk {once:Bool}:∀{l:List α} {z:α},z∈srt lt once l→z∈l
 |[],_,h=>h
 |x::l,z,h=>by
  rcases aSc h with rfl|h
  ·exact List.mem_cons_self
  ·exact List.mem_cons_of_mem _ (aGk h)
theorem aZm {once:Bool} {x:α}:∀(l:List α),(aUv lt once x l).length≤l.length+1
 |[]=>Nat.le_refl _
 |y::l=>by
  unfold aUv
  have:=aZm (once:=once) (x:=x) l
  split
  ·simp only[List.length_cons];omega
  ·split
   ·simp
   ·simp
theorem aXj {once:Bool}:∀(l:List α),(srt lt once l).length≤l.length
 |[]=>Nat.le_refl _
 |x::l=>by
  have h1:=aZm (lt:=lt) (once:=once) (x:=x) (srt lt once l)
  have h2:=aXj (once:=once) l
  simp only[srt,List.length_cons];omega
end Go.Srt
namespace Go.Proofs.YtammjnjpheobaaaGreat
open Go.SL Go.Spc Go.Tup Go.Srt
def aFa (bj bw:Nat) (e:Int) (p:Option Addr) (n cap:Nat):aAc:=[(bj,row [pv bw,.int .i64 e,.slice p n cap] 95)]
theorem bEx (bj bw:Nat) (e0 e:Int) (p:Option Addr) (n cap:Nat) (fs:List Fl) (ch:aAc) (hV:Vec 27 4 p n cap (aAi fs) ch) (hn:n≤1000000) (f:Fl):
  Ct AC 81 [pv bj,flv f,.int .i64 e] [aFa bj bw e0 p n cap,ch] fun v H'=>v=flv f∧
   ((e=0∧∃p' cap' ch',H'=[aFa bj bw 0 p' (n+1) cap',ch']∧Vec 27 4 p' (n+1) cap' (aAi (fs++[f])) ch')∨(e≠0∧H'=[aFa bj bw e p n cap,ch])):=by
 have hflv:flv f= .agg #[.int .i64 (f.first:Int),.int .i64 (f.blocks:Int),.int .i64 (f.width:Int),.int .i64 (f.count:Int)]:=rfl
 rw[hflv]
 unfold aFa
 by_cases he:e=0
 ·subst he
  refine Ct.intro Tryz.func81 rfl Tryz.ntmps81 (nle rfl) fun w0=> ?_;dsimp only[aAa,AD]
  repeat(first|(refine st ?_;intros)|refine G.draw [] (h:= ?_))
  rename_i p' cap' ch' hV'
  (refine Dn.post (Hr:=[[(bj,row [pv bw,.int .i64 0,.slice p' (n+1) cap'] 95)],ch']) Tryz.results81 (hR:= ?_);exact⟨rfl,.inl ⟨rfl,p',cap',ch',rfl,by rw[aCo];exact hV'⟩⟩)
 ·refine Ct.intro Tryz.func81 rfl Tryz.ntmps81 (nle rfl) fun w0=> ?_;dsimp only[aAa,AD]
  repeat(first|(refine st ?_;intros)|refine G.draw [] (h:= ?_))
  (refine Dn.post (Hr:=[[(bj,row [pv bw,.int .i64 e,.slice p n cap] 95)],ch]) Tryz.results81 (hR:= ?_);exact⟨rfl,.inr ⟨he,rfl⟩⟩)
theorem bNf (bj bw:Nat) (e:Int) (he:e≠0) (p:Option Addr) (n cap:Nat) (x1 x2 x3 x4:Value):
  CtQ AC 42 [pv bj,x1,x2,x3,x4] [aFa bj bw e p n cap] (flv ⟨0,0,0,0⟩):=by
 have hflv:flv ⟨0,0,0,0⟩= .agg #[.int .i64 0,.int .i64 0,.int .i64 0,.int .i64 0]:=rfl
 rw[hflv]
 unfold aFa
 refine Ct.intro Tryz.func42 rfl Tryz.ntmps42 (nle rfl) fun w0=> ?_;dsimp only[aAa,AD]
 repeat(refine st ?_;intros)
 (refine Dn.post (Hr:=[[(bj,row [pv bw,.int .i64 e,.slice p n cap] 95)]]) Tryz.results42 (hR:= ?_);exact⟨rfl,rfl⟩)
def StepR (J:aAc) (Q:Fl→Int→aAc→Prop) (v:Value) (H':Hp):Prop:=∃f e Hc',v= .tuple #[flv f,.int .i64 e]∧H'=[J,Hc']∧Q f e Hc'
def KeptR (bj bw:Nat) (p:Option Addr) (n cap:Nat) (fs:List Fl) (ch:aAc) (Q:Fl→Int→aAc→Prop) (v:Value) (H':Hp):Prop:=∃f e Hc',v=flv f∧Q f e Hc'∧
 ((e=0∧∃p' cap' ch',H'=[aFa bj bw 0 p' (n+1) cap',ch',Hc']∧Vec 27 4 p' (n+1) cap' (aAi (fs++[f])) ch')∨(e≠0∧H'=[aFa bj bw e p n cap,ch,Hc']))
theorem bIv (bj bw:Nat) (p:Option Addr) (n cap:Nat) (fs:List Fl) (ch:aAc) (hV:Vec 27 4 p n cap (aAi fs) ch) (hn:n≤1000000) (x1 x2 x3 x4:Value) (Hc:aAc) (Q:Fl→Int→aAc→Prop)
  (hE:Ct AC 82 [pv bw,x1,x2,x3,x4] [Hc] fun v H'=>∃f e Hc',v= .tuple #[flv f,.int .i64 e]∧H'=[Hc']∧Q f e Hc'):
  Ct AC 42 [pv bj,x1,x2,x3,x4] [aFa bj bw 0 p n cap,ch,Hc] (KeptR bj bw p n cap fs ch Q):=by
 have hK:=fun f e=>bEx bj bw 0 e p n cap fs ch hV hn f
 unfold aFa at hK⊢
 refine Ct.intro Tryz.func42 rfl Tryz.ntmps42 (nle rfl) fun w0=> ?_;dsimp only[aAa,AD]
 repeat(refine st ?_;intros)
 refine R.call (hct:=hE) (h:= ?_)
 rintro _ _ ⟨f,e,Hc',rfl,rfl,hQ⟩
 try dsimp only[AA,AB]
 have hflv:flv f= .agg #[.int .i64 (f.first:Int),.int .i64 (f.blocks:Int),.int .i64 (f.width:Int),.int .i64 (f.count:Int)]:=rfl
 have hK1:=hK f e
 rw[hflv] at hK1⊢
 repeat(refine st ?_;intros)
 refine R.call (hct:=hK1) (h:= ?_)
 rintro _ _ ⟨rfl,⟨rfl,p',cap',ch',rfl,hV'⟩|⟨he,rfl⟩⟩
 try dsimp only[AA,AB]
 ·repeat(refine st ?_;intros)
  (refine Dn.post (Hr:=[[(bj,row [pv bw,.int .i64 0,.slice p' (n+1) cap'] 95)],ch',Hc']) Tryz.results42 (hR:= ?_);exact⟨f,0,Hc',rfl,hQ,.inl ⟨rfl,p',cap',ch',rfl,hV'⟩⟩)
 ·repeat(refine st ?_;intros)
  (refine Dn.post (Hr:=[[(bj,row [pv bw,.int .i64 e,.slice p n cap] 95)],ch,Hc']) Tryz.results42 (hR:= ?_);exact⟨f,e,Hc',rfl,hQ,.inr ⟨he,rfl⟩⟩)
theorem Run_no (bj bw:Nat) (e:Int) (he:e≠0) (p:Option Addr) (n cap:Nat) (x1:Value):
  CtQ AC 45 [pv bj,x1] [aFa bj bw e p n cap] (flv ⟨0,0,0,0⟩):=by
 have hflv:flv ⟨0,0,0,0⟩= .agg #[.int .i64 0,.int .i64 0,.int .i64 0,.int .i64 0]:=rfl
 rw[hflv]
 unfold aFa
 refine Ct.intro Tryz.func45 rfl Tryz.ntmps45 (nle rfl) fun w0=> ?_;dsimp only[aAa,AD]
 repeat(refine st ?_;intros)
 (refine Dn.post (Hr:=[[(bj,row [pv bw,.int .i64 e,.slice p n cap] 95)]]) Tryz.results45 (hR:= ?_);exact⟨rfl,rfl⟩)
theorem bNg (bj bw:Nat) (p:Option Addr) (n cap:Nat) (fs:List Fl) (ch:aAc) (hV:Vec 27 4 p n cap (aAi fs) ch) (hn:n≤1000000) (mk:Nat) (hcal:Callable AC mk) (us:List Value) (Hc:aAc) (Q:Fl→Int→aAc→Prop)
  (hE:Ct AC mk us [aFa bj bw 0 p n cap,Hc] (StepR (aFa bj bw 0 p n cap) Q)):
  Ct AC 45 [pv bj,.func (.func mk) #[] us.toArray] [aFa bj bw 0 p n cap,ch,Hc] (KeptR bj bw p n cap fs ch Q):=by
 have hK:=fun f e=>bEx bj bw 0 e p n cap fs ch hV hn f
 unfold aFa at hK hE⊢
 refine Ct.intro Tryz.func45 rfl Tryz.ntmps45 (nle rfl) fun w0=> ?_;dsimp only[aAa,AD]
 repeat(refine st ?_;intros)
 refine R.callV (fs:=[]) (vs:=[]) (hf:=hcal) (hct:=hE) (h:= ?_)
 rintro _ _ ⟨f,e,Hc',rfl,rfl,hQ⟩
 dsimp only[AA,AB]
 have hflv:flv f= .agg #[.int .i64 (f.first:Int),.int .i64 (f.blocks:Int),.int .i64 (f.width:Int),.int .i64 (f.count:Int)]:=rfl
 have hK1:=hK f e
 rw[hflv] at hK1⊢
 repeat(refine st ?_;intros)
 refine R.call (hct:=hK1) (h:= ?_)
 rintro _ _ ⟨rfl,⟨rfl,p',cap',ch',rfl,hV'⟩|⟨he,rfl⟩⟩
 try dsimp only[AA,AB]
 ·repeat(refine st ?_;intros)
  (refine Dn.post (Hr:=[[(bj,row [pv bw,.int .i64 0,.slice p' (n+1) cap'] 95)],ch',Hc']) Tryz.results45 (hR:= ?_);exact⟨f,0,Hc',rfl,hQ,.inl ⟨rfl,p',cap',ch',rfl,hV'⟩⟩)
 ·repeat(refine st ?_;intros)
  (refine Dn.post (Hr:=[[(bj,row [pv bw,.int .i64 e,.slice p n cap] 95)],ch,Hc']) Tryz.results45 (hR:= ?_);exact⟨f,e,Hc',rfl,hQ,.inr ⟨he,rfl⟩⟩)
theorem Ct.wide {P:Program} {f:FuncId} {args:List Value} {Hf:Hp} {R:Value→Hp→Prop} (h:Ct P f args Hf R) (F:Hp):Ct P f args (Hf++F) fun v H'=>∃H1,R v H1∧H'=H1++F:=by
 have h2:= @Ct.frame P f args Hf F R h
 unfold Ct
 exact fun w hw=>(h2 hw).mono fun e w' ⟨v,H',h3,h4,h5⟩=>⟨v,H'++F,h3,⟨H',h4,rfl⟩,h5⟩
open Classical in
theorem aEk {a b:aAc} (h:∀z,List.count z a=List.count z b):a.Perm b:=List.perm_iff_count.2 h
structure Jp where
 bw:Nat
 bd:Nat
 ba:Nat
 bs:Nat
 bj:Nat
 size:Nat
 room:Nat
 n:Nat
 gs:List Gr
 L0:List Ext
 D0:Nat→Option (List Int)
 fl:Prop
 b0:Nat
structure Jp.Ok (p:Jp):Prop where
 size:8≤p.size∧p.size≤256
 left:(p.gs.map (·.n)).sum+8*p.size≤p.room
structure Jb where
 e:Int
 er:Option Nat
 G:List (Fl×List T5)
 acts:Nat
 took:Nat
structure aLf (p:Jp) (J:Jb) (held:List (Fl×List T5)) (W:Wk):Prop where
 gs:W.α.gs.Perm p.gs
 room:W.α.room=p.room
 size:W.δ.size=p.size
 n:W.σ.n=p.n
 live:W.live.Perm (aAy (held.map (·.1)) p.L0)
 files:∀x∈held,aAq W.δ.disk p.size [x.1.ext] x.1 x.2
 len:held.length≤100000
 keep:∀x,inF p.L0 x→W.δ.disk x=p.D0 x
 flt:¬p.fl→W.δ.fault= -1
 acts:W.δ.acts≤J.acts
 tk:p.b0≤big W.σ.free+J.took
 ok:J.e=0→held.Perm J.G∧J.er=none
 why:J.e≠0→(J.e=6∧p.fl)∨∃m:Nat,J.er=some m∧J.e=(m:Int)
def aJf (p:Jp) (e:Int) (cd ca cs:aAc) (ph:Option Addr) (n cap:Nat) (ch:aAc):aAc:=[aAh p.bw p.bd p.ba p.bs,cd,ca,cs,aFa p.bj p.bw e ph n cap,ch].flatten
def aQq (p:Jp) (J:Jb) (C:aAc):Prop:=∃W cd ca cs held ph cap ch,C=aJf p J.e cd ca cs ph held.length cap ch∧
 Wc p.bd p.ba p.bs W cd ca cs∧Vec 27 4 ph held.length cap (aAi (held.map (·.1))) ch∧aLf p J held W
def In0 (p:Jp) (x:Fl×List T5):Prop:=∃Lv,aAq p.D0 p.size Lv x.1 x.2∧∀e∈Lv,e∈p.L0
def bNh (p:Jp) (G:List (Fl×List T5)) (m:Nat):Prop:=m*(G.length+p.L0.length+1)+((G.map (·.1.blocks)).sum+aBb p.L0)≤p.n
def Fits (p:Jp) (J:Jb) (m:Nat):Prop:=bNh p J.G m∨J.took+m≤p.b0
theorem aUy {f:Fl} (hb:f.blocks≠0):∀{fs:List Fl} {L:List Ext},(f∈fs∨f.ext∈L)→f.ext∈aAy fs L
 |[],L,h=>by simpa[aAy] using h
 |g::fs,L,h=>by
  simp only[aAy,List.foldl_cons]
  refine aUy hb (fs:=fs) (L:=aCh g L) ?_
  rcases h with h|h
  ·rcases AM.1 h with rfl|h
   ·right;unfold aCh;rw[if_neg hb];exact AI
   ·exact .inl h
  ·right;unfold aCh;split
   ·exact h
   ·exact AJ _ h
theorem aOm {e:Ext}:∀{fs:List Fl} {L:List Ext},e∈L→e∈aAy fs L
 |[],_,h=>h
 |g::fs,L,h=>by
  simp only[aAy,List.foldl_cons]
  refine aOm (fs:=fs) (L:=aCh g L) ?_
  unfold aCh;split
  ·exact h
  ·exact AJ _ h
theorem aFx:∀(fs:List Fl) (L:List Ext),aBb (aAy fs L)=(fs.map (·.blocks)).sum+aBb L
 |[],L=>by simp[aAy]
 |f::fs,L=>by
  have h1:aAy (f::fs) L=aAy fs (aCh f L):=rfl
  rw[h1,aFx fs,aLw];simp;omega
theorem aGd:∀(fs:List Fl) (L:List Ext),(aAy fs L).length≤fs.length+L.length
 |[],L=>by simp[aAy]
 |f::fs,L=>by
  have h1:aAy (f::fs) L=aAy fs (aCh f L):=rfl
  have h2:=aGd fs (aCh f L)
  have h3:(aCh f L).length≤L.length+1:=by unfold aCh;split<;>simp
  rw[h1,AL];omega
theorem aLf.file {p:Jp} {J:Jb} {held:List (Fl×List T5)} {W:Wk} (h:aLf p J held W) {x:Fl×List T5} (hx:x∈held∨In0 p x):aBx W x:=by
 rcases hx with hx|⟨Lv,hf,hs⟩
 ·have hf:=h.files x hx
  rw[←h.size] at hf
  by_cases hb:x.1.blocks=0
  ·exact⟨[],{hf with live:=fun e=>absurd hb e},by simp⟩
  ·refine⟨[x.1.ext],hf,fun e he=> ?_⟩
   simp only[AY] at he;subst he
   exact h.live.mem_iff.2 (aUy hb (.inl (AT.2 ⟨x,hx,rfl⟩)))
 ·refine⟨Lv,?_,fun e he=>h.live.mem_iff.2 (aOm (hs e he))⟩
  rw[h.size]
  exact hf.keep fun y ⟨e,he,h2⟩=>h.keep y ⟨e,hs e he,h2⟩
theorem aLf.big {p:Jp} {J:Jb} {held:List (Fl×List T5)} {W:Wk} {cd ca cs:aAc} (h:aLf p J held W) (hW:Wc p.bd p.ba p.bs W cd ca cs) (he:J.e=0) {m:Nat} (hr:Fits p J m):m≤big W.σ.free:=by
 have htk:=h.tk
 rcases hr with hr|hr
 rotate_left
 ·omega
 obtain⟨hp,_⟩:=h.ok he
 obtain⟨_,_,_,_,_,hfk,_⟩:=hW.sp
 refine aSb hW.live hfk ?_
 have h1:=h.live.length_eq
 have h2:=aGd (held.map (·.1)) p.L0
 have h3:aBb W.live=_:=(aFp h.live).trans (aFx _ _)
 have h4:=hp.length_eq
 have h5:(held.map (·.1)).map (·.blocks)=held.map (·.1.blocks):=by simp
 have h6:=(hp.map (·.1.blocks)).sum_nat
 rw[AX] at h2
 rw[h3,h5,h6,h.n]
 unfold bNh at hr
 have h7:m*(W.live.length+1)≤m*(J.G.length+p.L0.length+1):=BU _ (by omega)
 omega
theorem aLf.used {p:Jp} {J:Jb} {held:List (Fl×List T5)} {W:Wk} {cd ca cs:aAc} (hp:p.Ok) (h:aLf p J held W) (hW:Wc p.bd p.ba p.bs W cd ca cs):8*W.δ.size≤W.α.room-W.α.used:=by
 have h1:=hW.ar.num.2.2.2
 rw[(h.gs.map (·.n)).sum_nat] at h1
 have:=hp.left
 rw[h.size,h.room];omega
structure aDp (p:Jp) (W W':Wk) (A T:Nat) (er:Option Nat) (ts:List T5) (f:Fl) (e:Int):Prop where
 gs:W'.α.gs.Perm W.α.gs
 room:W'.α.room=W.α.room
 size:W'.δ.size=W.δ.size
 n:W'.σ.n=W.σ.n
 acts:W'.δ.acts≤W.δ.acts+A
 big:big W.σ.free≤big W'.σ.free+T
 fault:W.δ.fault= -1→W'.δ.fault= -1
 keep:aBr W.live W W'
 res:(e=0∧er=none∧W'.live.Perm (aCh f W.live)∧aAq W'.δ.disk W.δ.size [f.ext] f ts)∨(e≠0∧f=⟨0,0,0,0⟩∧W'.live.Perm W.live∧((e=6∧W.δ.fault≠-1)∨∃m:Nat,er=some m∧e=(m:Int)))
theorem orNone {α:Type} (x:Option α):(none.or x)=x:=by cases x<;>rfl
theorem aLf.step {p:Jp} {J:Jb} {held:List (Fl×List T5)} {W W':Wk} (h:aLf p J held W) (he:J.e=0) {A T:Nat} {er:Option Nat} {ts:List T5} {f:Fl} {e:Int} (hs:aDp p W W' A T er ts f e) (hl:held.length<100000):
  aLf p ⟨e,J.er.or er,(f,ts)::J.G,J.acts+A,J.took+T⟩ (if e=0 then held++[(f,ts)] else held) W':=by
 have hG:=h.ok he
 have htk:p.b0≤Go.Spc.big W'.σ.free+(J.took+T):=by have:=h.tk;have:=hs.big;omega
 have hkeep:∀x∈held,aAq W'.δ.disk p.size [x.1.ext] x.1 x.2:=by
  intro x hx
  obtain⟨Lv,h1,h2⟩:=h.file (.inl hx)
  have h3:=h1.keep (d':=W'.δ.disk) fun y ⟨e,he,h4⟩=>hs.keep y ⟨e,h2 e he,h4⟩
  rw[h.size] at h3
  exact{h3 with live:=fun _=>AY.2 rfl}
 have hk0:∀x,inF p.L0 x→W'.δ.disk x=p.D0 x:=fun x hx=>by
  rw[hs.keep x,h.keep x hx]
  obtain⟨e,he,h2⟩:=hx
  exact⟨e,h.live.mem_iff.2 (aOm he),h2⟩
 rcases hs.res with⟨rfl,r1,r2,r3⟩|⟨r0,rfl,r2,r3⟩
 ·refine⟨hs.gs.trans h.gs,hs.room.trans h.room,hs.size.trans h.size,hs.n.trans h.n,?_,?_,?_,hk0,fun hf=>hs.fault (h.flt hf),BA hs.acts (DD h.acts _),htk,fun _=>⟨?_,?_⟩,fun h0=>absurd rfl h0⟩
  ·simp only[if_true,AV,A0,DY]
   rw[aIm]
   exact r2.trans (aCx h.live)
  ·simp only[if_true,AO,AY]
   rintro x (hx|rfl)
   ·exact hkeep x hx
   ·rw[←h.size];exact r3
  ·simp only[if_true,AF,AL,AU];omega
  ·simp only[if_true]
   exact CA.trans (hG.1.cons _)
  ·simp only[hG.2,r1];rfl
 ·simp only[if_neg r0]
  refine⟨hs.gs.trans h.gs,hs.room.trans h.room,hs.size.trans h.size,hs.n.trans h.n,r2.trans h.live,hkeep,h.len,hk0,fun hf=>hs.fault (h.flt hf),BA hs.acts (DD h.acts _),htk,fun h0=>absurd h0 r0,fun _=> ?_⟩
  rcases r3 with⟨a,b⟩|⟨m,a,b⟩
  ·refine .inl ⟨a,?_⟩
   by_cases hf:p.fl
   ·exact hf
   ·exact absurd (h.flt hf) b
  ·exact .inr ⟨m,by simp only[hG.2,a];rfl,b⟩
theorem aLf.idle {p:Jp} {J:Jb} {held:List (Fl×List T5)} {W:Wk} (h:aLf p J held W) (he:J.e≠0) (er:Option Nat) (G:List (Fl×List T5)) (A T:Nat):aLf p ⟨J.e,J.er.or er,G,J.acts+A,J.took+T⟩ held W:=
 {h with
  acts:=BA h.acts (Nat.le_add_right _ _)
  tk:=BA h.tk (by dsimp only;omega)
  ok:=fun h0=>absurd h0 he
  why:=fun _=>(h.why he).imp id fun ⟨m,a,b⟩=>⟨m,by simp only[a];rfl,b⟩}
theorem nb_le {s k n:Nat} (hs:8≤s) (h1:1≤k) (h2:k≤5):aAb s k n≤n:=aAv (aAj hs h1 h2)
theorem JMake (p:Jp) (hp:p.Ok) (J:Jb) (C:aAc) (hJ:aQq p J C) {K:Type} (M:aAt K) (k0:K) (width bound κ A T:Nat) (hwd:1≤width) (hwd2:width≤5) (hbn:bound≤100000000)
  (mk:Nat) (hcal:Callable AC mk) (fs us:List Value) (ok:K→T5→Prop) (hM:aGi M width ok mk fs us) (hκ:∀k t,ok k t→(M.outs k t).length≤κ) (hκb:κ≤10000)
  (l:List (Fl×List T5)) (hl:∀x∈l,(x∈J.G∨In0 p x)) (hcn:∀x∈l,x.1.count≤1000000) (pa:Option Addr) (cap:Nat) (cf:aAc) (hV:Vec 27 4 pa l.length cap (aAi (l.map (·.1))) cf)
  (hok:J.e=0→M.oks ok k0 (cat l)) (hbd:J.e=0→(M.all k0 (cat l)).length≤bound) (hT:aAb p.size width bound≤T) (hroom:J.e=0→Fits p J T) (hA:aEz κ l+1≤A) (hac:J.acts+A≤10000000000) (hGl:J.G.length≤1000):
  Ct AC 42 [pv p.bj,.int .i64 (width:Int),.int .i64 (bound:Int),.func (.func mk) fs.toArray us.toArray,.slice pa l.length cap] (C::cf::M.C k0) fun v H'=>
   ∃f C' e' k',v=flv f∧H'=C'::cf::M.C k'∧aQq p ⟨e',J.er.or (M.bad k0 (cat l)),(f,M.all k0 (cat l))::J.G,J.acts+A,J.took+T⟩ C'∧
    (e'=0→J.e=0∧k'=M.st k0 (cat l)∧f.width=width∧f.count=(M.all k0 (cat l)).length∧M.bad k0 (cat l)=none)∧f.count≤bound∧f.blocks≤aAb p.size width bound:=by
 obtain⟨W,cd,ca,cs,held,ph,capj,ch,rfl,hW,hVj,hJW⟩:=hJ
 by_cases he:J.e=0
 ·have hus:=hJW.used hp hW
  have hT':aAb W.δ.size width bound≤T:=by rw[hJW.size];exact hT
  have hG:=hJW.ok he
  have hEach:=bNe p.bw p.bd p.ba p.bs M k0 W cd ca cs hW width bound κ hwd hwd2 hbn mk hcal fs us ok hM hκ hκb l
   (fun x hx=>⟨hJW.file ((hl x hx).imp (fun h=>hG.1.mem_iff.2 h) id),hcn x hx⟩) pa cap cf hV (hok he) (hbd he) (by omega) (by have:=hJW.acts;omega)
  have hE2:Ct AC 82 [pv p.bw,.int .i64 (width:Int),.int .i64 (bound:Int),.func (.func mk) fs.toArray us.toArray,.slice pa l.length cap] [[aAh p.bw p.bd p.ba p.bs,cd,ca,cs,cf,(M.C k0).flatten].flatten]
    fun v H'=>∃f e Hc',v= .tuple #[flv f,.int .i64 e]∧H'=[Hc']∧∃cd' ca' cs' W' k',Hc'=[aAh p.bw p.bd p.ba p.bs,cd',ca',cs',cf,(M.C k').flatten].flatten∧Wc p.bd p.ba p.bs W' cd' ca' cs'∧aDp p W W' A T (M.bad k0 (cat l)) (M.all k0 (cat l)) f e∧
     (e=0→k'=M.st k0 (cat l)∧f.width=width∧f.count=(M.all k0 (cat l)).length):=by
   refine Ct.convP hEach (by simp) ?_
   rintro v H' ⟨cd',ca',cs',W',k',rfl,hW',hE',hg',hK',hc⟩
   have hStep:∀f e,_→aDp p W W' A T (M.bad k0 (cat l)) (M.all k0 (cat l)) f e:=fun f e hr=>⟨hg',hE'.room,hE'.size,hE'.n,by have:=hE'.acts.2;omega,by have:=hE'.big;omega,hE'.fault,hK',hr⟩
   rcases hc with⟨f,rfl,h1,h2,h3,h4,h5,h6⟩|⟨e,rfl,h1,h2,h3⟩
   ·exact⟨[[aAh p.bw p.bd p.ba p.bs,cd',ca',cs',cf,(M.C k').flatten].flatten],⟨f,0,_,rfl,rfl,cd',ca',cs',W',k',rfl,hW',hStep f 0 (.inl ⟨rfl,h1,h3,h6⟩),fun _=>⟨h2,h4,h5⟩⟩,by simp⟩
   ·refine⟨[[aAh p.bw p.bd p.ba p.bs,cd',ca',cs',cf,(M.C k').flatten].flatten],⟨⟨0,0,0,0⟩,e,_,rfl,rfl,cd',ca',cs',W',k',rfl,hW',hStep _ e (.inr ⟨h1,rfl,h2,?_⟩),fun h0=>absurd h0 h1⟩,by simp⟩
    rcases h3 with h3|⟨_,h3⟩|⟨m,h3,h4⟩
    ·exact .inl h3
    ·have:=hJW.big hW he (hroom he);omega
    ·exact .inr ⟨m,h3,h4⟩
  have hM2:=bIv p.bj p.bw ph held.length capj _ ch hVj (by have:=hJW.len;omega) _ _ _ _ _ _ hE2
  refine Ct.convP hM2 (by rw[he];unfold aJf;refine aEk fun z=> ?_;simp only[AW,A8,AQ,BI];omega) ?_
  rintro v H' ⟨f,e,Hc',rfl,⟨cd',ca',cs',W',k',rfl,hW',hS,hz⟩,hc⟩
  have hbl:f.count≤bound∧f.blocks≤aAb p.size width bound:=by
   rcases hS.res with⟨r0,r1,r2,r3⟩|⟨r0,rfl,r2,r3⟩
   ·obtain⟨_,h2,h3⟩:=hz r0
    have hb:=hbd he
    refine⟨by omega,?_⟩
    rw[r3.blk,h2,hJW.size]
    exact aAk (by omega)
   ·exact⟨AS _,AS _⟩
  have hlh:held.length<100000:=by
   have h2:=hG.1.length_eq
   omega
  have hJ':=hJW.step he hS hlh
  rcases hc with⟨rfl,p',cap',ch',rfl,hV'⟩|⟨hne,rfl⟩
  ·have hr:aDp p W W' A T (M.bad k0 (cat l)) (M.all k0 (cat l)) f 0:=hS
   have hnone:M.bad k0 (cat l)=none:=by
    rcases hS.res with⟨_,r1,_⟩|⟨r0,_⟩
    ·exact r1
    ·exact absurd rfl r0
   refine⟨aJf p 0 cd' ca' cs' p' (held.length+1) cap' ch'::cf::M.C k',⟨f,_,0,k',rfl,rfl,⟨W',cd',ca',cs',held++[(f,M.all k0 (cat l))],p',cap',ch',by simp,hW',?_,by simpa using hJ'⟩,fun _=>⟨he,(hz rfl).1,(hz rfl).2.1,(hz rfl).2.2,hnone⟩,hbl⟩,?_⟩
   ·simpa using hV'
   ·unfold aJf;refine aEk fun z=> ?_;simp only[AW,A8,AQ,BI];omega
  ·refine⟨aJf p e cd' ca' cs' ph held.length capj ch::cf::M.C k',⟨f,_,e,k',rfl,rfl,⟨W',cd',ca',cs',held,ph,capj,ch,rfl,hW',hVj,by simpa[hne] using hJ'⟩,fun h0=>absurd h0 hne,hbl⟩,?_⟩
   unfold aJf;refine aEk fun z=> ?_;simp only[AW,A8,AQ,BI];omega
 ·have hM2:=Ct.wide (bNf p.bj p.bw J.e he ph held.length capj (.int .i64 (width:Int)) (.int .i64 (bound:Int)) (.func (.func mk) fs.toArray us.toArray) (.slice pa l.length cap)) ([aAh p.bw p.bd p.ba p.bs,cd,ca,cs,ch]++(cf::M.C k0))
  refine Ct.convP hM2 (by unfold aJf;refine aEk fun z=> ?_;simp only[AW,A8,AQ,A3,BI];omega) ?_
  rintro v H' ⟨H1,⟨rfl,rfl⟩,rfl⟩
  refine⟨aJf p J.e cd ca cs ph held.length capj ch::cf::M.C k0,⟨⟨0,0,0,0⟩,_,J.e,k0,rfl,rfl,⟨W,cd,ca,cs,held,ph,capj,ch,rfl,hW,hVj,hJW.idle he _ _ _ _⟩,fun h0=>absurd h0 he,AS _,AS _⟩,?_⟩
  unfold aJf;refine aEk fun z=> ?_;simp only[AW,A8,AQ,A3,BI];omega
def fl4 (f:Fl):List Value:=[.int .i64 (f.first:Int),.int .i64 (f.blocks:Int),.int .i64 (f.width:Int),.int .i64 (f.count:Int)]
theorem aHo (f:Fl) (fs:List Fl):aAi (f::fs)=fl4 f++aAi fs:=by simp[aAi,fl4]
theorem bKu:∀(fs:List Fl) (i:Nat) (g:Fl) (rest:List Value),i<fs.length→aFi (aAi fs++rest) (i*4) (fl4 g)=aAi (fs.set i g)++rest
 |[],_,_,_,h=>by simp at h
 |f::fs,0,g,rest,_=>by simp[aAi,aFi,fl4]
 |f::fs,i+1,g,rest,h=>by
  have ih:=bKu fs i g rest (by simpa using h)
  rw[List.set_cons_succ,aHo,aHo,AR,AR,←ih,←aUo]
  congr 1
  simp[fl4];omega
theorem bIw (bj bw:Nat) (e:Int) (he:e≠0) (p:Option Addr) (n cap:Nat) (f:Fl) (o:T5) (once:Bool):
  CtQ AC 44 [pv bj,flv f,tv o,.bool once] [aFa bj bw e p n cap] (flv ⟨0,0,0,0⟩):=by
 have hflv:flv f= .agg #[.int .i64 (f.first:Int),.int .i64 (f.blocks:Int),.int .i64 (f.width:Int),.int .i64 (f.count:Int)]:=rfl
 have hz:flv ⟨0,0,0,0⟩= .agg #[.int .i64 0,.int .i64 0,.int .i64 0,.int .i64 0]:=rfl
 have hov:tv o= .agg #[.int .i64 o.c0,.int .i64 o.c1,.int .i64 o.c2,.int .i64 o.c3,.int .i64 o.c4]:=rfl
 rw[hflv,hz,hov]
 unfold aFa
 refine Ct.intro Tryz.func44 rfl Tryz.ntmps44 (nle rfl) fun w0=> ?_;dsimp only[aAa,AD]
 repeat(first|(refine st ?_;intros)|refine G.draw [] (h:= ?_))
 (refine Dn.post (Hr:=[[(bj,row [pv bw,.int .i64 e,.slice p n cap] 95)]]) Tryz.results44 (hR:= ?_);exact⟨rfl,rfl⟩)
theorem bEy (bj bw:Nat) (p:Option Addr) (cap:Nat) (held:List (Fl×List T5)) (ch:aAc) (hV:Vec 27 4 p held.length cap (aAi (held.map (·.1))) ch) (hn:held.length≤1000000) (f:Fl) (ts:List T5) (hf:(f,ts)∈held) (o:T5) (once:Bool) (Hc:aAc) (Q:Fl→Int→aAc→Prop)
  (hS:Ct AC 83 [pv bw,flv f,tv o,.bool once] [Hc] fun v H'=>∃g e Hc',v= .tuple #[flv g,.int .i64 e]∧H'=[Hc']∧Q g e Hc'):
  Ct AC 44 [pv bj,flv f,tv o,.bool once] [aFa bj bw 0 p held.length cap,ch,Hc] fun v H'=>∃g e Hc',Q g e Hc'∧
   ((e=0∧v=flv g∧∃i ch' us,held[i]? =some (f,us)∧H'=[aFa bj bw 0 p held.length cap,ch',Hc']∧∀ts',Vec 27 4 p held.length cap (aAi ((held.set i (g,ts')).map (·.1))) ch')∨
    (e≠0∧v=flv ⟨0,0,0,0⟩∧H'=[aFa bj bw e p held.length cap,ch,Hc'])):=by
 have hflv:flv f= .agg #[.int .i64 (f.first:Int),.int .i64 (f.blocks:Int),.int .i64 (f.width:Int),.int .i64 (f.count:Int)]:=rfl
 have hz:flv ⟨0,0,0,0⟩= .agg #[.int .i64 0,.int .i64 0,.int .i64 0,.int .i64 0]:=rfl
 have hov:tv o= .agg #[.int .i64 o.c0,.int .i64 o.c1,.int .i64 o.c2,.int .i64 o.c3,.int .i64 o.c4]:=rfl
 rw[hflv,hov] at hS⊢
 rw[hz]
 unfold aFa
 have hpos:0<held.length:=List.length_pos_of_mem hf
 obtain⟨vb,rest,rfl,rfl,hvl,hmc,hcm⟩:∃b rest,p=some ⟨b,0,none⟩∧ch=[(b,row (aAi (held.map (·.1))++rest) 27)]∧cap*4≤(aAi (held.map (·.1))).length+rest.length∧held.length≤cap∧cap≤maxLen:=by
  rcases hV.2 with⟨_,e,_⟩|hh
  ·omega
  ·exact hh
 have hVl:=hV.1
 refine Ct.intro Tryz.func44 rfl Tryz.ntmps44 (nle rfl) fun w0=> ?_;dsimp only[aAa,AD]
 repeat(first|(refine st ?_;intros)|refine G.draw [] (h:= ?_))
 refine R.call (hct:=hS) (h:= ?_)
 rintro _ _ ⟨g,e,Hc',rfl,rfl,hQ⟩
 try dsimp only[AA,AB]
 have hgv:flv g= .agg #[.int .i64 (g.first:Int),.int .i64 (g.blocks:Int),.int .i64 (g.width:Int),.int .i64 (g.count:Int)]:=rfl
 rw[hgv]
 by_cases he:e=0
 ·subst he
  generalize hcells:aAi (held.map (·.1))++rest=cells at*
  have hclen:cap*4≤cells.length:=by rw[←hcells,AF];exact hvl
  repeat(first|(refine st ?_;intros)|refine G.draw [] (h:= ?_))
  rename_i b5 b6 b8 b9
  refine G.loop (X:=Nat) (fun i=>i≤held.length∧∀j x,j<i→held[j]? =some x→x.1≠f)
   (fun i=>[(42,.int .i64 (i:Int)),(41,.int .i64 (held.length:Int)),(40,.slice (some ⟨vb,0,none⟩) held.length cap),(9,pv b9),(8,pv b8),(5,pv b5),(0,pv bj)])
   (fun _=>[[(b9,row [.int .i64 (g.first:Int),.int .i64 (g.blocks:Int),.int .i64 (g.width:Int),.int .i64 (g.count:Int)] 27)],[(b8,row [.int .i64 0,.int .i64 0,.int .i64 0,.int .i64 0] 27)],[(b5,row [.int .i64 (f.first:Int),.int .i64 (f.blocks:Int),.int .i64 (f.width:Int),.int .i64 (f.count:Int)] 27)],
    [(bj,row [pv bw,.int .i64 0,.slice (some ⟨vb,0,none⟩) held.length cap] 95)],[(vb,row cells 27)],Hc']) (fun i=>held.length-i) 0 ⟨AS _,fun j x h=>by omega⟩ (body:= ?_)
  rintro i ⟨hi,hno⟩
  by_cases hlt:i<held.length
  ·have hli:held[i]? =some held[i]:=AE hlt
   have hget:=aJq (rest:=rest) hli
   rw[hcells] at hget
   generalize hx:held[i]=x at*
   obtain⟨⟨x1,x2,x3,x4⟩,us⟩:=x
   obtain⟨f1,f2,f3,f4⟩:=f
   dsimp only at*
   by_cases hxf:x1=f1∧x2=f2∧x3=f3∧x4=f4
   ·obtain⟨rfl,rfl,rfl,rfl⟩:=hxf
    have hset:aFi cells (i*4) [.int .i64 (g.first:Int),.int .i64 (g.blocks:Int),.int .i64 (g.width:Int),.int .i64 (g.count:Int)]=aAi ((held.map (·.1)).set i g)++rest:=by
     rw[←hcells];exact bKu _ i g rest (by simpa using hlt)
    generalize hc2:aAi ((held.map (·.1)).set i g)++rest=cells2 at*
    repeat(first|(refine st ?_;intros)|refine G.draw [] (h:= ?_))
    (refine Dn.post (Hr:=[[(bj,row [pv bw,.int .i64 0,.slice (some ⟨vb,0,none⟩) held.length cap] 95)],[(vb,row cells2 27)],Hc']) Tryz.results44 (hR:= ?_);refine⟨g,0,Hc',hQ,.inl ⟨rfl,rfl,i,_,us,hli,rfl,fun ts'=> ?_⟩⟩)
    rw[List.map_set]
    refine Vec.mk' hc2.symm (by rw[aBl];simp) ?_ hmc hcm
    rw[←hset,aEq];exact hclen
   ·repeat(first|(refine st ?_;intros)|refine G.draw [] (h:= ?_))
    refine Dn.round (i+1) ⟨by omega,fun j y hj hy=> ?_⟩ (by omega)
    by_cases hji:j=i
    ·subst hji
     rw[hli] at hy
     simp only[A9] at hy
     subst hy
     intro h0
     simp only[Fl.mk.injEq] at h0
     exact hxf h0
    ·exact hno j y (by omega) hy
  ·exfalso
   obtain⟨j,hj,he⟩:=CQ hf
   exact hno j _ (by omega) (AE hj) (by rw[he])
 ·repeat(first|(refine st ?_;intros)|refine G.draw [] (h:= ?_))
  (refine Dn.post (Hr:=[[(bj,row [pv bw,.int .i64 e,.slice (some ⟨vb,0,none⟩) held.length cap] 95)],[(vb,row (aAi (held.map (·.1))++rest) 27)],Hc']) Tryz.results44 (hR:= ?_);exact⟨g,e,Hc',hQ,.inr ⟨he,rfl,rfl⟩⟩)
end Go.Proofs.YtammjnjpheobaaaGreat
