/-
  Parts of the proof, put together: Pass, Sort, Ref10, SortU. No condition.
-/
import Derived.Test.YtammjnjpheobaaaGreatK17
set_option linter.unusedVariables false
set_option linter.unusedSimpArgs false
set_option linter.unnecessarySimpa false
set_option maxHeartbeats 4000000
namespace Go.Proofs.YtammjnjpheobaaaGreat
open Go.SL Go.Spc Go.Tup Go.Srt
theorem addF_swap (f g:Fl) (l:List Ext):(addF f (addF g l)).Perm (addF g (addF f l)):=by
 unfold addF
 split<;>split<;>first|exact .refl _|exact List.Perm.swap _ _ _
theorem addFs_add (f:Fl):∀(fs:List Fl) (l:List Ext),(addFs fs (addF f l)).Perm (addF f (addFs fs l))
 |[],_=> .refl _
 |g::fs,l=>by
  have h:=addFs_add f fs (addF g l)
  refine List.Perm.trans ?_ h
  show(addFs fs (addF g (addF f l))).Perm _
  exact addFs_live (addF_swap g f l)
where
 addFs_live:∀{fs:List Fl} {a b:List Ext},a.Perm b→(addFs fs a).Perm (addFs fs b)
 |[],_,_,h=>h
 |f::fs,_,_,h=>addFs_live (fs:=fs) (addF_perm h)
theorem addFs_live {fs:List Fl} {a b:List Ext} (h:a.Perm b):(addFs fs a).Perm (addFs fs b):=addFs_add.addFs_live h
theorem addFs_cons (f:Fl) (fs:List Fl) (l:List Ext):(addFs (f::fs) l).Perm (addF f (addFs fs l)):=addFs_add f fs l
theorem addFs_perm {a b:List Fl} (h:a.Perm b) (l:List Ext):(addFs a l).Perm (addFs b l):=by
 induction h generalizing l with
 |nil=>exact .refl _
 |cons x _ ih=>exact ih _
 |swap x y l'=>exact addFs_live (addF_swap _ _ _)
 |trans _ _ ih1 ih2=>exact(ih1 l).trans (ih2 l)
theorem LvOf.add {f:Fl} {Lv live:List Ext} (h:live.Perm (addF f Lv)):LvOf f.first f.blocks Lv live:=by
 unfold LvOf;unfold addF at h
 split
 ·rename_i h0;rw[if_pos h0] at h;exact h
 ·rename_i h0;rw[if_neg h0] at h;exact h
theorem fcells_length (fs:List Fl):(fcells fs).length=fs.length*4:=by
 induction fs with
 |nil=>rfl
 |cons f fs ih=>simp only[fcells,List.flatMap_cons,List.length_append,List.length_cons] at ih⊢;rw[ih];simp;omega
theorem fc_get {rs:List (Fl×List T5)} {rest:List Value} {j:Nat} {r:Fl×List T5} (h:rs[j]? =some r):
  ((fcells (rs.map (·.1))++rest).drop (j*4)).take 4=[.int .i64 (r.1.first:Int),.int .i64 (r.1.blocks:Int),.int .i64 (r.1.width:Int),.int .i64 (r.1.count:Int)]:=by
 induction rs generalizing j with
 |nil=>simp at h
 |cons x rs ih=>
  cases j with
  |zero=>simp at h;subst h;simp[fcells]
  |succ j=>
   have e:fcells ((x::rs).map (·.1))=[.int .i64 (x.1.first:Int),.int .i64 (x.1.blocks:Int),.int .i64 (x.1.width:Int),.int .i64 (x.1.count:Int)]++fcells (rs.map (·.1)):=by simp[fcells]
   rw[e,List.append_assoc,show(j+1)*4=4+j*4 by omega,←List.drop_drop]
   exact ih (by simpa using h)
theorem fcells_all (fs:List Fl):(fcells fs).all Value.oneCell'=true:=by
 induction fs with
 |nil=>rfl
 |cons f fs ih=>
  simp only[fcells,List.flatMap_cons,List.all_append] at ih⊢
  rw[ih];rfl
theorem nblocks_sum {s k:Nat} (hp:1≤holds s k) (rs:List (Fl×List T5)):nblocks s k (rs.map (·.1.count)).sum≤filesA s k rs:=by
 have hadd:∀a b,nblocks s k (a+b)≤nblocks s k a+nblocks s k b:=by
  intro a b
  unfold nblocks
  generalize holds s k=h at*
  have h1:a≤(a+h-1)/h*h:=by have:=Nat.div_add_mod (a+h-1) h;have:=Nat.mod_lt (a+h-1) (show 0<h by omega);rw[Nat.mul_comm];omega
  have h2:b≤(b+h-1)/h*h:=by have:=Nat.div_add_mod (b+h-1) h;have:=Nat.mod_lt (b+h-1) (show 0<h by omega);rw[Nat.mul_comm];omega
  rw[Nat.div_le_iff_le_mul_add_pred (by omega)]
  rw[Nat.mul_add,Nat.mul_comm h,Nat.mul_comm h]
  omega
 induction rs with
 |nil=>simp[filesA,nblocks_zero hp]
 |cons r rs ih=>
  simp only[filesA,List.map_cons,List.sum_cons] at ih⊢
  exact Nat.le_trans (hadd _ _) (Nat.add_le_add_left ih _)
theorem filesA_app (s k:Nat) (a b:List (Fl×List T5)):filesA s k (a++b)=filesA s k a+filesA s k b:=by simp[filesA,List.sum_append]
theorem RunsOk.swap {d:Nat→Option (List Int)} {size k:Nat} {o:T5} {once:Bool} {l out:List T5} {a g b:List (Fl×List T5)} {f:Fl} (h:RunsOk d size k o once l (a++(g++b))) (h1:f.width=k) (h2:FileOk d size [f.ext] f out) (h3:Sd (ltO o) once out) (h4:Go.Srt.Sp (ltO o) once (g.flatMap (·.2)) out) (h5:0<f.count):
  RunsOk d size k o once l ((a++[(f,out)])++b) where
 each:=fun r hr=>by
  simp only[List.mem_append,List.mem_singleton] at hr
  rcases hr with(hr|rfl)|hr
  ·exact h.each r (by simp[hr])
  ·exact⟨h1,h2,h3⟩
  ·exact h.each r (by simp[hr])
 sp:=by
  have:=h.sp
  rw[List.flatMap_append,List.flatMap_append] at this
  rw[List.flatMap_append,List.flatMap_append,List.append_assoc]
  refine this.trans (Go.Srt.Sp.app (Go.Srt.Sp.refl _ _) (Go.Srt.Sp.app ?_ (Go.Srt.Sp.refl _ _)))
  simpa using h4
 pos:=fun hl r hr=>by
  simp only[List.mem_append,List.mem_singleton] at hr
  rcases hr with(hr|rfl)|hr
  ·exact h.pos hl r (by simp[hr])
  ·exact h5
  ·exact h.pos hl r (by simp[hr])
structure PassX where
 dn:List (Fl×List T5)
 rem:List (Fl×List T5)
 nx:List (Fl×List T5)
 cd:Chunk
 ca:Chunk
 cs:Chunk
 W:Wk
 pr:Option Addr
 rc:Nat
 pn:Option Addr
 nc:Nat
 vn:Chunk
 last:T5
 sm:Bool
structure FreeX where
 j:Nat
 cs:Chunk
 W:Wk
theorem pass_ct (bz bw bd ba bs:Nat) (W:Wk) (cd ca cs:Chunk) (h:Wc bd ba bs W cd ca cs) (k:Nat) (hk1:1≤k) (hk5:k≤5) (o:T5) (once:Bool) (l:List T5) (hl:l≠[]) (rs:List (Fl×List T5)) (hR:RunsOk W.δ.disk W.δ.size k o once l rs) (live0:List Ext) (hlv:W.live.Perm (addFs (rs.map (·.1)) live0))
  (p:Option Addr) (cap:Nat) (vc:Chunk) (hV:Vec 27 4 p rs.length cap (fcells (rs.map (·.1))) vc) (h2:2≤rs.length) (hr:5*W.δ.size≤W.α.room-W.α.used) (hac:W.δ.acts≤10000000000) (hcn:(rs.map (·.1.count)).sum≤1000000)
  (last:T5) (sm:Bool) (fan:Nat) (hfan:fan+1=(W.α.room-W.α.used)/W.δ.size):
  Ct Tryz.prog 129 [pv bz] [sRow bz bw o once p rs.length cap last sm,wrow bw bd ba bs,cd,ca,cs,vc] fun v H'=>
   ∃cd' ca' cs' W' p' cap' vc' last' sm' rs',H'=[sRow bz bw o once p' rs'.length cap' last' sm',wrow bw bd ba bs,cd',ca',cs',vc']∧Wc bd ba bs W' cd' ca' cs'∧Ev W W' (2*filesA W.δ.size k rs) (filesA W.δ.size k rs)∧Keep live0 W W'∧W'.α.gs.Perm W.α.gs∧
    Vec 27 4 p' rs'.length cap' (fcells (rs'.map (·.1))) vc'∧W'.live.Perm (addFs (rs'.map (·.1)) live0)∧
    ((v= .int .i64 0∧RunsOk W'.δ.disk W.δ.size k o once l rs'∧0<rs'.length∧rs'.length*fan≤rs.length+(fan-1)∧(rs'.map (·.1.count)).sum≤(rs.map (·.1.count)).sum∧filesA W.δ.size k rs'≤filesA W.δ.size k rs)∨
     (v= .int .i64 5∧big W.σ.free<filesA W.δ.size k rs)∨(v= .int .i64 6∧W.δ.fault≠-1)):=by
 obtain⟨⟨hs1,hs2⟩,hbk,hfr⟩:=h.dev.num
 obtain⟨hu1,hu2,_,hu4⟩:=h.ar.num
 have hp:=holds_pos hs1 hk1 hk5
 have hD:=WDevice_ct bw bd ba bs
 have hA:=WArena_ct bw bd ba bs
 have hL:=aLeft ba W.α ca h.ar
 rw[show(W.α.room:Int)-(W.α.used:Int)=((W.α.room-W.α.used:Nat):Int) by omega] at hL
 have hSz:=Size_ct bd W.δ cd h.dev
 have hVn:=Vec.nil 27 4
 unfold sRow sCells
 have hL1:W.α.room-W.α.used≤1000000000:=by omega
 have hf4:4≤fan:=by
  have:5≤(W.α.room-W.α.used)/W.δ.size:=by rw[Nat.le_div_iff_mul_le (by omega)];omega
  omega
 have hfb:fan+1≤1000000000:=by rw[hfan];exact Nat.le_trans (Nat.div_le_self _ _) hL1
 have hfs:(fan+1)*W.δ.size≤W.α.room-W.α.used:=by rw[hfan];exact Nat.div_mul_le_self _ _
 have e1:IntKind.wrap .i64 (((W.α.room-W.α.used:Nat):Int).tdiv (W.δ.size:Int))=((fan+1:Nat):Int):=by
  rw[Int.tdiv_eq_ediv_of_nonneg (by omega),←Int.natCast_ediv,←hfan,wrap_i64 (by omega)]
 have e2:IntKind.wrap .i64 (((fan+1:Nat):Int)-1)=(fan:Int):=by rw[wrap_i64 (by omega)];omega
 obtain⟨_,h0|⟨vb,rest,rfl,rfl,hvl,hmc,hcm⟩⟩:=hV
 ·omega
 have hget:∀(j:Nat) (r:Fl×List T5),rs[j]? =some r→((fcells (rs.map (·.1))++rest).drop (j*4)).take 4=_:=fun j r hj=>fc_get hj
 generalize hcells:fcells (rs.map (·.1))++rest=cells at*
 have hpos0:=hR.pos hl
 have hfA0:filesA W.δ.size k rs≤(rs.map (·.1.count)).sum:=filesA_le hp
 refine Ct.intro Tryz.func129 rfl Tryz.ntmps129 (nle rfl) fun w0=> ?_;dsimp only[argSlots,Nat.reduceAdd]
 repeat(first|(refine st ?_;intros)|refine G.draw (id:=1) [(4,.quiet),(5,.quiet),(10,.quiet),(11,.quiet)] (h:= ?_)|refine G.draw [] (h:= ?_)|refine G.drawOrd (id:=16) [0,1,2,5,6,7,8,9,10,3,4,11,12,13,14] [(4,.eff [8])] (h:= ?_)|(refine cq hD ?_)|(refine cq hA ?_)|(refine cq hL ?_)|(refine cq hSz ?_))
 refine G.loop (X:=PassX) (fun x=>rs=x.dn++x.rem∧Wc bd ba bs x.W x.cd x.ca x.cs∧Ev W x.W (2*filesA W.δ.size k x.dn) (filesA W.δ.size k x.dn)∧Keep live0 W x.W∧x.W.α.gs.Perm W.α.gs∧x.W.live.Perm (addFs ((x.nx++x.rem).map (·.1)) live0)∧RunsOk x.W.δ.disk W.δ.size k o once l (x.nx++x.rem)∧
   Vec 27 4 x.pn x.nx.length x.nc (fcells (x.nx.map (·.1))) x.vn∧x.rem.length≤x.rc∧x.rc≤cap∧(x.rem≠[]→x.pr=some ⟨vb,x.dn.length*4,none⟩)∧x.nx.length*fan≤x.dn.length+(fan-1)∧(x.rem≠[]→x.nx.length*fan≤x.dn.length)∧
   (x.nx.map (·.1.count)).sum≤(x.dn.map (·.1.count)).sum∧filesA W.δ.size k x.nx≤filesA W.δ.size k x.dn∧(x.dn≠[]→0<x.nx.length))
  (fun x=>[(4,.slice x.pn x.nx.length x.nc),(3,.int .i64 (fan:Int)),(0,pv bz)])
  (fun x=>[[(bz,row [pv bw,.int .i64 o.c0,.int .i64 o.c1,.int .i64 o.c2,.int .i64 o.c3,.int .i64 o.c4,.bool once,.slice x.pr x.rem.length x.rc,.int .i64 x.last.c0,.int .i64 x.last.c1,.int .i64 x.last.c2,.int .i64 x.last.c3,.int .i64 x.last.c4,.bool x.sm] 186)],wrow bw bd ba bs,x.cd,x.ca,x.cs,[(vb,row cells 27)],x.vn]) (fun x=>x.rem.length)
  ⟨[],rs,[],cd,ca,cs,W,some ⟨vb,0,none⟩,cap,none,0,[],last,sm⟩
  ⟨rfl,h,(Ev.refl W).weak (Nat.zero_le _) (Nat.zero_le _),Keep.refl _ _,.refl _,by simpa using hlv,by simpa using hR,Vec.nil _ _,hmc,Nat.le_refl _,fun _=>rfl,by simp,by simp,by simp,by simp[filesA],by simp⟩ (by repeat(first|exact trivial|refine⟨rfl,?_⟩)) (by repeat(first|exact Split.nil|(apply Split.cons;·(first|exact Take.nil|(repeat(first|exact Take.here|apply Take.there)))))) ?_
 rintro⟨dn,rem,nx,cd1,ca1,cs1,W1,pr,rc,pn,nc,vn,last1,sm1⟩ ⟨hrs,hW1,hE1,hK1,hg1,hl1,hR1,hV1,hrc,hrcc,hpr,hlen,hlen2,hcs1,hfA1,hnx1⟩
 dsimp only at hrs hW1 hE1 hK1 hg1 hl1 hR1 hV1 hrc hrcc hpr hlen hlen2 hcs1 hfA1 hnx1⊢
 have hsz1:=hE1.size
 have hrm1:W1.α.room=W.α.room:=hE1.room
 have hac1:=hE1.acts
 have hus1:W1.α.used=W.α.used:=by rw[hW1.ar.num.2.2.2,(hg1.map (·.n)).sum_nat,←hu4]
 have hpos1:=hR1.pos hl
 have hsum:(rs.map (·.1.count)).sum=(dn.map (·.1.count)).sum+(rem.map (·.1.count)).sum:=by rw[hrs,List.map_append,List.sum_append]
 have hfAs:filesA W.δ.size k rs=filesA W.δ.size k dn+filesA W.δ.size k rem:=by rw[hrs,filesA_app]
 have hrsl:rs.length=dn.length+rem.length:=by rw[hrs,List.length_append]
 have hrsle:rs.length≤1000000:=Nat.le_trans (len_le_sum fun r hr=>hpos0 r hr) hcn
 have hnxl:nx.length≤1000000:=by
  have h1:nx.length*1≤nx.length*fan:=Nat.mul_le_mul_left _ (by omega)
  have h2:nx.length≤(nx.map (·.1.count)).sum:=len_le_sum fun r hr=>hpos1 r (List.mem_append_left _ hr)
  omega
 by_cases hrem:0<rem.length
 ·have hne:rem≠[]:=fun e=>by rw[e] at hrem;simp at hrem
  have hpe:=hpr hne
  subst hpe
  have hlen2:=hlen2 hne
  by_cases hone:rem.length=1
  ·obtain⟨r,rfl⟩:∃r,rem=[r]:=by
    match rem,hone with
    |[r],_=>exact⟨r,rfl⟩
   have hg0:=hget dn.length r (by rw[hrs];simp)
   have hmin:min (fan:Int) (([r].length:Nat):Int)=1:=by simp;omega
   have hrl1:rs.length=dn.length+1:=by rw[hrsl];rfl
   repeat(first|(refine st ?_;intros)|refine G.draw (id:=1) [(4,.quiet),(5,.quiet),(10,.quiet),(11,.quiet)] (h:= ?_)|refine G.draw [] (h:= ?_)|refine G.drawOrd (id:=16) [0,1,2,5,6,7,8,9,10,3,4,11,12,13,14] [(4,.eff [8])] (h:= ?_)|(refine cq hD ?_)|(refine cq hA ?_)|(refine cq hL ?_)|(refine cq hSz ?_))
   rename_i p' cap' c' hV'
   have hV3:Vec 27 4 p' (nx.length+1) cap' (fcells ((nx++[r]).map (·.1))) c':=by rw[List.map_append,fcells_app];exact hV'
   have hln:(nx++[r]).length=nx.length+1:=by simp
   rw[←hln] at hV3
   (refine Dn.post (Hr:=[[(bz,row [pv bw,.int .i64 o.c0,.int .i64 o.c1,.int .i64 o.c2,.int .i64 o.c3,.int .i64 o.c4,.bool once,.slice p' (nx.length+1) cap',.int .i64 last1.c0,.int .i64 last1.c1,.int .i64 last1.c2,.int .i64 last1.c3,.int .i64 last1.c4,.bool sm1] 186)],wrow bw bd ba bs,cd1,ca1,cs1,c']) Tryz.results129 (hR:= ?_);refine⟨cd1,ca1,cs1,W1,p',cap',c',last1,sm1,nx++[r],by rw[hln],hW1,hE1.weak (by omega) (by omega),hK1,hg1,hV3,hl1,.inl ⟨rfl,hR1,by omega,?_,?_,?_⟩⟩)
   ·rw[hln,Nat.succ_mul];omega
   ·rw[hsum,List.map_append,List.sum_append];omega
   ·rw[hfAs,filesA_app];omega
  ·obtain⟨kk,hkk⟩:∃kk,kk=min fan rem.length:=⟨_,rfl⟩
   have hmin:min (fan:Int) (rem.length:Int)=(kk:Int):=by omega
   obtain⟨grp,hgrp⟩:∃grp,grp=rem.take kk:=⟨_,rfl⟩
   obtain⟨rem',hrem'⟩:∃rem',rem'=rem.drop kk:=⟨_,rfl⟩
   have hsp:rem=grp++rem':=by rw[hgrp,hrem',List.take_append_drop]
   have hgl:grp.length=kk:=by rw[hgrp,List.length_take];omega
   have hrl':rem'.length=rem.length-kk:=by rw[hrem',List.length_drop]
   have hgget:∀(j:Nat) (r:Fl×List T5),grp[j]? =some r→(cells.drop (dn.length*4+j*4)).take 4=[.int .i64 (r.1.first:Int),.int .i64 (r.1.blocks:Int),.int .i64 (r.1.width:Int),.int .i64 (r.1.count:Int)]:=by
    intro j r hj
    rw[←Nat.add_mul]
    refine hget (dn.length+j) r ?_
    have hlt:=(List.getElem?_eq_some_iff.1 hj).1
    rw[hrs,hsp,List.getElem?_append_right (by omega),show dn.length+j-dn.length=j by omega,List.getElem?_append_left hlt];exact hj
   have hingr:∀r∈grp,r∈nx++rem:=fun r hr=>by rw[hsp];simp[hr]
   have hcg:(rem.map (·.1.count)).sum=(grp.map (·.1.count)).sum+(rem'.map (·.1.count)).sum:=by rw[hsp,List.map_append,List.sum_append]
   have hfg:filesA W.δ.size k rem=filesA W.δ.size k grp+filesA W.δ.size k rem':=by rw[hsp,filesA_app]
   have hnsum:=nblocks_sum hp grp
   have hkf:(kk+1)*W.δ.size≤(fan+1)*W.δ.size:=Nat.mul_le_mul_right _ (by omega)
   have hMg:=merge_ct bz bw bd ba bs W1 cd1 ca1 cs1 hW1 k o once grp ⟨hk1,hk5,by omega,fun r hr=>⟨(hR1.each r (hingr r hr)).1,by rw[hsz1];exact(hR1.each r (hingr r hr)).2.1,(hR1.each r (hingr r hr)).2.2,hpos1 r (hingr r hr)⟩,fun r hr=>hl1.mem_iff.2 (addFs_ext (List.mem_map.2 ⟨r,hingr r hr,rfl⟩) (by
     have h1:=(hR1.each r (hingr r hr)).2.1.blk
     have h2:=(hR1.each r (hingr r hr)).1
     have h3:=hpos1 r (hingr r hr)
     rw[h1,h2]
     unfold nblocks
     have:1≤(r.1.count+holds W.δ.size k-1)/holds W.δ.size k:=by rw[Nat.le_div_iff_mul_le (by omega)];omega
     omega)),by rw[hsz1,hrm1,hus1,hgl];omega,by omega,by omega⟩ vb (dn.length*4) rc cells hgget (some ⟨vb,dn.length*4,none⟩) rem.length rc last1 sm1
   unfold sRow sCells at hMg
   rw[hgl,hsz1] at hMg
   repeat(first|(refine st ?_;intros)|refine G.draw (id:=1) [(4,.quiet),(5,.quiet),(10,.quiet),(11,.quiet)] (h:= ?_)|refine G.draw [] (h:= ?_)|refine G.drawOrd (id:=16) [0,1,2,5,6,7,8,9,10,3,4,11,12,13,14] [(4,.eff [8])] (h:= ?_)|(refine cq hD ?_)|(refine cq hA ?_)|(refine cq hL ?_)|(refine cq hSz ?_))
   rw[hmin,Int.toNat_natCast]
   refine R.call (hct:=hMg) (h:= ?_)
   rintro _ _ ⟨cd2,ca2,cs2,W2,last2,sm2,rfl,hW2,hE2,hK2,hg2,⟨f,out,rfl,hl2,hf2,hfc2,hfc3,hfo2,hsd2,hsp2⟩|⟨rfl,hbg2,hl2⟩|⟨rfl,hft2,hl2⟩⟩
   try dsimp only[List.cons_append,List.nil_append]
   ·have hflv:flv f= .agg #[.int .i64 (f.first:Int),.int .i64 (f.blocks:Int),.int .i64 (f.width:Int),.int .i64 (f.count:Int)]:=rfl
    rw[hflv]
    repeat(first|(refine st ?_;intros)|refine G.draw (id:=1) [(4,.quiet),(5,.quiet),(10,.quiet),(11,.quiet)] (h:= ?_)|refine G.draw [] (h:= ?_)|refine G.drawOrd (id:=16) [0,1,2,5,6,7,8,9,10,3,4,11,12,13,14] [(4,.eff [8])] (h:= ?_)|(refine cq hD ?_)|(refine cq hA ?_)|(refine cq hL ?_)|(refine cq hSz ?_))
    rename_i b6
    obtain⟨base,hbase⟩:∃base,base=addFs (((nx++[(f,out)])++rem').map (·.1)) live0:=⟨_,rfl⟩
    have hlg:W2.live.Perm (addFs (grp.map (·.1)) base):=by
     refine hl2.trans ((addF_perm hl1).trans ((addFs_cons _ _ _).symm.trans ?_))
     rw[hbase,show∀a b l,addFs a (addFs b l)=addFs (b++a) l from fun a b l=>by simp[addFs]]
     refine addFs_perm ?_ _
     rw[hsp]
     simp only[List.map_append,List.map_cons,List.map_nil,List.append_assoc]
     have h1:∀(f:Fl) (a b c:List Fl),(f::(a++(b++c))).Perm (a++([f]++(c++b))):=fun f a b c=>by
      refine(List.perm_middle (l₁:=a) (l₂:=b++c)).symm.trans (List.Perm.append_left _ ?_)
      exact List.Perm.cons _ List.perm_append_comm
     exact h1 _ _ _ _
    refine G.loop (X:=FreeX) (fun x=>x.j≤kk∧Wc bd ba bs x.W cd2 ca2 x.cs∧Ev W2 x.W 0 0∧x.W.δ=W2.δ∧x.W.α=W2.α∧x.W.live.Perm (addFs ((grp.drop x.j).map (·.1)) base))
     (fun x=>[(81,.int .i64 (x.j:Int)),(80,.int .i64 (kk:Int)),(79,.slice (some ⟨vb,dn.length*4,none⟩) kk rc),(6,pv b6),(5,.int .i64 (kk:Int)),(4,.slice pn nx.length nc),(3,.int .i64 (fan:Int)),(0,pv bz)])
     (fun x=>[[(bz,row [pv bw,.int .i64 o.c0,.int .i64 o.c1,.int .i64 o.c2,.int .i64 o.c3,.int .i64 o.c4,.bool once,.slice (some ⟨vb,dn.length*4,none⟩) rem.length rc,.int .i64 last2.c0,.int .i64 last2.c1,.int .i64 last2.c2,.int .i64 last2.c3,.int .i64 last2.c4,.bool sm2] 186)],wrow bw bd ba bs,cd2,ca2,x.cs,[(vb,row cells 27)],vn,[(b6,row [.int .i64 (f.first:Int),.int .i64 (f.blocks:Int),.int .i64 (f.width:Int),.int .i64 (f.count:Int)] 27)]])
     (fun x=>kk-x.j) ⟨0,cs2,W2⟩ ⟨Nat.zero_le _,hW2,Ev.refl _,rfl,rfl,hlg⟩ (body:= ?_)
    rintro⟨j,cs3,W3⟩ ⟨hj,hW3,hE3,hδ3,hα3,hl3⟩
    dsimp only at hj hW3 hE3 hδ3 hα3 hl3⊢
    by_cases hjk:j<kk
    ·have hjg:grp[j]? =some grp[j]:=List.getElem?_eq_getElem (by omega)
     have hgj:=hgget j _ hjg
     have hdj:grp.drop j=grp[j]::grp.drop (j+1):=List.drop_eq_getElem_cons (by omega)
     rw[hdj] at hl3
     generalize grp[j]=r at*
     have hFr:=Free_u bw bd ba bs W3 cd2 ca2 cs3 hW3 r.1 _ (LvOf.add (hl3.trans (addFs_cons _ _ _)))
     have hflr:flv r.1= .agg #[.int .i64 (r.1.first:Int),.int .i64 (r.1.blocks:Int),.int .i64 (r.1.width:Int),.int .i64 (r.1.count:Int)]:=rfl
     rw[hflr] at hFr
     have e3:IntKind.wrap .i64 ((j:Int)+1)=((j+1:Nat):Int):=by rw[wrap_i64 (by omega)];rfl
     repeat(first|(refine st ?_;intros)|refine G.draw (id:=1) [(4,.quiet),(5,.quiet),(10,.quiet),(11,.quiet)] (h:= ?_)|refine G.draw [] (h:= ?_)|refine G.drawOrd (id:=16) [0,1,2,5,6,7,8,9,10,3,4,11,12,13,14] [(4,.eff [8])] (h:= ?_)|(refine cq hD ?_)|(refine cq hA ?_)|(refine cq hL ?_)|(refine cq hSz ?_))
     refine R.call (hct:=hFr) (h:= ?_)
     rintro _ _ ⟨cs4,W4,rfl,rfl,hW4,hE4,hδ4,hα4,hl4⟩
     try dsimp only[List.cons_append,List.nil_append]
     repeat(first|(refine st ?_;intros)|refine G.draw (id:=1) [(4,.quiet),(5,.quiet),(10,.quiet),(11,.quiet)] (h:= ?_)|refine G.draw [] (h:= ?_)|refine G.drawOrd (id:=16) [0,1,2,5,6,7,8,9,10,3,4,11,12,13,14] [(4,.eff [8])] (h:= ?_)|(refine cq hD ?_)|(refine cq hA ?_)|(refine cq hL ?_)|(refine cq hSz ?_))
     exact Dn.round ⟨j+1,cs4,W4⟩ ⟨hjk,hW4,hE3.trans hE4,hδ4.trans hδ3,hα4.trans hα3,by dsimp only;rw[hl4]⟩ (by dsimp only;omega)
    ·obtain rfl:j=kk:=by omega
     have hl5:W3.live.Perm base:=by rw[←hgl,List.drop_length] at hl3;exact hl3
     repeat(first|(refine st ?_;intros)|refine G.draw (id:=1) [(4,.quiet),(5,.quiet),(10,.quiet),(11,.quiet)] (h:= ?_)|refine G.draw [] (h:= ?_)|refine G.drawOrd (id:=16) [0,1,2,5,6,7,8,9,10,3,4,11,12,13,14] [(4,.eff [8])] (h:= ?_)|(refine cq hD ?_)|(refine cq hA ?_)|(refine cq hL ?_)|(refine cq hSz ?_))
     rename_i p' cap' c' hV'
     have hV3:Vec 27 4 p' (nx.length+1) cap' (fcells ((nx++[(f,out)]).map (·.1))) c':=by rw[List.map_append,fcells_app];exact hV'
     have hln:(nx++[(f,out)]).length=nx.length+1:=by simp
     have hR2:=hR1.keep (live0:=live0) (d':=W2.δ.disk) fun x hx=>hK2 x ((inF_perm hl1 x).2 hx)
     rw[hsp] at hR2
     have hK12:=hK1.trans (hK2.sub (Lv':=live0) fun e he=>hl1.mem_iff.2 (addFs_mem he))
     have hE13:=(hE1.trans hE2).trans hE3
     have hdl:(dn++grp).length=dn.length+j:=by rw[List.length_append,hgl]
     have hne':rem'≠[]→j<rem.length∧j=fan:=fun hn=>by
      have:=List.length_pos_iff.2 hn
      omega
     rw[←hln,←hrl']
     rw[←hln] at hV3
     refine Dn.round ⟨dn++grp,rem',nx++[(f,out)],cd2,ca2,cs3,W3,cutA (some ⟨vb,dn.length*4,none⟩) j rc 4,rc-j,p',cap',c',last2,sm2⟩ ⟨by dsimp only;rw[hrs,hsp,List.append_assoc],hW3,?_,fun x hx=>by dsimp only;rw[hδ3];exact hK12 x hx,by dsimp only;rw[hα3];exact hg2.trans hg1,by dsimp only;rw[←hbase];exact hl5,?_,hV3,by dsimp only;omega,by dsimp only;omega,?_,?_,?_,?_,?_,?_⟩ (by dsimp only;omega)
     ·refine hE13.weak ?_ ?_
      ·dsimp only;rw[filesA_app];omega
      ·dsimp only;rw[filesA_app];omega
     ·dsimp only;rw[hδ3];exact hR2.swap hf2 hfo2 hsd2 hsp2 hfc2
     ·intro hn
      obtain⟨h1,h2⟩:=hne' hn
      dsimp only
      unfold cutA
      rw[if_neg (by omega),Option.map_some,Addr.add_mk,hdl,Nat.add_mul]
     ·dsimp only;rw[hln,hdl,Nat.succ_mul];omega
     ·intro hn
      obtain⟨h1,h2⟩:=hne' hn
      dsimp only;rw[hln,hdl,Nat.succ_mul];omega
     ·dsimp only;rw[List.map_append,List.map_append,List.sum_append,List.sum_append]
      simp only[List.map_cons,List.map_nil,List.sum_cons,List.sum_nil];omega
     ·dsimp only;rw[filesA_app,filesA_app]
      have:filesA W.δ.size k [(f,out)]=nblocks W.δ.size k f.count:=by simp[filesA]
      have h3:nblocks W.δ.size k f.count≤nblocks W.δ.size k (grp.map (·.1.count)).sum:=nblocks_mono hfc3
      omega
     ·intro _;dsimp only;omega
   ·have hflv:flv ⟨0,0,0,0⟩= .agg #[.int .i64 0,.int .i64 0,.int .i64 0,.int .i64 0]:=rfl
    rw[hflv]
    have hnews:(cells.drop (dn.length*4)).take (rem.length*4)=fcells (rem.map (·.1)):=by
     rw[←hcells,hrs,List.map_append,fcells_app,List.append_assoc]
     have h1:dn.length*4=(fcells (dn.map (·.1))).length:=by rw[fcells_length,List.length_map]
     have h2:rem.length*4=(fcells (rem.map (·.1))).length:=by rw[fcells_length,List.length_map]
     rw[h1,List.drop_left,h2,List.take_left]
    have hnl:(fcells (rem.map (·.1))).length=rem.length*4:=by rw[fcells_length,List.length_map]
    have hall:(fcells (rem.map (·.1))).all Value.oneCell'=true:=fcells_all _
    repeat(first|(refine st ?_;intros)|refine G.draw (id:=1) [(4,.quiet),(5,.quiet),(10,.quiet),(11,.quiet)] (h:= ?_)|refine G.draw [] (h:= ?_)|refine G.drawOrd (id:=16) [0,1,2,5,6,7,8,9,10,3,4,11,12,13,14] [(4,.eff [8])] (h:= ?_)|(refine cq hD ?_)|(refine cq hA ?_)|(refine cq hL ?_)|(refine cq hSz ?_))
    rename_i p' cap' c' hV'
    have hV3:Vec 27 4 p' (nx.length+rem.length) cap' (fcells ((nx++rem).map (·.1))) c':=by rw[List.map_append,fcells_app];exact hV'
    have hln:(nx++rem).length=nx.length+rem.length:=by simp
    rw[←hln] at hV3
    (refine Dn.post (Hr:=[[(bz,row [pv bw,.int .i64 o.c0,.int .i64 o.c1,.int .i64 o.c2,.int .i64 o.c3,.int .i64 o.c4,.bool once,.slice p' (nx.length+rem.length) cap',.int .i64 last2.c0,.int .i64 last2.c1,.int .i64 last2.c2,.int .i64 last2.c3,.int .i64 last2.c4,.bool sm2] 186)],wrow bw bd ba bs,cd2,ca2,cs2,c']) Tryz.results129 (hR:= ?_);refine⟨cd2,ca2,cs2,W2,p',cap',c',last2,sm2,nx++rem,by rw[hln],hW2,(hE1.trans hE2).weak (by omega) (by omega),hK1.trans (hK2.sub fun e he=>hl1.mem_iff.2 (addFs_mem he)),hg2.trans hg1,hV3,hl2.trans hl1,.inr (.inl ⟨rfl,by have:=hE1.big;omega⟩)⟩)
   ·have hflv:flv ⟨0,0,0,0⟩= .agg #[.int .i64 0,.int .i64 0,.int .i64 0,.int .i64 0]:=rfl
    rw[hflv]
    have hnews:(cells.drop (dn.length*4)).take (rem.length*4)=fcells (rem.map (·.1)):=by
     rw[←hcells,hrs,List.map_append,fcells_app,List.append_assoc]
     have h1:dn.length*4=(fcells (dn.map (·.1))).length:=by rw[fcells_length,List.length_map]
     have h2:rem.length*4=(fcells (rem.map (·.1))).length:=by rw[fcells_length,List.length_map]
     rw[h1,List.drop_left,h2,List.take_left]
    have hnl:(fcells (rem.map (·.1))).length=rem.length*4:=by rw[fcells_length,List.length_map]
    have hall:(fcells (rem.map (·.1))).all Value.oneCell'=true:=fcells_all _
    repeat(first|(refine st ?_;intros)|refine G.draw (id:=1) [(4,.quiet),(5,.quiet),(10,.quiet),(11,.quiet)] (h:= ?_)|refine G.draw [] (h:= ?_)|refine G.drawOrd (id:=16) [0,1,2,5,6,7,8,9,10,3,4,11,12,13,14] [(4,.eff [8])] (h:= ?_)|(refine cq hD ?_)|(refine cq hA ?_)|(refine cq hL ?_)|(refine cq hSz ?_))
    rename_i p' cap' c' hV'
    have hV3:Vec 27 4 p' (nx.length+rem.length) cap' (fcells ((nx++rem).map (·.1))) c':=by rw[List.map_append,fcells_app];exact hV'
    have hln:(nx++rem).length=nx.length+rem.length:=by simp
    rw[←hln] at hV3
    (refine Dn.post (Hr:=[[(bz,row [pv bw,.int .i64 o.c0,.int .i64 o.c1,.int .i64 o.c2,.int .i64 o.c3,.int .i64 o.c4,.bool once,.slice p' (nx.length+rem.length) cap',.int .i64 last2.c0,.int .i64 last2.c1,.int .i64 last2.c2,.int .i64 last2.c3,.int .i64 last2.c4,.bool sm2] 186)],wrow bw bd ba bs,cd2,ca2,cs2,c']) Tryz.results129 (hR:= ?_);refine⟨cd2,ca2,cs2,W2,p',cap',c',last2,sm2,nx++rem,by rw[hln],hW2,(hE1.trans hE2).weak (by omega) (by omega),hK1.trans (hK2.sub fun e he=>hl1.mem_iff.2 (addFs_mem he)),hg2.trans hg1,hV3,hl2.trans hl1,.inr (.inr ⟨rfl,fun e=>hft2 (hE1.fault e)⟩)⟩)
 ·obtain rfl:rem=[]:=by
   cases rem with
   |nil=>rfl
   |cons a b=>simp at hrem
  rw[List.append_nil] at hR1 hl1 hrs
  repeat(first|(refine st ?_;intros)|refine G.draw (id:=1) [(4,.quiet),(5,.quiet),(10,.quiet),(11,.quiet)] (h:= ?_)|refine G.draw [] (h:= ?_)|refine G.drawOrd (id:=16) [0,1,2,5,6,7,8,9,10,3,4,11,12,13,14] [(4,.eff [8])] (h:= ?_)|(refine cq hD ?_)|(refine cq hA ?_)|(refine cq hL ?_)|(refine cq hSz ?_))
  (refine Dn.post (Hr:=[[(bz,row [pv bw,.int .i64 o.c0,.int .i64 o.c1,.int .i64 o.c2,.int .i64 o.c3,.int .i64 o.c4,.bool once,.slice pn nx.length nc,.int .i64 last1.c0,.int .i64 last1.c1,.int .i64 last1.c2,.int .i64 last1.c3,.int .i64 last1.c4,.bool sm1] 186)],wrow bw bd ba bs,cd1,ca1,cs1,vn]) Tryz.results129 (hR:= ?_);refine⟨cd1,ca1,cs1,W1,pn,nc,vn,last1,sm1,nx,rfl,hW1,hE1.weak (by omega) (by omega),hK1,hg1,hV1,hl1,.inl ⟨rfl,hR1,hnx1 (fun e=>by rw[e] at hrs;rw[hrs] at h2;simp at h2),by omega,by omega,by omega⟩⟩)
def lgq (n:Nat):Nat:=if h:n≤1 then 0 else 1+lgq ((n+3)/4)
termination_by n
decreasing_by omega
theorem lgq_one {n:Nat} (h:n≤1):lgq n=0:=by unfold lgq;rw[dif_pos h]
theorem lgq_step {n:Nat} (h:¬n≤1):lgq n=1+lgq ((n+3)/4):=by rw[lgq,dif_neg h]
theorem lgq_mono:∀{b a:Nat},a≤b→lgq a≤lgq b:=by
 intro b
 induction b using Nat.strongRecOn with
 |ind b ih=>
  intro a hab
  by_cases ha:a≤1
  ·rw[lgq_one ha];exact Nat.zero_le _
  ·rw[lgq_step ha,lgq_step (show¬b≤1 by omega)]
   have:=ih ((b+3)/4) (by omega) (a:=(a+3)/4) (by omega)
   omega
theorem lgq_next {n m fan:Nat} (hf:4≤fan) (hn:¬n≤1) (h:m*fan≤n+(fan-1)):lgq m+1≤lgq n∧m<n:=by
 have h1:m≤(n+3)/4:=by
  rw[Nat.le_div_iff_mul_le (by omega)]
  by_cases hm:m=0
  ·subst hm;omega
  ·obtain⟨j,rfl⟩:∃j,m=j+1:=⟨m-1,by omega⟩
   obtain⟨i,rfl⟩:∃i,fan=4+i:=⟨fan-4,by omega⟩
   have:(j+1)*(4+i)=j*4+j*i+(4+i):=by rw[Nat.succ_mul,Nat.mul_add]
   have h0:0≤j*i:=Nat.zero_le _
   omega
 have h2:=lgq_mono h1
 rw[lgq_step hn]
 omega
theorem lgq_pow:∀(k n:Nat),n≤4^k→lgq n≤k
 |0,n,h=>by rw[lgq_one (by simpa using h)];omega
 |k+1,n,h=>by
  by_cases h1:n≤1
  ·rw[lgq_one h1];omega
  ·rw[lgq_step h1]
   have:=lgq_pow k ((n+3)/4) (by rw[Nat.pow_succ] at h;omega)
   omega
theorem filesA_blocks {d:Nat→Option (List Int)} {size k:Nat} {o:T5} {once:Bool} {l:List T5} {rs:List (Fl×List T5)} (h:RunsOk d size k o once l rs):filesA size k rs=(rs.map (·.1.blocks)).sum:=by
 unfold filesA
 refine congrArg List.sum (List.map_congr_left fun r hr=> ?_)
 obtain⟨h1,h2,_⟩:=h.each r hr
 rw[h2.blk,h1]
structure SortX where
 e:Nat
 P:Nat
 rs:List (Fl×List T5)
 cd:Chunk
 ca:Chunk
 cs:Chunk
 vc:Chunk
 W:Wk
 p:Option Addr
 cap:Nat
 last:T5
 sm:Bool
theorem fault_keep {W W':Wk} {k m:Nat} (h:Ev W W' k m) (hf:W'.δ.fault≠-1):W.δ.fault≠-1:=fun e=>hf (h.fault e)
theorem Sort_ct (bw bd ba bs:Nat) (W:Wk) (cd ca cs:Chunk) (h:Wc bd ba bs W cd ca cs) (f:Fl) (fts:List T5) (live0:List Ext) (hfo:FileOk W.δ.disk W.δ.size [f.ext] f fts) (hlv:W.live.Perm (addF f live0)) (o:T5) (ho:formed o=true) (once:Bool)
  (hr:5*W.δ.size≤W.α.room-W.α.used) (hac:W.δ.acts≤1000000000) (hcn:f.count≤100000) (c:Nat) (hc:c=(W.α.room-W.α.used-2*W.δ.size)/f.width):
  Ct Tryz.prog 83 [pv bw,flv f,tv o,.bool once] [wrow bw bd ba bs,cd,ca,cs] fun v H'=>
   ∃cd' ca' cs' W' q S P,H'=[wrow bw bd ba bs,cd',ca',cs']∧Wc bd ba bs W' cd' ca' cs'∧Ev W W' (nblocks W.δ.size f.width f.count+S+2*S*P) (S+S*P)∧W'.α.gs.Perm W.α.gs∧
    S*holds W.δ.size f.width≤f.count+q*(holds W.δ.size f.width-1)∧(q-1)*c≤f.count∧(0<f.count→(q-1)*c<f.count)∧P≤lgq q∧Keep live0 W W'∧
    ((∃g out,v= .tuple #[flv g,.int .i64 0]∧W'.live.Perm (addF g live0)∧g.width=f.width∧g.count≤f.count∧FileOk W'.δ.disk W.δ.size [g.ext] g out∧Sd (ltO o) once out∧Go.Srt.Sp (ltO o) once fts out)∨
     (v= .tuple #[flv ⟨0,0,0,0⟩,.int .i64 5]∧big W.σ.free<S+S*P∧W'.live.Perm W.live∧Keep W.live W W')∨
     (v= .tuple #[flv ⟨0,0,0,0⟩,.int .i64 6]∧W.δ.fault≠-1∧W'.live.Perm W.live∧Keep W.live W W')):=by
 obtain⟨⟨hs1,hs2⟩,hbk,hfr⟩:=h.dev.num
 obtain⟨hu1,hu2,_,hu4⟩:=h.ar.num
 have hk1:=hfo.w1
 have hk5:=hfo.w2
 have hp:=holds_pos hs1 hk1 hk5
 have htl:=hfo.len
 have hF:=Formed_ct o.c0 o.c1 o.c2 o.c3 o.c4
 rw[show(⟨o.c0,o.c1,o.c2,o.c3,o.c4⟩:T5)=o from rfl,ho] at hF
 have hD:=WDevice_ct bw bd ba bs
 have hA:=WArena_ct bw bd ba bs
 have hRd:=Read_u bw bd ba bs W cd ca cs h f fts [f.ext] hfo (by omega)
 have hflv:flv f= .agg #[.int .i64 (f.first:Int),.int .i64 (f.blocks:Int),.int .i64 (f.width:Int),.int .i64 (f.count:Int)]:=rfl
 have hov:tv o= .agg #[.int .i64 o.c0,.int .i64 o.c1,.int .i64 o.c2,.int .i64 o.c3,.int .i64 o.c4]:=rfl
 rw[hflv] at hRd⊢
 rw[hov]
 refine Ct.intro Tryz.func83 rfl Tryz.ntmps83 (nle rfl) fun w0=> ?_;dsimp only[argSlots,Nat.reduceAdd]
 repeat(first|(refine st ?_;intros)|(refine cq hF ?_)|(refine cq hD ?_)|(refine cq hA ?_)|(refine cq hL ?_)|(refine cq hSz ?_))
 refine R.call (hct:=hRd) (h:= ?_)
 rintro _ _ ⟨bx,g,ca1,α1,cx,cb,rfl,rfl,hW1,hE1,hg1,hgn,hr1⟩
 try dsimp only[List.cons_append,List.nil_append]
 have hRc:=RClose_u bw bd ba bs {W with α:=α1} cd ca1 cs hW1 bx f fts g W.α.gs hg1 0 cx cb hr1
 repeat(first|(refine st ?_;intros)|(refine cq hF ?_)|(refine cq hD ?_)|(refine cq hA ?_)|(refine cq hL ?_)|(refine cq hSz ?_))
 refine R.call (hct:=hRc) (h:= ?_)
 rintro _ _ ⟨ca2,α2,cx2,rfl,rfl,hW2,hE2,hg2,hx2⟩
 try dsimp only[List.cons_append,List.nil_append]
 have hrm2:α2.room=W.α.room:=by have h1:α1.room=W.α.room:=hE1.room;have h2:α2.room=α1.room:=hE2.room;omega
 have hus2:α2.used=W.α.used:=by
  have h1:=hW2.ar.num.2.2.2
  dsimp only at h1
  rw[h1,(hg2.map (·.n)).sum_nat,←hu4]
 have hL:=aLeft ba α2 ca2 hW2.ar
 rw[show(α2.room:Int)-(α2.used:Int)=((W.α.room-W.α.used:Nat):Int) by omega] at hL
 have hSz:=Size_ct bd W.δ cd h.dev
 have e5:IntKind.wrap .i64 (5*(W.δ.size:Int))=((5*W.δ.size:Nat):Int):=by rw[wrap_i64 (by omega)];omega
 obtain⟨Lv,hfoL,hsubL⟩:∃Lv,FileOk W.δ.disk W.δ.size Lv f fts∧∀e∈Lv,e∈W.live:=by
  by_cases hb:f.blocks=0
  ·exact⟨[],{hfo with live:=fun e=>absurd hb e},by simp⟩
  ·refine⟨[f.ext],hfo,fun e he=> ?_⟩
   simp only[List.mem_singleton] at he;subst he
   unfold addF at hlv;rw[if_neg hb] at hlv
   exact hlv.mem_iff.2 List.mem_cons_self
 repeat(first|(refine st ?_;intros)|(refine cq hF ?_)|(refine cq hD ?_)|(refine cq hA ?_)|(refine cq hL ?_)|(refine cq hSz ?_))
 rename_i b5 b6 b8 bz
 have hFm:=form_ct bz bw bd ba bs {W with α:=α2} cd ca2 cs hW2 f fts Lv hfoL hsubL o once ⟨0,0,0,0,0⟩ false (by dsimp only;omega) (by dsimp only;omega) (by omega) (W.α.room-W.α.used) c (by dsimp only;omega) hc
 rw[hflv] at hFm
 unfold sRow sCells at hFm
 dsimp only at hFm
 have hE02:=hE1.trans hE2
 refine R.call (hct:=hFm) (h:= ?_)
 rintro _ _ ⟨cd3,ca3,cs3,W3,vc3,p3,cap3,last3,sm3,rs3,q,S,l3,rfl,hW3,hE3,hK3,hg3,hV3,hl3,hR3,hS,hq1,hq2,hq3,hcase⟩
 try dsimp only[List.cons_append,List.nil_append]
 obtain⟨e3,rfl,hcase3⟩:∃e3:Nat,_=Value.int .i64 (e3:Int)∧((e3=0∧l3=fts∧rs3≠[]∧rs3.length=q∧((rs3.map (·.1.count)).sum≤f.count)∧((rs3.map (·.1.blocks)).sum≤S))∨(e3=5∧big W.σ.free<S)∨(e3=6∧W.δ.fault≠-1)):=by
  rcases hcase with⟨e,h⟩|⟨e,h⟩|⟨e,h⟩
  ·exact⟨0,e,.inl ⟨rfl,h⟩⟩
  ·exact⟨5,e,.inr (.inl ⟨rfl,h⟩)⟩
  ·exact⟨6,e,.inr (.inr ⟨rfl,h⟩)⟩
 have hKW3:Keep W.live W W3:=hK3
 have hEW3:=hE02.trans hE3
 repeat(first|(refine st ?_;intros)|(refine cq hF ?_)|(refine cq hD ?_)|(refine cq hA ?_)|(refine cq hL ?_)|(refine cq hSz ?_))
 refine G.loop (X:=SortX) (fun x=>Wc bd ba bs x.W x.cd x.ca x.cs∧Ev W x.W (nblocks W.δ.size f.width f.count+S+2*S*x.P) (S+S*x.P)∧Keep W.live W x.W∧x.W.α.gs.Perm W.α.gs∧x.W.live.Perm (addFs (x.rs.map (·.1)) W.live)∧Vec 27 4 x.p x.rs.length x.cap (fcells (x.rs.map (·.1))) x.vc∧x.P≤lgq q∧
   ((x.e=0∧RunsOk x.W.δ.disk W.δ.size f.width o once fts x.rs∧0<x.rs.length∧(x.rs.map (·.1.count)).sum≤f.count∧filesA W.δ.size f.width x.rs≤S∧x.P+lgq x.rs.length≤lgq q)∨(x.e=5∧big W.σ.free<S+S*x.P)∨(x.e=6∧W.δ.fault≠-1)))
  (fun x=>[(11,.int .i64 (x.e:Int)),(12,pv bz),(8,pv b8),(5,pv b5),(0,pv bw)])
  (fun x=>[[(bz,row [pv bw,.int .i64 o.c0,.int .i64 o.c1,.int .i64 o.c2,.int .i64 o.c3,.int .i64 o.c4,.bool once,.slice x.p x.rs.length x.cap,.int .i64 x.last.c0,.int .i64 x.last.c1,.int .i64 x.last.c2,.int .i64 x.last.c3,.int .i64 x.last.c4,.bool x.sm] 186)],wrow bw bd ba bs,x.cd,x.ca,x.cs,x.vc,[(b8,row [.int .i64 0,.int .i64 0,.int .i64 0,.int .i64 0] 27)],[(b5,row [.int .i64 (f.first:Int),.int .i64 (f.blocks:Int),.int .i64 (f.width:Int),.int .i64 (f.count:Int)] 27)]])
  (fun x=>if x.e=0 then x.rs.length+1 else 0) ⟨e3,0,rs3,cd3,ca3,cs3,vc3,W3,p3,cap3,last3,sm3⟩
  ⟨hW3,hEW3.weak (by dsimp only;omega) (by dsimp only;omega),hKW3,hg3.trans hg2,hl3,hV3,Nat.zero_le _,?_⟩ (body:= ?_)
 ·rcases hcase3 with⟨e,rfl,h1,h2,h3,h4⟩|⟨e,h1⟩|⟨e,h1⟩
  ·exact .inl ⟨e,hR3,List.length_pos_iff.2 h1,h3,by rw[filesA_blocks hR3];exact h4,by dsimp only;rw[h2];omega⟩
  ·exact .inr (.inl ⟨e,by dsimp only;omega⟩)
  ·exact .inr (.inr ⟨e,h1⟩)
 rintro⟨e4,P4,rs4,cd4,ca4,cs4,vc4,W4,p4,cap4,last4,sm4⟩ ⟨hW4,hE4,hK4,hg4,hl4,hV4,hP4,hc4⟩
 dsimp only at hW4 hE4 hK4 hg4 hl4 hV4 hP4 hc4⊢
 have hP9:P4≤9:=Nat.le_trans hP4 (lgq_pow 9 q (by omega))
 have hSle:=S_le hp hS
 have hSP:2*S*P4≤2*S*9:=Nat.mul_le_mul_left _ hP9
 have hnf:=nblocks_le (n:=f.count) hp
 have hsz4:=hE4.size
 have hrm4:W4.α.room=W.α.room:=hE4.room
 have hac4:=hE4.acts
 have hus4:W4.α.used=W.α.used:=by rw[hW4.ar.num.2.2.2,(hg4.map (·.n)).sum_nat,←hu4]
 rcases hc4 with⟨rfl,hR4,hrp4,hcs4,hfA4,hPl4⟩|hc4
 ·by_cases h1:rs4.length=1
  ·obtain⟨r,rfl⟩:∃r,rs4=[r]:=by
    match rs4,h1 with
    |[r],_=>exact⟨r,rfl⟩
   obtain⟨_,h0|⟨vb,rest,rfl,rfl,hvl,hmc,hcm⟩⟩:=hV4
   ·simp at h0
   have hg0:=fc_get (rs:=[r]) (rest:=rest) (j:=0) (r:=r) rfl
   generalize hcells:fcells ([r].map (·.1))++rest=cells at*
   obtain⟨hr1,hr2,hr3⟩:=hR4.each r (by simp)
   have hsp:=hR4.sp
   rw[List.flatMap_cons,List.flatMap_nil,List.append_nil] at hsp
   have hlf:W4.live.Perm (addF f (addF r.1 live0)):=hl4.trans ((addF_perm hlv).trans (addF_swap _ _ _))
   have hFr:=Free_u bw bd ba bs W4 cd4 ca4 cs4 hW4 f _ (LvOf.add hlf)
   rw[hflv] at hFr
   repeat(first|(refine st ?_;intros)|(refine cq hF ?_)|(refine cq hD ?_)|(refine cq hA ?_)|(refine cq hL ?_)|(refine cq hSz ?_))
   refine R.call (hct:=hFr) (h:= ?_)
   rintro _ _ ⟨cs5,W5,rfl,rfl,hW5,hE5,hδ5,hα5,hl5⟩
   try dsimp only[List.cons_append,List.nil_append]
   repeat(first|(refine st ?_;intros)|(refine cq hF ?_)|(refine cq hD ?_)|(refine cq hA ?_)|(refine cq hL ?_)|(refine cq hSz ?_))
   (refine Dn.post (Hr:=[wrow bw bd ba bs,cd4,ca4,cs5]) Tryz.results83 (hR:= ?_);refine⟨cd4,ca4,cs5,W5,q,S,P4,rfl,hW5,(hE4.trans hE5).weak (by omega) (by omega),by rw[hα5];exact hg4,hS,hq1,hq2,by omega,fun x hx=> ?_,.inl ⟨r.1,r.2,rfl,by rw[hl5],hr1,by simpa using hcs4,?_,hr3,hsp⟩⟩)
   ·rw[hδ5]
    exact hK4 x (by
     obtain⟨e,he,h2⟩:=hx
     exact⟨e,hlv.mem_iff.2 (addF_mem he),h2⟩)
   ·rw[hδ5];exact hr2
  ·have hcnt0:fts≠[]:=by
    intro e0
    have h2:¬q≤1:=fun hq=>by
     have h3:=lgq_step (n:=rs4.length) (by omega)
     rw[lgq_one hq] at hPl4;omega
    have hc1:1≤c:=by rw[hc,Nat.le_div_iff_mul_le (by omega)];omega
    have h4:(q-1)*1≤(q-1)*c:=Nat.mul_le_mul_left _ hc1
    have h5:=congrArg List.length e0
    rw[htl,List.length_nil] at h5
    omega
   obtain⟨fan,hfan⟩:∃fan,fan+1=(W.α.room-W.α.used)/W.δ.size:=⟨(W.α.room-W.α.used)/W.δ.size-1,by
    have:5≤(W.α.room-W.α.used)/W.δ.size:=by rw[Nat.le_div_iff_mul_le (by omega)];omega
    omega⟩
   have hf4:4≤fan:=by
    have:5≤(W.α.room-W.α.used)/W.δ.size:=by rw[Nat.le_div_iff_mul_le (by omega)];omega
    omega
   have hPs:=pass_ct bz bw bd ba bs W4 cd4 ca4 cs4 hW4 f.width hk1 hk5 o once fts hcnt0 rs4 (by rw[hsz4];exact hR4) W.live hl4 p4 cap4 vc4 hV4 (by omega) (by rw[hsz4,hrm4,hus4];exact hr) (by omega) (by omega) last4 sm4 fan (by rw[hsz4,hrm4,hus4];exact hfan)
   unfold sRow sCells at hPs
   rw[hsz4] at hPs
   repeat(first|(refine st ?_;intros)|(refine cq hF ?_)|(refine cq hD ?_)|(refine cq hA ?_)|(refine cq hL ?_)|(refine cq hSz ?_))
   refine R.call (hct:=hPs) (h:= ?_)
   rintro _ _ ⟨cd5,ca5,cs5,W5,p5,cap5,vc5,last5,sm5,rs5,rfl,hW5,hE5,hK5,hg5,hV5,hl5,hcase5⟩
   try dsimp only[List.cons_append,List.nil_append]
   have hl2S:2*S*(P4+1)=2*S*P4+2*S:=Nat.mul_succ _ _
   have hlS:S*(P4+1)=S*P4+S:=Nat.mul_succ _ _
   have hPq:P4+1≤lgq q:=by
    have h3:=lgq_step (n:=rs4.length) (by omega)
    omega
   have hE45:Ev W W5 (nblocks W.δ.size f.width f.count+S+2*S*(P4+1)) (S+S*(P4+1)):=(hE4.trans hE5).weak (by omega) (by omega)
   obtain⟨e5',rfl,hcase6⟩:∃e5:Nat,_=Value.int .i64 (e5:Int)∧((e5=0∧RunsOk W5.δ.disk W.δ.size f.width o once fts rs5∧0<rs5.length∧(rs5.map (·.1.count)).sum≤f.count∧filesA W.δ.size f.width rs5≤S∧P4+1+lgq rs5.length≤lgq q∧rs5.length<rs4.length)∨(e5=5∧big W.σ.free<S+S*(P4+1))∨(e5=6∧W.δ.fault≠-1)):=by
    rcases hcase5 with⟨e,h1,h2,h3,h4,h5⟩|⟨e,h2⟩|⟨e,h2⟩
    ·have:=lgq_next hf4 (by omega) h3
     exact⟨0,e,.inl ⟨rfl,h1,h2,by omega,by omega,by omega,this.2⟩⟩
    ·exact⟨5,e,.inr (.inl ⟨rfl,by have:=hE4.big;omega⟩)⟩
    ·exact⟨6,e,.inr (.inr ⟨rfl,fault_keep hE4 h2⟩)⟩
   repeat(first|(refine st ?_;intros)|(refine cq hF ?_)|(refine cq hD ?_)|(refine cq hA ?_)|(refine cq hL ?_)|(refine cq hSz ?_))
   refine Dn.round ⟨e5',P4+1,rs5,cd5,ca5,cs5,vc5,W5,p5,cap5,last5,sm5⟩ ⟨hW5,hE45,hK4.trans hK5,hg5.trans hg4,hl5,hV5,hPq,?_⟩ ?_
   ·rcases hcase6 with⟨e,h1,h2,h3,h4,h5,_⟩|h2|h2
    ·exact .inl ⟨e,h1,h2,h3,h4,h5⟩
    ·exact .inr (.inl h2)
    ·exact .inr (.inr h2)
   ·rcases hcase6 with⟨e,_,_,_,_,_,h6⟩|⟨e,_⟩|⟨e,_⟩<;>(dsimp only;subst e;simp;try omega)
 ·have he4:e4≠0∧(e4:Int)≠0:=by rcases hc4 with⟨rfl,_⟩|⟨rfl,_⟩<;>decide
  obtain⟨he4,he4i⟩:=he4
  have hll4:rs4.length≤9223372036854775807:=by
   obtain⟨h1,h0|⟨vb,rest,_,_,_,hmc,hcm⟩⟩:=hV4
   ·omega
   ·simp only[maxLen] at hcm;omega
  repeat(first|(refine st ?_;intros)|(refine cq hF ?_)|(refine cq hD ?_)|(refine cq hA ?_)|(refine cq hL ?_)|(refine cq hSz ?_))
  refine G.loop (X:=FreeX) (fun x=>x.j≤rs4.length∧Wc bd ba bs x.W cd4 ca4 x.cs∧Ev W4 x.W 0 0∧x.W.δ=W4.δ∧x.W.α=W4.α∧x.W.live.Perm (addFs ((rs4.drop x.j).map (·.1)) W.live))
   (fun x=>[(71,.int .i64 (x.j:Int)),(70,.int .i64 (rs4.length:Int)),(69,.slice p4 rs4.length cap4),(11,.int .i64 (e4:Int)),(8,pv b8),(0,pv bw)])
   (fun x=>[wrow bw bd ba bs,cd4,ca4,x.cs,vc4,[(b8,row [.int .i64 0,.int .i64 0,.int .i64 0,.int .i64 0] 27)]])
   (fun x=>rs4.length-x.j) ⟨0,cs4,W4⟩ ⟨Nat.zero_le _,hW4,Ev.refl _,rfl,rfl,hl4⟩ (body:= ?_)
  rintro⟨j,cs5,W5⟩ ⟨hj,hW5,hE5,hδ5,hα5,hl5⟩
  dsimp only at hj hW5 hE5 hδ5 hα5 hl5⊢
  by_cases hjk:j<rs4.length
  ·have hjg:rs4[j]? =some rs4[j]:=List.getElem?_eq_getElem hjk
   have hdj:rs4.drop j=rs4[j]::rs4.drop (j+1):=List.drop_eq_getElem_cons hjk
   obtain⟨_,h0|⟨vb,rest,rfl,rfl,hvl,hmc,hcm⟩⟩:=hV4
   ·omega
   have hgj:=fc_get (rest:=rest) hjg
   generalize hcells:fcells (rs4.map (·.1))++rest=cells at*
   rw[hdj] at hl5
   generalize rs4[j]=r at*
   have hFr:=Free_u bw bd ba bs W5 cd4 ca4 cs5 hW5 r.1 _ (LvOf.add (hl5.trans (addFs_cons _ _ _)))
   have hflr:flv r.1= .agg #[.int .i64 (r.1.first:Int),.int .i64 (r.1.blocks:Int),.int .i64 (r.1.width:Int),.int .i64 (r.1.count:Int)]:=rfl
   rw[hflr] at hFr
   have e3:IntKind.wrap .i64 ((j:Int)+1)=((j+1:Nat):Int):=by rw[wrap_i64 (by omega)];rfl
   repeat(first|(refine st ?_;intros)|(refine cq hF ?_)|(refine cq hD ?_)|(refine cq hA ?_)|(refine cq hL ?_)|(refine cq hSz ?_))
   refine R.call (hct:=hFr) (h:= ?_)
   rintro _ _ ⟨cs6,W6,rfl,rfl,hW6,hE6,hδ6,hα6,hl6⟩
   try dsimp only[List.cons_append,List.nil_append]
   repeat(first|(refine st ?_;intros)|(refine cq hF ?_)|(refine cq hD ?_)|(refine cq hA ?_)|(refine cq hL ?_)|(refine cq hSz ?_))
   exact Dn.round ⟨j+1,cs6,W6⟩ ⟨hjk,hW6,hE5.trans hE6,hδ6.trans hδ5,hα6.trans hα5,by dsimp only;rw[hl6]⟩ (by dsimp only;omega)
  ·obtain rfl:j=rs4.length:=by omega
   have hl6:W5.live.Perm W.live:=by rw[List.drop_length] at hl5;exact hl5
   have hKx:Keep W.live W W5:=fun x hx=>by rw[hδ5];exact hK4 x hx
   have hKy:Keep live0 W W5:=hKx.sub fun e he=>hlv.mem_iff.2 (addF_mem he)
   repeat(first|(refine st ?_;intros)|(refine cq hF ?_)|(refine cq hD ?_)|(refine cq hA ?_)|(refine cq hL ?_)|(refine cq hSz ?_))
   (refine Dn.post (Hr:=[wrow bw bd ba bs,cd4,ca4,cs5]) Tryz.results83 (hR:= ?_);refine⟨cd4,ca4,cs5,W5,q,S,P4,rfl,hW5,(hE4.trans hE5).weak (by omega) (by omega),by rw[hα5];exact hg4,hS,hq1,hq2,hP4,hKy,?_⟩)
   rcases hc4 with⟨rfl,h1⟩|⟨rfl,h1⟩
   ·exact .inr (.inl ⟨rfl,h1,hl6,hKx⟩)
   ·exact .inr (.inr ⟨rfl,h1,hl6,hKx⟩)
end Go.Proofs.YtammjnjpheobaaaGreat
namespace Go.Proofs.YtammjnjpheobaaaGreat
open Go.SL Go.Spc Go.Tup
def fitsB (k:Nat) (t:T5):Bool:=(List.range 5).all fun i=>decide (i<k)||decide (t.col i=0)
theorem fitsB_iff {k:Nat} {t:T5}:fitsB k t=true↔∀i,i<5→k≤i→t.col i=0:=by
 simp only[fitsB,List.all_eq_true,List.mem_range,Bool.or_eq_true,decide_eq_true_eq]
 constructor
 ·intro h i hi hk
  rcases h i hi with h|h
  ·omega
  ·exact h
 ·intro h i hi
  by_cases hk:i<k
  ·exact .inl hk
  ·exact .inr (h i hi (by omega))
theorem Same_ct (p:Option Addr) (n cap:Nat) (ts:List T5) (c:Chunk) (hv:RV p n ts c) (hn:n≤1000000000) (p2:Option Addr) (n2 cap2:Nat) (us:List T5) (c2:Chunk) (hv2:RV p2 n2 us c2):
  CtQ Tryz.prog 23 [.slice p n cap,.slice p2 n2 cap2] [c,c2] (.bool (decide (ts=us))):=by
 have hlen:=hv.1
 have hlen2:=hv2.1
 by_cases hnn:n=n2
 ·subst hnn
  refine Ct.intro Tryz.func23 rfl Tryz.ntmps23 (nle rfl) fun w0=> ?_;dsimp only[argSlots,Nat.reduceAdd]
  repeat(first|(refine st ?_;intros)|refine G.draw [] (h:= ?_))
  refine G.loop (X:=Nat) (fun i=>i≤n∧ts.take i=us.take i) (fun i=>[(5,.int .i64 (i:Int)),(0,.slice p n cap),(1,.slice p2 n cap2)]) (fun _=>[c,c2]) (fun i=>n-i) 0 ⟨Nat.zero_le _,by simp⟩ (body:= ?_)
  rintro i ⟨hi,hz⟩
  by_cases h0:i<n
  ·obtain⟨b,off,cs,T,fz,rfl,rfl,hr⟩:=hv.pos (by omega)
   obtain⟨b2,off2,cs2,T2,fz2,rfl,rfl,hr2⟩:=hv2.pos (by omega)
   have hj:=hr i h0
   have hj2:=hr2 i h0
   have hlt:i<ts.length:=by omega
   have hlt2:i<us.length:=by omega
   have hgd:ts.getD i ⟨0,0,0,0,0⟩=ts[i]:=by simp[List.getD_eq_getElem?_getD,hlt]
   have hgd2:us.getD i ⟨0,0,0,0,0⟩=us[i]:=by simp[List.getD_eq_getElem?_getD,hlt2]
   have htk:ts.take (i+1)=ts.take i++[ts[i]]:=by rw[List.take_add_one];simp[hlt]
   have htk2:us.take (i+1)=us.take i++[us[i]]:=by rw[List.take_add_one];simp[hlt2]
   have hne:ts[i]≠us[i]→ts≠us:=fun h e=>h (by subst e;rfl)
   rw[hgd] at hj
   rw[hgd2] at hj2
   have e1:IntKind.wrap .i64 ((i:Int)+1)=((i+1:Nat):Int):=by rw[wrap_i64 (by omega)];rfl
   generalize ts[i]=t at*
   generalize us[i]=u at*
   simp only[tcells] at hj hj2
   by_cases htu:t=u
   ·subst htu
    repeat(first|(refine st ?_;intros)|refine G.draw [] (h:= ?_))
    exact Dn.round (i+1) ⟨by omega,by rw[htk,htk2,hz]⟩ (by omega)
   ·rw[decide_eq_false (hne htu)]
    have hne5:¬(t.c0=u.c0∧t.c1=u.c1∧t.c2=u.c2∧t.c3=u.c3∧t.c4=u.c4):=fun ⟨h0,h1,h2,h3,h4⟩=>htu (by cases t;cases u;simp_all)
    repeat(first|(refine st ?_;intros)|refine G.draw [] (h:= ?_))
    (refine Dn.post (Hr:=[[(b,rowf cs T fz)],[(b2,rowf cs2 T2 fz2)]]) Tryz.results23 (hR:= ?_);exact⟨rfl,rfl⟩)
  ·obtain rfl:i=n:=by omega
   have hf:ts=us:=by
    have h1:=List.take_of_length_le (l:=ts) (i:=i) (by omega)
    have h2:=List.take_of_length_le (l:=us) (i:=i) (by omega)
    rw[←h1,←h2,hz]
   rw[decide_eq_true hf]
   repeat(first|(refine st ?_;intros)|refine G.draw [] (h:= ?_))
   (refine Dn.post (Hr:=[c,c2]) Tryz.results23 (hR:= ?_);exact⟨rfl,rfl⟩)
 ·rw[decide_eq_false (by intro e;subst e;omega)]
  refine Ct.intro Tryz.func23 rfl Tryz.ntmps23 (nle rfl) fun w0=> ?_;dsimp only[argSlots,Nat.reduceAdd]
  repeat(first|(refine st ?_;intros)|refine G.draw [] (h:= ?_))
  (refine Dn.post (Hr:=[c,c2]) Tryz.results23 (hR:= ?_);exact⟨rfl,rfl⟩)
end Go.Proofs.YtammjnjpheobaaaGreat
namespace Go.Proofs.YtammjnjpheobaaaGreat
open Go.SL Go.Spc Go.Tup Go.Srt
def sortT (b:Nat):Nat:=(b+(b/3+1))*(1+lgq (b/3+1))
def sortA (b:Nat):Nat:=b+(b+(b/3+1))*(1+2*lgq (b/3+1))
theorem sort_bounds {s k n L c q S:Nat} (hs:8≤s) (hk1:1≤k) (hk5:k≤5) (h5:5*s≤L) (hc:c=(L-2*s)/k) (hS:S*holds s k≤n+q*(holds s k-1)) (hq1:(q-1)*c≤n) (hq2:0<n→(q-1)*c<n):
  q≤nblocks s k n/3+1∧S≤nblocks s k n+(nblocks s k n/3+1):=by
 have hp:1≤holds s k:=holds_pos hs hk1 hk5
 have hc3:3*holds s k≤c:=by
  rw[hc,Nat.le_div_iff_mul_le (by omega)]
  have h1:holds s k*k≤s-2:=Nat.div_mul_le_self _ _
  rw[Nat.mul_assoc];omega
 have hnb:n≤nblocks s k n*holds s k:=by
  unfold nblocks
  generalize holds s k=h at*
  have:=Nat.div_add_mod (n+h-1) h
  have h2:=Nat.mod_lt (n+h-1) (show 0<h by omega)
  rw[Nat.mul_comm] at this
  omega
 generalize nblocks s k n=b at*
 generalize holds s k=h at*
 have hq:q≤b/3+1:=by
  rcases Nat.eq_zero_or_pos n with rfl|hn
  ·have h1:(q-1)*1≤(q-1)*c:=Nat.mul_le_mul_left _ (by omega)
   omega
  ·have h1:(q-1)*(3*h)≤(q-1)*c:=Nat.mul_le_mul_left _ hc3
   have h2:=hq2 hn
   have h3:(q-1)*3*h<b*h:=by rw[Nat.mul_assoc];omega
   have h4:(q-1)*3<b:=Nat.lt_of_mul_lt_mul_right h3
   omega
 refine⟨hq,?_⟩
 have h1:q*(h-1)≤q*h:=Nat.mul_le_mul_left _ (by omega)
 have h2:S*h≤(b+q)*h:=by rw[Nat.add_mul];omega
 have h3:S≤b+q:=Nat.le_of_mul_le_mul_right h2 (by omega)
 omega
theorem fo_sub {d:Nat→Option (List Int)} {s:Nat} {f:Fl} {ts:List T5} {live l0:List Ext} (h:FileOk d s [f.ext] f ts) (hl:live.Perm (addF f l0)):∃Lv,FileOk d s Lv f ts∧∀e∈Lv,e∈live:=by
 by_cases hb:f.blocks=0
 ·exact⟨[],{h with live:=fun e=>absurd hb e},by simp⟩
 ·refine⟨[f.ext],h,fun e he=> ?_⟩
  simp only[List.mem_singleton] at he;subst he
  unfold addF at hl;rw[if_neg hb] at hl
  exact hl.mem_iff.2 List.mem_cons_self
theorem used_eq {bd ba bs:Nat} {W W':Wk} {cd ca cs cd' ca' cs':Chunk} (h:Wc bd ba bs W cd ca cs) (h':Wc bd ba bs W' cd' ca' cs') (hg:W'.α.gs.Perm W.α.gs):W'.α.used=W.α.used:=by
 rw[h'.ar.num.2.2.2,(hg.map (·.n)).sum_nat,←h.ar.num.2.2.2]
theorem sortT_le {b m l:Nat} (h:b≤m) (hl:m/3+1≤4^l):sortT b≤(m+(m/3+1))*(1+l):=by
 unfold sortT
 have h1:=lgq_pow l (b/3+1) (by omega)
 exact Nat.mul_le_mul (by omega) (by omega)
theorem sortA_small {b:Nat} (h:b≤1000):sortA b≤20000:=by
 unfold sortA
 have h1:=lgq_pow 5 (b/3+1) (by omega)
 have h2:(b+(b/3+1))*(1+2*lgq (b/3+1))≤1334*11:=Nat.mul_le_mul (by omega) (by omega)
 omega
theorem total_addF (f:Fl) (l:List Ext):total (addF f l)=f.blocks+total l:=by
 unfold addF
 split
 ·rename_i h;rw[h];simp
 ·simp[total,Fl.ext]
theorem free_is {bd ba bs:Nat} {W:Wk} {cd ca cs:Chunk} (h:Wc bd ba bs W cd ca cs) {l:List Ext} (hl:W.live.Perm l):total W.σ.free+total l=W.σ.n:=by
 rw[←total_perm hl];exact h.live.sum
theorem Sort_u (bw bd ba bs:Nat) (W:Wk) (cd ca cs:Chunk) (h:Wc bd ba bs W cd ca cs) (f:Fl) (fts:List T5) (live0:List Ext) (hfo:FileOk W.δ.disk W.δ.size [f.ext] f fts) (hlv:W.live.Perm (addF f live0)) (o:T5) (ho:formed o=true) (once:Bool)
  (hr:5*W.δ.size≤W.α.room-W.α.used) (hac:W.δ.acts≤1000000000) (hcn:f.count≤100000):
  Ct Tryz.prog 83 [pv bw,flv f,tv o,.bool once] [wrow bw bd ba bs,cd,ca,cs] fun v H'=>
   ∃cd' ca' cs' W',H'=[wrow bw bd ba bs,cd',ca',cs']∧Wc bd ba bs W' cd' ca' cs'∧Ev W W' (sortA f.blocks) (sortT f.blocks)∧W'.α.gs.Perm W.α.gs∧Keep live0 W W'∧
    ((∃g out,v= .tuple #[flv g,.int .i64 0]∧W'.live.Perm (addF g live0)∧g.width=f.width∧g.count≤f.count∧FileOk W'.δ.disk W.δ.size [g.ext] g out∧Sd (ltO o) once out∧Go.Srt.Sp (ltO o) once fts out)∨
     (v= .tuple #[flv ⟨0,0,0,0⟩,.int .i64 5]∧big W.σ.free<sortT f.blocks∧W'.live.Perm W.live∧Keep W.live W W')∨
     (v= .tuple #[flv ⟨0,0,0,0⟩,.int .i64 6]∧W.δ.fault≠-1∧W'.live.Perm W.live∧Keep W.live W W')):=by
 refine(Sort_ct bw bd ba bs W cd ca cs h f fts live0 hfo hlv o ho once hr hac hcn _ rfl).mono ?_
 rintro v H' ⟨cd',ca',cs',W',q,S,P,rfl,hW,hE,hg,hS,hq1,hq2,hP,hK,hc⟩
 obtain⟨⟨hs1,hs2⟩,_⟩:=h.dev.num
 obtain⟨h1,h2⟩:=sort_bounds hs1 hfo.w1 hfo.w2 hr rfl hS hq1 hq2
 rw[←hfo.blk] at h1 h2 hE
 have hP2:P≤lgq (f.blocks/3+1):=Nat.le_trans hP (lgq_mono h1)
 have hm:S*P≤(f.blocks+(f.blocks/3+1))*lgq (f.blocks/3+1):=Nat.mul_le_mul h2 hP2
 have hT:S+S*P≤sortT f.blocks:=by unfold sortT;rw[Nat.mul_add,Nat.mul_one];omega
 have hA:f.blocks+S+2*S*P≤sortA f.blocks:=by
  unfold sortA
  rw[Nat.mul_add,Nat.mul_one,Nat.mul_left_comm,Nat.mul_assoc]
  omega
 refine⟨cd',ca',cs',W',rfl,hW,hE.weak hA hT,hg,hK,?_⟩
 rcases hc with hc|⟨e,hb,hc⟩|hc
 ·exact .inl hc
 ·exact .inr (.inl ⟨e,by omega,hc⟩)
 ·exact .inr (.inr hc)
end Go.Proofs.YtammjnjpheobaaaGreat
