/-
  Parts of the proof, put together (9). No condition.
-/
import Derived.Test.YtaofijjjheiknaaGreatM8
set_option linter.unusedVariables false
set_option linter.unusedSimpArgs false
set_option linter.unnecessarySimpa false
set_option maxHeartbeats 4000000
open Go.IntKind renaming wrap→AJ
open Go.Proofs.Tryz renaming prog→AC
open List renaming cons_append→AA,nil_append→AB,getElem?_eq_getElem→AE,length_append→AF,mem_cons_self→AH,mem_cons_of_mem→AI,length_cons→AL,mem_cons→AM,getD_eq_getElem?_getD→AN,mem_append→AO,append_assoc→AP,append_nil→AQ,mem_singleton→AT,mem_map→AU,length_nil→AV,flatten_cons→AW,map_append→AX,length_map→AY,map_cons→AZ,flatten_append→A0,take_of_length_le→A4,flatten_nil→A5,flatMap_cons→A8,pairwise_iff_getElem→BJ,count_append→BK,mem_append_left→BO,take_add_one→BP,drop_eq_getElem_cons→BQ,take_append_drop→BV,perm_append_comm→B3,getElem_mem→B5,flatMap_append→CF,getElem_of_mem→CU,sum_append→CV,take_length→DF,sum_cons→DM,all_eq_true→DU,map_nil→D7
open List.Perm renaming append_left→BE,swap→CQ
open Nat renaming reduceAdd→AD,le_refl→AG,zero_le→AS,mul_le_mul_right→A7,le_trans→BB,succ_mul→BG,mul_le_mul_left→B7,le_div_iff_mul_le→CN,mul_le_mul→DG,add_le_add_right→DH,div_mul_le_self→DN,add_mul→DQ,mod_lt→EH,mul_comm→EK
open Option.some renaming injEq→BA
namespace Go.Proofs.YtaofijjjheiknaaGreat
open Go.SL Go.Spc Go.Tup Go.Srt
theorem aEe (f g:Fl) (l:List Ext):(aCj f (aCj g l)).Perm (aCj g (aCj f l)):=by
 unfold aCj
 split<;>split<;>first|exact .refl _|exact CQ _ _ _
theorem aPl (f:Fl):∀(fs:List Fl) (l:List Ext),(aAz fs (aCj f l)).Perm (aCj f (aAz fs l))
 |[],_=> .refl _
 |g::fs,l=>by
  have h:=aPl f fs (aCj g l)
  refine List.Perm.trans ?_ h
  show(aAz fs (aCj g (aCj f l))).Perm _
  exact addFs_live (aEe g f l)
where
 addFs_live:∀{fs:List Fl} {a b:List Ext},a.Perm b→(aAz fs a).Perm (aAz fs b)
 |[],_,_,h=>h
 |f::fs,_,_,h=>addFs_live (fs:=fs) (aCw h)
theorem addFs_live {fs:List Fl} {a b:List Ext} (h:a.Perm b):(aAz fs a).Perm (aAz fs b):=aPl.addFs_live h
theorem aDt (f:Fl) (fs:List Fl) (l:List Ext):(aAz (f::fs) l).Perm (aCj f (aAz fs l)):=aPl f fs l
theorem aEl {a b:List Fl} (h:a.Perm b) (l:List Ext):(aAz a l).Perm (aAz b l):=by
 induction h generalizing l with
 |nil=>exact .refl _
 |cons x _ ih=>exact ih _
 |swap x y l'=>exact addFs_live (aEe _ _ _)
 |trans _ _ aa ab=>exact(aa l).trans (ab l)
theorem aDv.add {f:Fl} {Lv live:List Ext} (h:live.Perm (aCj f Lv)):aDv f.first f.blocks Lv live:=by
 unfold aDv;unfold aCj at h
 split
 ·rename_i h0;rw[if_pos h0] at h;exact h
 ·rename_i h0;rw[if_neg h0] at h;exact h
theorem aBq (fs:List Fl):(aAj fs).length=fs.length*4:=by
 induction fs with
 |nil=>rfl
 |cons f fs ih=>simp only[aAj,A8,AF,AL] at ih⊢;rw[ih];simp;omega
theorem aJu {rs:List (Fl×List T5)} {rest:List Value} {j:Nat} {r:Fl×List T5} (h:rs[j]? =some r):
  ((aAj (rs.map (·.1))++rest).drop (j*4)).take 4=[.int .i64 (r.1.first:Int),.int .i64 (r.1.blocks:Int),.int .i64 (r.1.width:Int),.int .i64 (r.1.count:Int)]:=by
 induction rs generalizing j with
 |nil=>simp at h
 |cons x rs ih=>
  cases j with
  |zero=>simp at h;subst h;simp[aAj]
  |succ j=>
   have e:aAj ((x::rs).map (·.1))=[.int .i64 (x.1.first:Int),.int .i64 (x.1.blocks:Int),.int .i64 (x.1.width:Int),.int .i64 (x.1.count:Int)]++aAj (rs.map (·.1)):=by simp[aAj]
   rw[e,AP,show(j+1)*4=4+j*4 by omega,←List.drop_drop]
   exact ih oA11
theorem aRt (fs:List Fl):(aAj fs).all Value.oneCell'=true:=by
 induction fs with
 |nil=>rfl
 |cons f fs ih=>
  simp only[aAj,A8,List.all_append] at ih⊢
  rw[ih];rfl
theorem aZb {s k:Nat} (hp:1≤aAf s k) (rs:List (Fl×List T5)):aAb s k (rs.map (·.1.count)).sum≤aBp s k rs:=by
 have aa:∀a b,aAb s k (a+b)≤aAb s k a+aAb s k b:=by
  intro a b
  unfold aAb
  generalize aAf s k=h at*
  have h1:a≤(a+h-1)/h*h:=by have:=Nat.div_add_mod (a+h-1) h;have:=EH (a+h-1) (show 0<h by omega);rw[EK];omega
  have h2:b≤(b+h-1)/h*h:=by have:=Nat.div_add_mod (b+h-1) h;have:=EH (b+h-1) (show 0<h by omega);rw[EK];omega
  rw[Nat.div_le_iff_le_mul_add_pred oM]
  rw[Nat.mul_add,EK h,EK h]
  omega
 induction rs with
 |nil=>simp[aBp,aEk hp]
 |cons r rs ih=>
  simp only[aBp,AZ,DM] at ih⊢
  exact BB (aa _ _) (Nat.add_le_add_left ih _)
theorem aFa (s k:Nat) (a b:List (Fl×List T5)):aBp s k (a++b)=aBp s k a+aBp s k b:=by simp[aBp,CV]
theorem aCt.swap {d:Nat→Option (List Int)} {size k:Nat} {o:T5} {once:Bool} {l out:List T5} {a g b:List (Fl×List T5)} {f:Fl} (h:aCt d size k o once l (a++(g++b))) (h1:f.width=k) (h2:aAq d size [f.ext] f out) (h3:Sd (ltO o) once out) (h4:Go.Srt.Sp (ltO o) once (g.flatMap (·.2)) out) (h5:0<f.count):
  aCt d size k o once l ((a++[(f,out)])++b) where
 each:=fun r hr=>by
  simp only[AO,AT] at hr
  rcases hr with(hr|rfl)|hr
  ·exact h.each r (by simp[hr])
  ·exact⟨h1,h2,h3⟩
  ·exact h.each r (by simp[hr])
 sp:=by
  have:=h.sp
  rw[CF,CF] at this
  rw[CF,CF,AP]
  refine this.trans (Go.Srt.Sp.app (Go.Srt.Sp.refl _ _) (Go.Srt.Sp.app ?_ (Go.Srt.Sp.refl _ _)))
  simpa using h4
 pos:=fun hl r hr=>by
  simp only[AO,AT] at hr
  rcases hr with(hr|rfl)|hr
  ·exact h.pos hl r (by simp[hr])
  ·exact h5
  ·exact h.pos hl r (by simp[hr])
structure PassX where
 dn:List (Fl×List T5)
 rem:List (Fl×List T5)
 nx:List (Fl×List T5)
 cd:aAc
 ca:aAc
 cs:aAc
 W:Wk
 pr:Option Addr
 rc:Nat
 pn:Option Addr
 nc:Nat
 vn:aAc
 last:T5
 sm:Bool
structure FreeX where
 j:Nat
 cs:aAc
 W:Wk
theorem bQy (bz bw bd ba bs:Nat) (W:Wk) (cd ca cs:aAc) (h:Wc bd ba bs W cd ca cs) (k:Nat) (cv:1≤k) (cu:k≤5) (o:T5) (once:Bool) (l:List T5) (hl:l≠[]) (rs:List (Fl×List T5)) (hR:aCt W.δ.disk W.δ.size k o once l rs) (live0:List Ext) (dx:W.live.Perm (aAz (rs.map (·.1)) live0))
  (p:Option Addr) (cap:Nat) (vc:aAc) (hV:Vec 42 4 p rs.length cap (aAj (rs.map (·.1))) vc) (h2:2≤rs.length) (hr:5*W.δ.size≤W.α.room-W.α.used) (eu:W.δ.acts≤10000000000) (dy:(rs.map (·.1.count)).sum≤1000000)
  (last:T5) (sm:Bool) (ad:Nat) (a2:ad+1=(W.α.room-W.α.used)/W.δ.size):
  Ct AC 180 [pv bz] [aQp bz bw o once p rs.length cap last sm,aAi bw bd ba bs,cd,ca,cs,vc] fun v H'=>
   ∃cd' ca' cs' W' p' cap' vc' last' sm' rs',H'=[aQp bz bw o once p' rs'.length cap' last' sm',aAi bw bd ba bs,cd',ca',cs',vc']∧Wc bd ba bs W' cd' ca' cs'∧Ev W W' (2*aBp W.δ.size k rs) (aBp W.δ.size k rs)∧aBv live0 W W'∧W'.α.gs.Perm W.α.gs∧
    Vec 42 4 p' rs'.length cap' (aAj (rs'.map (·.1))) vc'∧W'.live.Perm (aAz (rs'.map (·.1)) live0)∧
    ((v= .int .i64 0∧aCt W'.δ.disk W.δ.size k o once l rs'∧0<rs'.length∧rs'.length*ad≤rs.length+(ad-1)∧(rs'.map (·.1.count)).sum≤(rs.map (·.1.count)).sum∧aBp W.δ.size k rs'≤aBp W.δ.size k rs)∨
     (v= .int .i64 5∧big W.σ.free<aBp W.δ.size k rs)∨(v= .int .i64 6∧W.δ.fault≠-1)):=by
 obtain⟨⟨dz,ew⟩,ey,ez⟩:=h.dev.num
 obtain⟨e0,e4,_,d0⟩:=h.ar.num
 have hp:=aAl dz cv cu
 have hD:=aGx bw bd ba bs
 have hA:=aGy bw bd ba bs
 have hL:=bLn ba W.α ca h.ar
 rw[show(W.α.room:Int)-(W.α.used:Int)=((W.α.room-W.α.used:Nat):Int) by omega] at hL
 have an:=aGq bd W.δ cd h.dev
 have e5:=Vec.nil 42 4
 unfold aQp aHt
 have d1:W.α.room-W.α.used≤1000000000:=oM
 have e7:4≤ad:=by
  have:5≤(W.α.room-W.α.used)/W.δ.size:=by rw[CN oM];omega
  omega
 have e8:ad+1≤1000000000:=by rw[a2];exact BB (Nat.div_le_self _ _) d1
 have e9:(ad+1)*W.δ.size≤W.α.room-W.α.used:=by rw[a2];exact DN _ _
 have e1:AJ .i64 (((W.α.room-W.α.used:Nat):Int).tdiv (W.δ.size:Int))=((ad+1:Nat):Int):=by
  rw[Int.tdiv_eq_ediv_of_nonneg oM,←Int.natCast_ediv,←a2,aAd oM]
 have e2:AJ .i64 (((ad+1:Nat):Int)-1)=(ad:Int):=by rw[aAd oM];omega
 obtain⟨_,h0|⟨vb,rest,rfl,rfl,fa,d2,fb⟩⟩:=hV
 ·omega
 have bq:∀(j:Nat) (r:Fl×List T5),rs[j]? =some r→((aAj (rs.map (·.1))++rest).drop (j*4)).take 4=_:=fun j r hj=>aJu hj
 generalize hcells:aAj (rs.map (·.1))++rest=cells at*
 have b3:=hR.pos hl
 have em:aBp W.δ.size k rs≤(rs.map (·.1.count)).sum:=aWk hp
 refine Ct.go Tryz.func180 Tryz.ntmps180 fun w0=> ?_
 repeat(first|(refine st ?_;intros)|refine G.draw (id:=1) [(4,.quiet),(5,.quiet),(10,.quiet),(11,.quiet)] (h:= ?_)|refine G.draw [] (h:= ?_)|refine G.drawOrd (id:=16) [0,1,2,5,6,7,8,9,10,3,4,11,12,13,14] [(4,.eff [8])] (h:= ?_)|refine cq hD ?_|refine cq hA ?_|refine cq hL ?_|refine cq an ?_)
 refine G.loop (X:=PassX) (fun x=>rs=x.dn++x.rem∧Wc bd ba bs x.W x.cd x.ca x.cs∧Ev W x.W (2*aBp W.δ.size k x.dn) (aBp W.δ.size k x.dn)∧aBv live0 W x.W∧x.W.α.gs.Perm W.α.gs∧x.W.live.Perm (aAz ((x.nx++x.rem).map (·.1)) live0)∧aCt x.W.δ.disk W.δ.size k o once l (x.nx++x.rem)∧
   Vec 42 4 x.pn x.nx.length x.nc (aAj (x.nx.map (·.1))) x.vn∧x.rem.length≤x.rc∧x.rc≤cap∧(x.rem≠[]→x.pr=some ⟨vb,x.dn.length*4,none⟩)∧x.nx.length*ad≤x.dn.length+(ad-1)∧(x.rem≠[]→x.nx.length*ad≤x.dn.length)∧
   (x.nx.map (·.1.count)).sum≤(x.dn.map (·.1.count)).sum∧aBp W.δ.size k x.nx≤aBp W.δ.size k x.dn∧(x.dn≠[]→0<x.nx.length))
  (fun x=>[(4,.slice x.pn x.nx.length x.nc),(3,.int .i64 (ad:Int)),(0,pv bz)])
  (fun x=>[[(bz,row [pv bw,.int .i64 o.c0,.int .i64 o.c1,.int .i64 o.c2,.int .i64 o.c3,.int .i64 o.c4,.bool once,.slice x.pr x.rem.length x.rc,.int .i64 x.last.c0,.int .i64 x.last.c1,.int .i64 x.last.c2,.int .i64 x.last.c3,.int .i64 x.last.c4,.bool x.sm] 200)],aAi bw bd ba bs,x.cd,x.ca,x.cs,[(vb,row cells 42)],x.vn]) (fun x=>x.rem.length)
  ⟨[],rs,[],cd,ca,cs,W,some ⟨vb,0,none⟩,cap,none,0,[],last,sm⟩
  ⟨rfl,h,(Ev.refl W).weak (AS _) (AS _),aBv.refl _ _,.refl _,by simpa using dx,by simpa using hR,Vec.nil _ _,d2,AG _,fun _=>rfl,by simp,by simp,by simp,by simp[aBp],by simp⟩ oA3 oA0 ?_
 rintro⟨dn,rem,nx,a3,a4,a5,W1,pr,rc,pn,nc,vn,ab,a6⟩ ⟨ai,a7,ak,a0,av,aj,al,cw,d3,cz,c5,c6,aw,c7,c8,bu⟩
 dsimp only at ai a7 ak a0 av aj al cw d3 cz c5 c6 aw c7 c8 bu⊢
 have a8:=ak.size
 have c9:W1.α.room=W.α.room:=ak.room
 have en:=ak.acts
 have da:W1.α.used=W.α.used:=by rw[a7.ar.num.2.2.2,(av.map (·.n)).sum_nat,←d0]
 have ax:=al.pos hl
 have db:(rs.map (·.1.count)).sum=(dn.map (·.1.count)).sum+(rem.map (·.1.count)).sum:=by rw[ai,AX,CV]
 have dc:aBp W.δ.size k rs=aBp W.δ.size k dn+aBp W.δ.size k rem:=by rw[ai,aFa]
 have dd:rs.length=dn.length+rem.length:=by rw[ai,AF]
 have d4:rs.length≤1000000:=BB (aMj fun r hr=>b3 r hr) dy
 have eo:nx.length≤1000000:=by
  have h1:nx.length*1≤nx.length*ad:=B7 _ oM
  have h2:nx.length≤(nx.map (·.1.count)).sum:=aMj fun r hr=>ax r (BO _ hr)
  omega
 by_cases a9:0<rem.length
 ·have de:rem≠[]:=fun e=>by rw[e] at a9;simp at a9
  have d5:=c5 de
  subst d5
  have aw:=aw de
  by_cases df:rem.length=1
  ·obtain⟨r,rfl⟩:∃r,rem=[r]:=by
    match rem,df with
    |[r],_=>exact⟨r,rfl⟩
   have fc:=bq dn.length r (by rw[ai];simp)
   have bv:min (ad:Int) (([r].length:Nat):Int)=1:=by simp;omega
   have ep:rs.length=dn.length+1:=by rw[dd];rfl
   repeat(first|(refine st ?_;intros)|refine G.draw (id:=1) [(4,.quiet),(5,.quiet),(10,.quiet),(11,.quiet)] (h:= ?_)|refine G.draw [] (h:= ?_)|refine G.drawOrd (id:=16) [0,1,2,5,6,7,8,9,10,3,4,11,12,13,14] [(4,.eff [8])] (h:= ?_)|refine cq hD ?_|refine cq hA ?_|refine cq hL ?_|refine cq an ?_)
   rename_i p' cap' c' ay
   have am:Vec 42 4 p' (nx.length+1) cap' (aAj ((nx++[r]).map (·.1))) c':=by rw[AX,aCq];exact ay
   have ag:(nx++[r]).length=nx.length+1:=by simp
   rw[←ag] at am
   (refine Dn.post (Hr:=[[(bz,row [pv bw,.int .i64 o.c0,.int .i64 o.c1,.int .i64 o.c2,.int .i64 o.c3,.int .i64 o.c4,.bool once,.slice p' (nx.length+1) cap',.int .i64 ab.c0,.int .i64 ab.c1,.int .i64 ab.c2,.int .i64 ab.c3,.int .i64 ab.c4,.bool a6] 200)],aAi bw bd ba bs,a3,a4,a5,c']) Tryz.results180 (hR:= ?_);refine⟨a3,a4,a5,W1,p',cap',c',ab,a6,nx++[r],by rw[ag],a7,ak.weak oM oM,a0,av,am,aj,.inl ⟨rfl,al,oM,?_,?_,?_⟩⟩)
   ·rw[ag,BG];omega
   ·rw[db,AX,CV];omega
   ·rw[dc,aFa];omega
  ·obtain⟨kk,fd⟩:∃kk,kk=min ad rem.length:=⟨_,rfl⟩
   have bv:min (ad:Int) (rem.length:Int)=(kk:Int):=oM
   obtain⟨ac,b1⟩:∃ac,ac=rem.take kk:=⟨_,rfl⟩
   obtain⟨ah,bc⟩:∃ah,ah=rem.drop kk:=⟨_,rfl⟩
   have az:rem=ac++ah:=by rw[b1,bc,BV]
   have bk:ac.length=kk:=by rw[b1,List.length_take];omega
   have dg:ah.length=rem.length-kk:=by rw[bc,List.length_drop]
   have be:∀(j:Nat) (r:Fl×List T5),ac[j]? =some r→(cells.drop (dn.length*4+j*4)).take 4=[.int .i64 (r.1.first:Int),.int .i64 (r.1.blocks:Int),.int .i64 (r.1.width:Int),.int .i64 (r.1.count:Int)]:=by
    intro j r hj
    rw[←DQ]
    refine bq (dn.length+j) r ?_
    have d6:=(List.getElem?_eq_some_iff.1 hj).1
    rw[ai,az,List.getElem?_append_right oM,show dn.length+j-dn.length=j by omega,List.getElem?_append_left d6];exact hj
   have ae:∀r∈ac,r∈nx++rem:=fun r hr=>by rw[az];simp[hr]
   have fe:(rem.map (·.1.count)).sum=(ac.map (·.1.count)).sum+(ah.map (·.1.count)).sum:=by rw[az,AX,CV]
   have fg:aBp W.δ.size k rem=aBp W.δ.size k ac+aBp W.δ.size k ah:=by rw[az,aFa]
   have d7:=aZb hp ac
   have fh:(kk+1)*W.δ.size≤(ad+1)*W.δ.size:=A7 _ oM
   have b4:=bMf bz bw bd ba bs W1 a3 a4 a5 a7 k o once ac ⟨cv,cu,oM,fun r hr=>⟨(al.each r (ae r hr)).1,by rw[a8];exact(al.each r (ae r hr)).2.1,(al.each r (ae r hr)).2.2,ax r (ae r hr)⟩,fun r hr=>aj.mem_iff.2 (aHa (AU.2 ⟨r,ae r hr,rfl⟩) (by
     have h1:=(al.each r (ae r hr)).2.1.blk
     have h2:=(al.each r (ae r hr)).1
     have h3:=ax r (ae r hr)
     rw[h1,h2]
     unfold aAb
     have:1≤(r.1.count+aAf W.δ.size k-1)/aAf W.δ.size k:=by rw[CN oM];omega
     omega)),by rw[a8,c9,da,bk];omega,oM,oM⟩ vb (dn.length*4) rc cells be (some ⟨vb,dn.length*4,none⟩) rem.length rc ab a6
   unfold aQp aHt at b4
   rw[bk,a8] at b4
   repeat(first|(refine st ?_;intros)|refine G.draw (id:=1) [(4,.quiet),(5,.quiet),(10,.quiet),(11,.quiet)] (h:= ?_)|refine G.draw [] (h:= ?_)|refine G.drawOrd (id:=16) [0,1,2,5,6,7,8,9,10,3,4,11,12,13,14] [(4,.eff [8])] (h:= ?_)|refine cq hD ?_|refine cq hA ?_|refine cq hL ?_|refine cq an ?_)
   rw[bv,Int.toNat_natCast]
   refine R.call (hct:=b4) (h:= ?_)
   rintro _ _ ⟨ao,ap,bf,W2,aa,a1,rfl,b5,b7,bo,b8,⟨f,out,rfl,bg,d8,dh,di,dj,dk,dl⟩|⟨rfl,et,bg⟩|⟨rfl,dm,bg⟩⟩
   try dsimp only[AA,AB]
   ·have aq:flv f= .agg #[.int .i64 (f.first:Int),.int .i64 (f.blocks:Int),.int .i64 (f.width:Int),.int .i64 (f.count:Int)]:=rfl
    rw[aq]
    repeat(first|(refine st ?_;intros)|refine G.draw (id:=1) [(4,.quiet),(5,.quiet),(10,.quiet),(11,.quiet)] (h:= ?_)|refine G.draw [] (h:= ?_)|refine G.drawOrd (id:=16) [0,1,2,5,6,7,8,9,10,3,4,11,12,13,14] [(4,.eff [8])] (h:= ?_)|refine cq hD ?_|refine cq hA ?_|refine cq hL ?_|refine cq an ?_)
    rename_i b6
    obtain⟨au,bh⟩:∃au,au=aAz (((nx++[(f,out)])++ah).map (·.1)) live0:=⟨_,rfl⟩
    have d9:W2.live.Perm (aAz (ac.map (·.1)) au):=by
     refine bg.trans ((aCw aj).trans ((aDt _ _ _).symm.trans ?_))
     rw[bh,show∀a b l,aAz a (aAz b l)=aAz (b++a) l from fun a b l=>by simp[aAz]]
     refine aEl ?_ _
     rw[az]
     simp only[AX,AZ,D7,AP]
     have h1:∀(f:Fl) (a b c:List Fl),(f::(a++(b++c))).Perm (a++([f]++(c++b))):=fun f a b c=>by
      refine(List.perm_middle (l₁:=a) (l₂:=b++c)).symm.trans (BE _ ?_)
      exact List.Perm.cons _ B3
     exact h1 _ _ _ _
    refine G.loop (X:=FreeX) (fun x=>x.j≤kk∧Wc bd ba bs x.W ao ap x.cs∧Ev W2 x.W 0 0∧x.W.δ=W2.δ∧x.W.α=W2.α∧x.W.live.Perm (aAz ((ac.drop x.j).map (·.1)) au))
     (fun x=>[(81,.int .i64 (x.j:Int)),(80,.int .i64 (kk:Int)),(79,.slice (some ⟨vb,dn.length*4,none⟩) kk rc),(6,pv b6),(5,.int .i64 (kk:Int)),(4,.slice pn nx.length nc),(3,.int .i64 (ad:Int)),(0,pv bz)])
     (fun x=>[[(bz,row [pv bw,.int .i64 o.c0,.int .i64 o.c1,.int .i64 o.c2,.int .i64 o.c3,.int .i64 o.c4,.bool once,.slice (some ⟨vb,dn.length*4,none⟩) rem.length rc,.int .i64 aa.c0,.int .i64 aa.c1,.int .i64 aa.c2,.int .i64 aa.c3,.int .i64 aa.c4,.bool a1] 200)],aAi bw bd ba bs,ao,ap,x.cs,[(vb,row cells 42)],vn,[(b6,row [.int .i64 (f.first:Int),.int .i64 (f.blocks:Int),.int .i64 (f.width:Int),.int .i64 (f.count:Int)] 42)]])
     (fun x=>kk-x.j) ⟨0,bf,W2⟩ ⟨AS _,b5,Ev.refl _,rfl,rfl,d9⟩ (body:= ?_)
    rintro⟨j,dp,W3⟩ ⟨hj,b9,cg,bp,ci,bi⟩
    dsimp only at hj b9 cg bp ci bi⊢
    by_cases ea:j<kk
    ·have eb:ac[j]? =some ac[j]:=AE oM
     have fi:=be j _ eb
     have ec:ac.drop j=ac[j]::ac.drop (j+1):=BQ oM
     rw[ec] at bi
     generalize ac[j]=r at*
     have dq:=aKv bw bd ba bs W3 ao ap dp b9 r.1 _ (aDv.add (bi.trans (aDt _ _ _)))
     have dr:flv r.1= .agg #[.int .i64 (r.1.first:Int),.int .i64 (r.1.blocks:Int),.int .i64 (r.1.width:Int),.int .i64 (r.1.count:Int)]:=rfl
     rw[dr] at dq
     have e3:AJ .i64 ((j:Int)+1)=((j+1:Nat):Int):=by rw[aAd oM];rfl
     repeat(first|(refine st ?_;intros)|refine G.draw (id:=1) [(4,.quiet),(5,.quiet),(10,.quiet),(11,.quiet)] (h:= ?_)|refine G.draw [] (h:= ?_)|refine G.drawOrd (id:=16) [0,1,2,5,6,7,8,9,10,3,4,11,12,13,14] [(4,.eff [8])] (h:= ?_)|refine cq hD ?_|refine cq hA ?_|refine cq hL ?_|refine cq an ?_)
     refine R.call (hct:=dq) (h:= ?_)
     rintro _ _ ⟨ee,W4,rfl,rfl,ef,eg,eh,ei,ej⟩
     try dsimp only[AA,AB]
     repeat(first|(refine st ?_;intros)|refine G.draw (id:=1) [(4,.quiet),(5,.quiet),(10,.quiet),(11,.quiet)] (h:= ?_)|refine G.draw [] (h:= ?_)|refine G.drawOrd (id:=16) [0,1,2,5,6,7,8,9,10,3,4,11,12,13,14] [(4,.eff [8])] (h:= ?_)|refine cq hD ?_|refine cq hA ?_|refine cq hL ?_|refine cq an ?_)
     exact Dn.round ⟨j+1,ee,W4⟩ ⟨ea,ef,cg.trans eg,eh.trans bp,ei.trans ci,by dsimp only;rw[ej]⟩ oD
    ·obtain rfl:j=kk:=by omega
     have ek:W3.live.Perm au:=by rw[←bk,List.drop_length] at bi;exact bi
     repeat(first|(refine st ?_;intros)|refine G.draw (id:=1) [(4,.quiet),(5,.quiet),(10,.quiet),(11,.quiet)] (h:= ?_)|refine G.draw [] (h:= ?_)|refine G.drawOrd (id:=16) [0,1,2,5,6,7,8,9,10,3,4,11,12,13,14] [(4,.eff [8])] (h:= ?_)|refine cq hD ?_|refine cq hA ?_|refine cq hL ?_|refine cq an ?_)
     rename_i p' cap' c' ay
     have am:Vec 42 4 p' (nx.length+1) cap' (aAj ((nx++[(f,out)]).map (·.1))) c':=by rw[AX,aCq];exact ay
     have ag:(nx++[(f,out)]).length=nx.length+1:=by simp
     have ds:=al.keep (live0:=live0) (d':=W2.δ.disk) fun x hx=>bo x ((aGk aj x).2 hx)
     rw[az] at ds
     have dt:=a0.trans (bo.sub (Lv':=live0) fun e he=>aj.mem_iff.2 (aCx he))
     have du:=(ak.trans b7).trans cg
     have cj:(dn++ac).length=dn.length+j:=by rw[AF,bk]
     have b2:ah≠[]→j<rem.length∧j=ad:=fun hn=>by
      have:=List.length_pos_iff.2 hn
      omega
     rw[←ag,←dg]
     rw[←ag] at am
     refine Dn.round ⟨dn++ac,ah,nx++[(f,out)],ao,ap,dp,W3,cutA (some ⟨vb,dn.length*4,none⟩) j rc 4,rc-j,p',cap',c',aa,a1⟩ ⟨by dsimp only;rw[ai,az,AP],b9,?_,fun x hx=>by dsimp only;rw[bp];exact dt x hx,by dsimp only;rw[ci];exact b8.trans av,by dsimp only;rw[←bh];exact ek,?_,am,oD,oD,?_,?_,?_,?_,?_,?_⟩ oD
     ·refine du.weak ?_ ?_
      ·dsimp only;rw[aFa];omega
      ·dsimp only;rw[aFa];omega
     ·dsimp only;rw[bp];exact ds.swap d8 dj dk dl dh
     ·intro hn
      obtain⟨h1,h2⟩:=b2 hn
      dsimp only
      unfold cutA
      rw[if_neg oM,Option.map_some,Addr.add_mk,cj,DQ]
     ·dsimp only;rw[ag,cj,BG];omega
     ·intro hn
      obtain⟨h1,h2⟩:=b2 hn
      dsimp only;rw[ag,cj,BG];omega
     ·dsimp only;rw[AX,AX,CV,CV]
      simp only[AZ,D7,DM,List.sum_nil];omega
     ·dsimp only;rw[aFa,aFa]
      have:aBp W.δ.size k [(f,out)]=aAb W.δ.size k f.count:=by simp[aBp]
      have h3:aAb W.δ.size k f.count≤aAb W.δ.size k (ac.map (·.1.count)).sum:=aAm di
      omega
     ·intro _;dsimp only;omega
   ·have aq:flv ⟨0,0,0,0⟩= .agg #[.int .i64 0,.int .i64 0,.int .i64 0,.int .i64 0]:=rfl
    rw[aq]
    have cm:(cells.drop (dn.length*4)).take (rem.length*4)=aAj (rem.map (·.1)):=by
     rw[←hcells,ai,AX,aCq,AP]
     have h1:dn.length*4=(aAj (dn.map (·.1))).length:=by rw[aBq,AY]
     have h2:rem.length*4=(aAj (rem.map (·.1))).length:=by rw[aBq,AY]
     rw[h1,List.drop_left,h2,List.take_left]
    have el:(aAj (rem.map (·.1))).length=rem.length*4:=by rw[aBq,AY]
    have dw:(aAj (rem.map (·.1))).all Value.oneCell'=true:=aRt _
    repeat(first|(refine st ?_;intros)|refine G.draw (id:=1) [(4,.quiet),(5,.quiet),(10,.quiet),(11,.quiet)] (h:= ?_)|refine G.draw [] (h:= ?_)|refine G.drawOrd (id:=16) [0,1,2,5,6,7,8,9,10,3,4,11,12,13,14] [(4,.eff [8])] (h:= ?_)|refine cq hD ?_|refine cq hA ?_|refine cq hL ?_|refine cq an ?_)
    rename_i p' cap' c' ay
    have am:Vec 42 4 p' (nx.length+rem.length) cap' (aAj ((nx++rem).map (·.1))) c':=by rw[AX,aCq];exact ay
    have ag:(nx++rem).length=nx.length+rem.length:=by simp
    rw[←ag] at am
    (refine Dn.post (Hr:=[[(bz,row [pv bw,.int .i64 o.c0,.int .i64 o.c1,.int .i64 o.c2,.int .i64 o.c3,.int .i64 o.c4,.bool once,.slice p' (nx.length+rem.length) cap',.int .i64 aa.c0,.int .i64 aa.c1,.int .i64 aa.c2,.int .i64 aa.c3,.int .i64 aa.c4,.bool a1] 200)],aAi bw bd ba bs,ao,ap,bf,c']) Tryz.results180 (hR:= ?_);refine⟨ao,ap,bf,W2,p',cap',c',aa,a1,nx++rem,by rw[ag],b5,(ak.trans b7).weak oM oM,a0.trans (bo.sub fun e he=>aj.mem_iff.2 (aCx he)),b8.trans av,am,bg.trans aj,.inr (.inl ⟨rfl,by have:=ak.big;omega⟩)⟩)
   ·have aq:flv ⟨0,0,0,0⟩= .agg #[.int .i64 0,.int .i64 0,.int .i64 0,.int .i64 0]:=rfl
    rw[aq]
    have cm:(cells.drop (dn.length*4)).take (rem.length*4)=aAj (rem.map (·.1)):=by
     rw[←hcells,ai,AX,aCq,AP]
     have h1:dn.length*4=(aAj (dn.map (·.1))).length:=by rw[aBq,AY]
     have h2:rem.length*4=(aAj (rem.map (·.1))).length:=by rw[aBq,AY]
     rw[h1,List.drop_left,h2,List.take_left]
    have el:(aAj (rem.map (·.1))).length=rem.length*4:=by rw[aBq,AY]
    have dw:(aAj (rem.map (·.1))).all Value.oneCell'=true:=aRt _
    repeat(first|(refine st ?_;intros)|refine G.draw (id:=1) [(4,.quiet),(5,.quiet),(10,.quiet),(11,.quiet)] (h:= ?_)|refine G.draw [] (h:= ?_)|refine G.drawOrd (id:=16) [0,1,2,5,6,7,8,9,10,3,4,11,12,13,14] [(4,.eff [8])] (h:= ?_)|refine cq hD ?_|refine cq hA ?_|refine cq hL ?_|refine cq an ?_)
    rename_i p' cap' c' ay
    have am:Vec 42 4 p' (nx.length+rem.length) cap' (aAj ((nx++rem).map (·.1))) c':=by rw[AX,aCq];exact ay
    have ag:(nx++rem).length=nx.length+rem.length:=by simp
    rw[←ag] at am
    (refine Dn.post (Hr:=[[(bz,row [pv bw,.int .i64 o.c0,.int .i64 o.c1,.int .i64 o.c2,.int .i64 o.c3,.int .i64 o.c4,.bool once,.slice p' (nx.length+rem.length) cap',.int .i64 aa.c0,.int .i64 aa.c1,.int .i64 aa.c2,.int .i64 aa.c3,.int .i64 aa.c4,.bool a1] 200)],aAi bw bd ba bs,ao,ap,bf,c']) Tryz.results180 (hR:= ?_);refine⟨ao,ap,bf,W2,p',cap',c',aa,a1,nx++rem,by rw[ag],b5,(ak.trans b7).weak oM oM,a0.trans (bo.sub fun e he=>aj.mem_iff.2 (aCx he)),b8.trans av,am,bg.trans aj,.inr (.inr ⟨rfl,fun e=>dm (ak.fault e)⟩)⟩)
 ·obtain rfl:rem=[]:=by
   cases rem with
   |nil=>rfl
   |cons a b=>simp at a9
  rw[AQ] at al aj ai
  repeat(first|(refine st ?_;intros)|refine G.draw (id:=1) [(4,.quiet),(5,.quiet),(10,.quiet),(11,.quiet)] (h:= ?_)|refine G.draw [] (h:= ?_)|refine G.drawOrd (id:=16) [0,1,2,5,6,7,8,9,10,3,4,11,12,13,14] [(4,.eff [8])] (h:= ?_)|refine cq hD ?_|refine cq hA ?_|refine cq hL ?_|refine cq an ?_)
  (refine Dn.post (Hr:=[[(bz,row [pv bw,.int .i64 o.c0,.int .i64 o.c1,.int .i64 o.c2,.int .i64 o.c3,.int .i64 o.c4,.bool once,.slice pn nx.length nc,.int .i64 ab.c0,.int .i64 ab.c1,.int .i64 ab.c2,.int .i64 ab.c3,.int .i64 ab.c4,.bool a6] 200)],aAi bw bd ba bs,a3,a4,a5,vn]) Tryz.results180 (hR:= ?_);refine⟨a3,a4,a5,W1,pn,nc,vn,ab,a6,nx,rfl,a7,ak.weak oM oM,a0,av,cw,aj,.inl ⟨rfl,al,bu (fun e=>by rw[e] at ai;rw[ai] at h2;simp at h2),oM,oM,oM⟩⟩)
def lgq (n:Nat):Nat:=if h:n≤1 then 0 else 1+lgq ((n+3)/4)
termination_by n
decreasing_by omega
theorem aTa {n:Nat} (h:n≤1):lgq n=0:=by unfold lgq;rw[dif_pos h]
theorem aJf {n:Nat} (h:¬n≤1):lgq n=1+lgq ((n+3)/4):=by rw[lgq,dif_neg h]
theorem aTb:∀{b a:Nat},a≤b→lgq a≤lgq b:=by
 intro b
 induction b using Nat.strongRecOn with
 |ind b ih=>
  intro a aa
  by_cases ha:a≤1
  ·rw[aTa ha];exact AS _
  ·rw[aJf ha,aJf (show¬b≤1 by omega)]
   have:=ih ((b+3)/4) oM (a:=(a+3)/4) oM
   omega
theorem bMg {n m aa:Nat} (hf:4≤aa) (hn:¬n≤1) (h:m*aa≤n+(aa-1)):lgq m+1≤lgq n∧m<n:=by
 have h1:m≤(n+3)/4:=by
  rw[CN oM]
  by_cases hm:m=0
  ·subst hm;omega
  ·obtain⟨j,rfl⟩:∃j,m=j+1:=⟨m-1,oM⟩
   obtain⟨i,rfl⟩:∃i,aa=4+i:=⟨aa-4,oM⟩
   have:(j+1)*(4+i)=j*4+j*i+(4+i):=by rw[BG,Nat.mul_add]
   have h0:0≤j*i:=AS _
   omega
 have h2:=aTb h1
 rw[aJf hn]
 omega
theorem aTc:∀(k n:Nat),n≤4^k→lgq n≤k
 |0,n,h=>by rw[aTa oA11];omega
 |k+1,n,h=>by
  by_cases h1:n≤1
  ·rw[aTa h1];omega
  ·rw[aJf h1]
   have:=aTc k ((n+3)/4) (by rw[Nat.pow_succ] at h;omega)
   omega
theorem aTd {d:Nat→Option (List Int)} {size k:Nat} {o:T5} {once:Bool} {l:List T5} {rs:List (Fl×List T5)} (h:aCt d size k o once l rs):aBp size k rs=(rs.map (·.1.blocks)).sum:=by
 unfold aBp
 refine congrArg List.sum (List.map_congr_left fun r hr=> ?_)
 obtain⟨h1,h2,_⟩:=h.each r hr
 rw[h2.blk,h1]
structure SortX where
 e:Nat
 P:Nat
 rs:List (Fl×List T5)
 cd:aAc
 ca:aAc
 cs:aAc
 vc:aAc
 W:Wk
 p:Option Addr
 cap:Nat
 last:T5
 sm:Bool
theorem aBj {W W':Wk} {k m:Nat} (h:Ev W W' k m) (hf:W'.δ.fault≠-1):W.δ.fault≠-1:=fun e=>hf (h.fault e)
theorem bQz (bw bd ba bs:Nat) (W:Wk) (cd ca cs:aAc) (h:Wc bd ba bs W cd ca cs) (f:Fl) (fts:List T5) (live0:List Ext) (an:aAq W.δ.disk W.δ.size [f.ext] f fts) (am:W.live.Perm (aCj f live0)) (o:T5) (ho:aGj o=true) (once:Bool)
  (hr:5*W.δ.size≤W.α.room-W.α.used) (fg:W.δ.acts≤1000000000) (fh:f.count≤100000) (c:Nat) (hc:c=(W.α.room-W.α.used-2*W.δ.size)/f.width):
  Ct AC 127 [pv bw,flv f,tv o,.bool once] [aAi bw bd ba bs,cd,ca,cs] fun v H'=>
   ∃cd' ca' cs' W' q S P,H'=[aAi bw bd ba bs,cd',ca',cs']∧Wc bd ba bs W' cd' ca' cs'∧Ev W W' (aAb W.δ.size f.width f.count+S+2*S*P) (S+S*P)∧W'.α.gs.Perm W.α.gs∧
    S*aAf W.δ.size f.width≤f.count+q*(aAf W.δ.size f.width-1)∧(q-1)*c≤f.count∧(0<f.count→(q-1)*c<f.count)∧P≤lgq q∧aBv live0 W W'∧
    ((∃g out,v= .tuple #[flv g,.int .i64 0]∧W'.live.Perm (aCj g live0)∧g.width=f.width∧g.count≤f.count∧aAq W'.δ.disk W.δ.size [g.ext] g out∧Sd (ltO o) once out∧Go.Srt.Sp (ltO o) once fts out)∨
     (v= .tuple #[flv ⟨0,0,0,0⟩,.int .i64 5]∧big W.σ.free<S+S*P∧W'.live.Perm W.live∧aBv W.live W W')∨
     (v= .tuple #[flv ⟨0,0,0,0⟩,.int .i64 6]∧W.δ.fault≠-1∧W'.live.Perm W.live∧aBv W.live W W')):=by
 obtain⟨⟨dk,fi⟩,fj,fk⟩:=h.dev.num
 obtain⟨fm,fp,_,b4⟩:=h.ar.num
 have b7:=an.w1
 have b9:=an.w2
 have hp:=aAl dk b7 b9
 have dl:=an.len
 have hF:=aEp o.c0 o.c1 o.c2 o.c3 o.c4
 rw[show(⟨o.c0,o.c1,o.c2,o.c3,o.c4⟩:T5)=o from rfl,ho] at hF
 have hD:=aGx bw bd ba bs
 have hA:=aGy bw bd ba bs
 have cg:=aIk bw bd ba bs W cd ca cs h f fts [f.ext] an oM
 have ap:flv f= .agg #[.int .i64 (f.first:Int),.int .i64 (f.blocks:Int),.int .i64 (f.width:Int),.int .i64 (f.count:Int)]:=rfl
 have dm:tv o= .agg #[.int .i64 o.c0,.int .i64 o.c1,.int .i64 o.c2,.int .i64 o.c3,.int .i64 o.c4]:=rfl
 rw[ap] at cg⊢
 rw[dm]
 refine Ct.go Tryz.func127 Tryz.ntmps127 fun w0=> ?_
 repeat(first|(refine st ?_;intros)|refine cq hF ?_|refine cq hD ?_|refine cq hA ?_|refine cq hL ?_|refine cq hSz ?_)
 refine R.call (hct:=cg) (h:= ?_)
 rintro _ _ ⟨bx,g,dp,α1,cx,cb,rfl,rfl,dq,ci,dr,fq,bc⟩
 try dsimp only[AA,AB]
 have ds:=aNr bw bd ba bs {W with α:=α1} cd dp cs dq bx f fts g W.α.gs dr 0 cx cb bc
 repeat(first|(refine st ?_;intros)|refine cq hF ?_|refine cq hD ?_|refine cq hA ?_|refine cq hL ?_|refine cq hSz ?_)
 refine R.call (hct:=ds) (h:= ?_)
 rintro _ _ ⟨cj,α2,fr,rfl,rfl,be,cm,cu,ft⟩
 try dsimp only[AA,AB]
 have e2:α2.room=W.α.room:=by have h1:α1.room=W.α.room:=ci.room;have h2:α2.room=α1.room:=cm.room;omega
 have e7:α2.used=W.α.used:=by
  have h1:=be.ar.num.2.2.2
  dsimp only at h1
  rw[h1,(cu.map (·.n)).sum_nat,←b4]
 have hL:=bLn ba α2 cj be.ar
 rw[show(α2.room:Int)-(α2.used:Int)=((W.α.room-W.α.used:Nat):Int) by omega] at hL
 have hSz:=aGq bd W.δ cd h.dev
 have e5:AJ .i64 (5*(W.δ.size:Int))=((5*W.δ.size:Nat):Int):=by rw[aAd oM];omega
 obtain⟨Lv,cv,bf⟩:∃Lv,aAq W.δ.disk W.δ.size Lv f fts∧∀e∈Lv,e∈W.live:=by
  by_cases hb:f.blocks=0
  ·exact⟨[],{an with live:=fun e=>absurd hb e},by simp⟩
  ·refine⟨[f.ext],an,fun e he=> ?_⟩
   simp only[AT] at he;subst he
   unfold aCj at am;rw[if_neg hb] at am
   exact am.mem_iff.2 AH
 repeat(first|(refine st ?_;intros)|refine cq hF ?_|refine cq hD ?_|refine cq hA ?_|refine cq hL ?_|refine cq hSz ?_)
 rename_i b5 b6 b8 bz
 have a0:=bQo bz bw bd ba bs {W with α:=α2} cd cj cs be f fts Lv cv bf o once ⟨0,0,0,0,0⟩ false oD oD oM (W.α.room-W.α.used) c oD hc
 rw[ap] at a0
 unfold aQp aHt at a0
 dsimp only at a0
 have cw:=ci.trans cm
 refine R.call (hct:=a0) (h:= ?_)
 rintro _ _ ⟨dt,du,dw,W3,dx,p3,cz,bg,dy,aq,q,S,l3,rfl,dz,d0,d1,d2,d3,d4,c5,hS,c6,c7,fu,bh⟩
 try dsimp only[AA,AB]
 obtain⟨e3,rfl,a1⟩:∃e3:Nat,_=Value.int .i64 (e3:Int)∧((e3=0∧l3=fts∧aq≠[]∧aq.length=q∧((aq.map (·.1.count)).sum≤f.count)∧((aq.map (·.1.blocks)).sum≤S))∨(e3=5∧big W.σ.free<S)∨(e3=6∧W.δ.fault≠-1)):=by
  rcases bh with⟨e,h⟩|⟨e,h⟩|⟨e,h⟩
  ·exact⟨0,e,.inl ⟨rfl,h⟩⟩
  ·exact⟨5,e,.inr (.inl ⟨rfl,h⟩)⟩
  ·exact⟨6,e,.inr (.inr ⟨rfl,h⟩)⟩
 have c8:aBv W.live W W3:=d1
 have c9:=cw.trans d0
 repeat(first|(refine st ?_;intros)|refine cq hF ?_|refine cq hD ?_|refine cq hA ?_|refine cq hL ?_|refine cq hSz ?_)
 refine G.loop (X:=SortX) (fun x=>Wc bd ba bs x.W x.cd x.ca x.cs∧Ev W x.W (aAb W.δ.size f.width f.count+S+2*S*x.P) (S+S*x.P)∧aBv W.live W x.W∧x.W.α.gs.Perm W.α.gs∧x.W.live.Perm (aAz (x.rs.map (·.1)) W.live)∧Vec 42 4 x.p x.rs.length x.cap (aAj (x.rs.map (·.1))) x.vc∧x.P≤lgq q∧
   ((x.e=0∧aCt x.W.δ.disk W.δ.size f.width o once fts x.rs∧0<x.rs.length∧(x.rs.map (·.1.count)).sum≤f.count∧aBp W.δ.size f.width x.rs≤S∧x.P+lgq x.rs.length≤lgq q)∨(x.e=5∧big W.σ.free<S+S*x.P)∨(x.e=6∧W.δ.fault≠-1)))
  (fun x=>[(11,.int .i64 (x.e:Int)),(12,pv bz),(8,pv b8),(5,pv b5),(0,pv bw)])
  (fun x=>[[(bz,row [pv bw,.int .i64 o.c0,.int .i64 o.c1,.int .i64 o.c2,.int .i64 o.c3,.int .i64 o.c4,.bool once,.slice x.p x.rs.length x.cap,.int .i64 x.last.c0,.int .i64 x.last.c1,.int .i64 x.last.c2,.int .i64 x.last.c3,.int .i64 x.last.c4,.bool x.sm] 200)],aAi bw bd ba bs,x.cd,x.ca,x.cs,x.vc,[(b8,row [.int .i64 0,.int .i64 0,.int .i64 0,.int .i64 0] 42)],[(b5,row [.int .i64 (f.first:Int),.int .i64 (f.blocks:Int),.int .i64 (f.width:Int),.int .i64 (f.count:Int)] 42)]])
  (fun x=>if x.e=0 then x.rs.length+1 else 0) ⟨e3,0,aq,dt,du,dw,dx,W3,p3,cz,bg,dy⟩
  ⟨dz,c9.weak oD oD,c8,d2.trans cu,d4,d3,AS _,?_⟩ (body:= ?_)
 ·rcases a1 with⟨e,rfl,h1,h2,h3,h4⟩|⟨e,h1⟩|⟨e,h1⟩
  ·exact .inl ⟨e,c5,List.length_pos_iff.2 h1,h3,by rw[aTd c5];exact h4,by dsimp only;rw[h2];omega⟩
  ·exact .inr (.inl ⟨e,oD⟩)
  ·exact .inr (.inr ⟨e,h1⟩)
 rintro⟨e4,P4,aa,ab,ac,bi,da,W4,p4,a7,bk,d5⟩ ⟨au,ad,a2,av,a3,aw,bo,ax⟩
 dsimp only at au ad a2 av a3 aw bo ax⊢
 have d6:P4≤9:=BB bo (aTc 9 q oM)
 have e8:=S_le hp hS
 have fv:2*S*P4≤2*S*9:=B7 _ d6
 have fw:=aAx (n:=f.count) hp
 have ak:=ad.size
 have a8:W4.α.room=W.α.room:=ad.room
 have e9:=ad.acts
 have a9:W4.α.used=W.α.used:=by rw[au.ar.num.2.2.2,(av.map (·.n)).sum_nat,←b4]
 rcases ax with⟨rfl,bp,fa,db,fb,dc⟩|ax
 ·by_cases h1:aa.length=1
  ·obtain⟨r,rfl⟩:∃r,aa=[r]:=by
    match aa,h1 with
    |[r],_=>exact⟨r,rfl⟩
   obtain⟨_,h0|⟨vb,rest,rfl,rfl,d7,dd,bq⟩⟩:=aw
   ·simp at h0
   have fx:=aJu (rs:=[r]) (rest:=rest) (j:=0) (r:=r) rfl
   generalize hcells:aAj ([r].map (·.1))++rest=cells at*
   obtain⟨bc,d8,d9⟩:=bp.each r oA15
   have de:=bp.sp
   rw[A8,List.flatMap_nil,AQ] at de
   have ea:W4.live.Perm (aCj f (aCj r.1 live0)):=a3.trans ((aCw am).trans (aEe _ _ _))
   have ay:=aKv bw bd ba bs W4 ab ac bi au f _ (aDv.add ea)
   rw[ap] at ay
   repeat(first|(refine st ?_;intros)|refine cq hF ?_|refine cq hD ?_|refine cq hA ?_|refine cq hL ?_|refine cq hSz ?_)
   refine R.call (hct:=ay) (h:= ?_)
   rintro _ _ ⟨ag,W5,rfl,rfl,ah,ai,ao,az,ae⟩
   try dsimp only[AA,AB]
   repeat(first|(refine st ?_;intros)|refine cq hF ?_|refine cq hD ?_|refine cq hA ?_|refine cq hL ?_|refine cq hSz ?_)
   (refine Dn.post (Hr:=[aAi bw bd ba bs,ab,ac,ag]) Tryz.results127 (hR:= ?_);refine⟨ab,ac,ag,W5,q,S,P4,rfl,ah,(ad.trans ai).weak oM oM,by rw[az];exact av,hS,c6,c7,oM,fun x hx=> ?_,.inl ⟨r.1,r.2,rfl,by rw[ae],bc,by simpa using db,?_,d9,de⟩⟩)
   ·rw[ao]
    exact a2 x (by
     obtain⟨e,he,h2⟩:=hx
     exact⟨e,am.mem_iff.2 (aKy he),h2⟩)
   ·rw[ao];exact d8
  ·have bu:fts≠[]:=by
    intro e0
    have h2:¬q≤1:=fun hq=>by
     have h3:=aJf (n:=aa.length) oM
     rw[aTa hq] at dc;omega
    have eb:1≤c:=by rw[hc,CN oM];omega
    have h4:(q-1)*1≤(q-1)*c:=B7 _ eb
    have h5:=congrArg List.length e0
    rw[dl,AV] at h5
    omega
   obtain⟨a4,df⟩:∃a4,a4+1=(W.α.room-W.α.used)/W.δ.size:=⟨(W.α.room-W.α.used)/W.δ.size-1,by
    have:5≤(W.α.room-W.α.used)/W.δ.size:=by rw[CN oM];omega
    omega⟩
   have ec:4≤a4:=by
    have:5≤(W.α.room-W.α.used)/W.δ.size:=by rw[CN oM];omega
    omega
   have bv:=bQy bz bw bd ba bs W4 ab ac bi au f.width b7 b9 o once fts bu aa (by rw[ak];exact bp) W.live a3 p4 a7 da aw oM (by rw[ak,a8,a9];exact hr) oM oM bk d5 a4 (by rw[ak,a8,a9];exact df)
   unfold aQp aHt at bv
   rw[ak] at bv
   repeat(first|(refine st ?_;intros)|refine cq hF ?_|refine cq hD ?_|refine cq hA ?_|refine cq hL ?_|refine cq hSz ?_)
   refine R.call (hct:=bv) (h:= ?_)
   rintro _ _ ⟨ee,ef,ag,W5,p5,dg,eg,b1,eh,aj,rfl,ah,ai,ei,ej,ek,ae,a5⟩
   try dsimp only[AA,AB]
   have fc:2*S*(P4+1)=2*S*P4+2*S:=Nat.mul_succ _ _
   have fy:S*(P4+1)=S*P4+S:=Nat.mul_succ _ _
   have el:P4+1≤lgq q:=by
    have h3:=aJf (n:=aa.length) oM
    omega
   have dh:Ev W W5 (aAb W.δ.size f.width f.count+S+2*S*(P4+1)) (S+S*(P4+1)):=(ad.trans ai).weak oM oM
   obtain⟨em,rfl,al⟩:∃e5:Nat,_=Value.int .i64 (e5:Int)∧((e5=0∧aCt W5.δ.disk W.δ.size f.width o once fts aj∧0<aj.length∧(aj.map (·.1.count)).sum≤f.count∧aBp W.δ.size f.width aj≤S∧P4+1+lgq aj.length≤lgq q∧aj.length<aa.length)∨(e5=5∧big W.σ.free<S+S*(P4+1))∨(e5=6∧W.δ.fault≠-1)):=by
    rcases a5 with⟨e,h1,h2,h3,h4,h5⟩|⟨e,h2⟩|⟨e,h2⟩
    ·have:=bMg ec oM h3
     exact⟨0,e,.inl ⟨rfl,h1,h2,oM,oM,oM,this.2⟩⟩
    ·exact⟨5,e,.inr (.inl ⟨rfl,by have:=ad.big;omega⟩)⟩
    ·exact⟨6,e,.inr (.inr ⟨rfl,aBj ad h2⟩)⟩
   repeat(first|(refine st ?_;intros)|refine cq hF ?_|refine cq hD ?_|refine cq hA ?_|refine cq hL ?_|refine cq hSz ?_)
   refine Dn.round ⟨em,P4+1,aj,ee,ef,ag,eg,W5,p5,dg,b1,eh⟩ ⟨ah,dh,a2.trans ei,ej.trans av,ae,ek,el,?_⟩ ?_
   ·rcases al with⟨e,h1,h2,h3,h4,h5,_⟩|h2|h2
    ·exact .inl ⟨e,h1,h2,h3,h4,h5⟩
    ·exact .inr (.inl h2)
    ·exact .inr (.inr h2)
   ·rcases al with⟨e,_,_,_,_,_,h6⟩|⟨e,_⟩|⟨e,_⟩<;>(dsimp only;subst e;simp;try omega)
 ·have di:e4≠0∧(e4:Int)≠0:=by rcases ax with⟨rfl,_⟩|⟨rfl,_⟩<;>decide
  obtain⟨di,fd⟩:=di
  have fe:aa.length≤9223372036854775807:=by
   obtain⟨h1,h0|⟨vb,rest,_,_,_,dd,bq⟩⟩:=aw
   ·omega
   ·simp only[maxLen] at bq;omega
  repeat(first|(refine st ?_;intros)|refine cq hF ?_|refine cq hD ?_|refine cq hA ?_|refine cq hL ?_|refine cq hSz ?_)
  refine G.loop (X:=FreeX) (fun x=>x.j≤aa.length∧Wc bd ba bs x.W ab ac x.cs∧Ev W4 x.W 0 0∧x.W.δ=W4.δ∧x.W.α=W4.α∧x.W.live.Perm (aAz ((aa.drop x.j).map (·.1)) W.live))
   (fun x=>[(71,.int .i64 (x.j:Int)),(70,.int .i64 (aa.length:Int)),(69,.slice p4 aa.length a7),(11,.int .i64 (e4:Int)),(8,pv b8),(0,pv bw)])
   (fun x=>[aAi bw bd ba bs,ab,ac,x.cs,da,[(b8,row [.int .i64 0,.int .i64 0,.int .i64 0,.int .i64 0] 42)]])
   (fun x=>aa.length-x.j) ⟨0,bi,W4⟩ ⟨AS _,au,Ev.refl _,rfl,rfl,a3⟩ (body:= ?_)
  rintro⟨j,ag,W5⟩ ⟨hj,ah,ai,ao,az,ae⟩
  dsimp only at hj ah ai ao az ae⊢
  by_cases b2:j<aa.length
  ·have en:aa[j]? =some aa[j]:=AE b2
   have eo:aa.drop j=aa[j]::aa.drop (j+1):=BQ b2
   obtain⟨_,h0|⟨vb,rest,rfl,rfl,d7,dd,bq⟩⟩:=aw
   ·omega
   have f0:=aJu (rest:=rest) en
   generalize hcells:aAj (aa.map (·.1))++rest=cells at*
   rw[eo] at ae
   generalize aa[j]=r at*
   have ay:=aKv bw bd ba bs W5 ab ac ag ah r.1 _ (aDv.add (ae.trans (aDt _ _ _)))
   have dj:flv r.1= .agg #[.int .i64 (r.1.first:Int),.int .i64 (r.1.blocks:Int),.int .i64 (r.1.width:Int),.int .i64 (r.1.count:Int)]:=rfl
   rw[dj] at ay
   have e3:AJ .i64 ((j:Int)+1)=((j+1:Nat):Int):=by rw[aAd oM];rfl
   repeat(first|(refine st ?_;intros)|refine cq hF ?_|refine cq hD ?_|refine cq hA ?_|refine cq hL ?_|refine cq hSz ?_)
   refine R.call (hct:=ay) (h:= ?_)
   rintro _ _ ⟨ep,W6,rfl,rfl,et,eu,ew,ey,a6⟩
   try dsimp only[AA,AB]
   repeat(first|(refine st ?_;intros)|refine cq hF ?_|refine cq hD ?_|refine cq hA ?_|refine cq hL ?_|refine cq hSz ?_)
   exact Dn.round ⟨j+1,ep,W6⟩ ⟨b2,et,ai.trans eu,ew.trans ao,ey.trans az,by dsimp only;rw[a6]⟩ oD
  ·obtain rfl:j=aa.length:=by omega
   have a6:W5.live.Perm W.live:=by rw[List.drop_length] at ae;exact ae
   have b3:aBv W.live W W5:=fun x hx=>by rw[ao];exact a2 x hx
   have ez:aBv live0 W W5:=b3.sub fun e he=>am.mem_iff.2 (aKy he)
   repeat(first|(refine st ?_;intros)|refine cq hF ?_|refine cq hD ?_|refine cq hA ?_|refine cq hL ?_|refine cq hSz ?_)
   (refine Dn.post (Hr:=[aAi bw bd ba bs,ab,ac,ag]) Tryz.results127 (hR:= ?_);refine⟨ab,ac,ag,W5,q,S,P4,rfl,ah,(ad.trans ai).weak oM oM,by rw[az];exact av,hS,c6,c7,bo,ez,?_⟩)
   rcases ax with⟨rfl,h1⟩|⟨rfl,h1⟩
   ·exact .inr (.inl ⟨rfl,h1,a6,b3⟩)
   ·exact .inr (.inr ⟨rfl,h1,a6,b3⟩)
def aNi (k:Nat) (t:T5):Bool:=(List.range 5).all fun i=>decide (i<k)||decide (t.col i=0)
theorem aPm {k:Nat} {t:T5}:aNi k t=true↔∀i,i<5→k≤i→t.col i=0:=by
 simp only[aNi,DU,List.mem_range,Bool.or_eq_true,decide_eq_true_eq]
 constructor
 ·intro h i hi hk
  rcases h i hi with h|h
  ·omega
  ·exact h
 ·intro h i hi
  by_cases hk:i<k
  ·exact .inl hk
  ·exact .inr (h i hi oM)
theorem bMh (t:T5) (i:Nat) (h:i<5):([.int .i64 t.c0,.int .i64 t.c1,.int .i64 t.c2,.int .i64 t.c3,.int .i64 t.c4]:List Value)[i]? =some (.int .i64 (t.col i)):=by
 match i,h with
 |0,_=>rfl
 |1,_=>rfl
 |2,_=>rfl
 |3,_=>rfl
 |4,_=>rfl
theorem bRa (t:T5) (k:Nat):CtQ AC 67 [tv t,.int .i64 (k:Int)] [] (.bool (aNi k t)):=by
 have ac:tv t= .agg #[.int .i64 t.c0,.int .i64 t.c1,.int .i64 t.c2,.int .i64 t.c3,.int .i64 t.c4]:=rfl
 rw[ac]
 have ab:=bMh t
 generalize aa:t.col=col at*
 generalize ad:([.int .i64 t.c0,.int .i64 t.c1,.int .i64 t.c2,.int .i64 t.c3,.int .i64 t.c4]:List Value)=cs at*
 have ag:cs.length=5:=by rw[←ad];rfl
 have ae:(Value.agg cs.toArray).cells=cs.toArray:=rfl
 refine Ct.go Tryz.func67 Tryz.ntmps67 fun w0=> ?_
 repeat(refine st ?_;intros)
 rename_i b2
 refine G.loop (X:=Nat) (fun i=>i≤5∧∀j,j<i→k≤j→col j=0) (fun i=>[(5,.int .i64 (i:Int)),(2,pv b2),(1,.int .i64 (k:Int))]) (fun _=>[[(b2,row cs 33)]]) (fun i=>5-i) 0 ⟨oM,oM⟩ (body:= ?_)
 rintro i ⟨hi,hz⟩
 by_cases h5:i<5
 ·have hg:=ab i h5
  have e1:AJ .i64 ((i:Int)+1)=((i+1:Nat):Int):=by rw[aAd oM];rfl
  by_cases hk:k≤i
  ·by_cases hc:col i=0
   ·repeat(refine st ?_;intros)
    exact Dn.round (i+1) ⟨oM,fun j h1 h2=>by
     rcases Nat.lt_or_ge j i with h3|h3
     ·exact hz j h3 h2
     ·obtain rfl:j=i:=by omega
      exact hc⟩ oM
   ·have hf:aNi k t=false:=by
     rw[Bool.eq_false_iff]
     intro h
     have h2:=aPm.1 h i h5 hk
     rw[aa] at h2
     exact hc h2
    rw[hf]
    repeat(refine st ?_;intros)
    (refine Dn.post (Hr:=[]) Tryz.results67 (hR:= ?_);exact⟨rfl,rfl⟩)
  ·repeat(refine st ?_;intros)
   exact Dn.round (i+1) ⟨oM,fun j h1 h2=>hz j oM h2⟩ oM
 ·obtain rfl:i=5:=by omega
  have hf:aNi k t=true:=by
   rw[aPm,aa];exact hz
  rw[hf]
  repeat(refine st ?_;intros)
  (refine Dn.post (Hr:=[]) Tryz.results67 (hR:= ?_);exact⟨rfl,rfl⟩)
theorem All_ct (p:Option Addr) (n cap:Nat) (ts:List T5) (c:aAc) (hv:RV p n ts c) (hn:n≤1000000000) (k:Nat):CtQ AC 30 [.slice p n cap,.int .i64 (k:Int)] [c] (.bool (ts.all (aNi k))):=by
 refine Ct.go Tryz.func30 Tryz.ntmps30 fun w0=> ?_
 repeat(first|(refine st ?_;intros)|refine cq hF ?_)
 refine G.loop (X:=Nat) (fun i=>i≤n∧∀t∈ts.take i,aNi k t=true) (fun i=>[(5,.int .i64 (i:Int)),(0,.slice p n cap),(1,.int .i64 (k:Int))]) (fun _=>[c]) (fun i=>n-i) 0 ⟨AS _,by simp⟩ (body:= ?_)
 rintro i ⟨hi,hz⟩
 have ab:=hv.1
 by_cases h0:i<n
 ·obtain⟨b,off,cs,T,fz,rfl,rfl,hr⟩:=hv.pos oM
  have hj:=hr i h0
  have aa:i<ts.length:=oM
  have ad:ts.getD i ⟨0,0,0,0,0⟩=ts[i]:=by simp[AN,aa]
  have ae:ts.take (i+1)=ts.take i++[ts[i]]:=by rw[BP];simp[aa]
  rw[ad] at hj
  have hF:=bRa ts[i] k
  have ac:ts[i]∈ts:=B5 aa
  have e1:AJ .i64 ((i:Int)+1)=((i+1:Nat):Int):=by rw[aAd oM];rfl
  generalize ts[i]=t at*
  have ag:tv t= .agg #[.int .i64 t.c0,.int .i64 t.c1,.int .i64 t.c2,.int .i64 t.c3,.int .i64 t.c4]:=rfl
  rw[ag] at hF
  simp only[aAk] at hj
  cases hft:aNi k t with
  |true=>
   rw[hft] at hF
   repeat(first|(refine st ?_;intros)|refine cq hF ?_)
   exact Dn.round (i+1) ⟨oM,fun u hu=>by
    rw[ae] at hu
    rcases AO.1 hu with hu|hu
    ·exact hz u hu
    ·simp only[AT] at hu;subst hu;exact hft⟩ oM
  |false=>
   rw[hft] at hF
   have hf:ts.all (aNi k)=false:=by
    rw[Bool.eq_false_iff]
    intro h
    rw[DU] at h
    rw[h t ac] at hft;cases hft
   rw[hf]
   repeat(first|(refine st ?_;intros)|refine cq hF ?_)
   (refine Dn.post (Hr:=[[(b,aBs cs T fz)]]) Tryz.results30 (hR:= ?_);exact⟨rfl,rfl⟩)
 ·obtain rfl:i=n:=by omega
  have hf:ts.all (aNi k)=true:=by
   rw[DU]
   intro t ht
   exact hz t (by rw[←ab,DF];exact ht)
  rw[hf]
  repeat(first|(refine st ?_;intros)|refine cq hF ?_)
  (refine Dn.post (Hr:=[c]) Tryz.results30 (hR:= ?_);exact⟨rfl,rfl⟩)
theorem bRb (p:Option Addr) (n cap:Nat) (ts:List T5) (c:aAc) (hv:RV p n ts c) (hn:n≤1000000000) (p2:Option Addr) (n2 aa:Nat) (us:List T5) (c2:aAc) (ad:RV p2 n2 us c2):
  CtQ AC 29 [.slice p n cap,.slice p2 n2 aa] [c,c2] (.bool (decide (ts=us))):=by
 have au:=hv.1
 have aj:=ad.1
 by_cases ak:n=n2
 ·subst ak
  refine Ct.go Tryz.func29 Tryz.ntmps29 fun w0=> ?_
  repeat(refine sv ?_;intros)
  refine G.loop (X:=Nat) (fun i=>i≤n∧ts.take i=us.take i) (fun i=>[(5,.int .i64 (i:Int)),(0,.slice p n cap),(1,.slice p2 n aa)]) (fun _=>[c,c2]) (fun i=>n-i) 0 ⟨AS _,by simp⟩ (body:= ?_)
  rintro i ⟨hi,hz⟩
  by_cases h0:i<n
  ·obtain⟨b,off,cs,T,fz,rfl,rfl,hr⟩:=hv.pos oM
   obtain⟨b2,av,al,T2,am,rfl,rfl,an⟩:=ad.pos oM
   have hj:=hr i h0
   have ae:=an i h0
   have ag:i<ts.length:=oM
   have ab:i<us.length:=oM
   have ao:ts.getD i ⟨0,0,0,0,0⟩=ts[i]:=by simp[AN,ag]
   have ah:us.getD i ⟨0,0,0,0,0⟩=us[i]:=by simp[AN,ab]
   have ap:ts.take (i+1)=ts.take i++[ts[i]]:=by rw[BP];simp[ag]
   have ai:us.take (i+1)=us.take i++[us[i]]:=by rw[BP];simp[ab]
   have aq:ts[i]≠us[i]→ts≠us:=fun h e=>h (by subst e;rfl)
   rw[ao] at hj
   rw[ah] at ae
   have e1:AJ .i64 ((i:Int)+1)=((i+1:Nat):Int):=by rw[aAd oM];rfl
   generalize ts[i]=t at*
   generalize us[i]=u at*
   simp only[aAk] at hj ae
   by_cases ac:t=u
   ·subst ac
    repeat(refine sv ?_;intros)
    exact Dn.round (i+1) ⟨oM,by rw[ap,ai,hz]⟩ oM
   ·rw[decide_eq_false (aq ac)]
    have aw:¬(t.c0=u.c0∧t.c1=u.c1∧t.c2=u.c2∧t.c3=u.c3∧t.c4=u.c4):=fun ⟨h0,h1,h2,h3,h4⟩=>ac (by cases t;cases u;simp_all)
    repeat(refine sv ?_;intros)
    (refine Dn.post (Hr:=[[(b,aBs cs T fz)],[(b2,aBs al T2 am)]]) Tryz.results29 (hR:= ?_);exact⟨rfl,rfl⟩)
  ·obtain rfl:i=n:=by omega
   have hf:ts=us:=by
    have h1:=A4 (l:=ts) (i:=i) oM
    have h2:=A4 (l:=us) (i:=i) oM
    rw[←h1,←h2,hz]
   rw[decide_eq_true hf]
   repeat(refine sv ?_;intros)
   (refine Dn.post (Hr:=[c,c2]) Tryz.results29 (hR:= ?_);exact⟨rfl,rfl⟩)
 ·rw[decide_eq_false (by intro e;subst e;omega)]
  refine Ct.go Tryz.func29 Tryz.ntmps29 fun w0=> ?_
  repeat(refine sv ?_;intros)
  (refine Dn.post (Hr:=[c,c2]) Tryz.results29 (hR:= ?_);exact⟨rfl,rfl⟩)
def aFb (b:Nat):Nat:=(b+(b/3+1))*(1+lgq (b/3+1))
def aZc (b:Nat):Nat:=b+(b+(b/3+1))*(1+2*lgq (b/3+1))
theorem aZd {s k n L c q S:Nat} (hs:8≤s) (ac:1≤k) (aa:k≤5) (h5:5*s≤L) (hc:c=(L-2*s)/k) (hS:S*aAf s k≤n+q*(aAf s k-1)) (ae:(q-1)*c≤n) (ab:0<n→(q-1)*c<n):
  q≤aAb s k n/3+1∧S≤aAb s k n+(aAb s k n/3+1):=by
 have hp:1≤aAf s k:=aAl hs ac aa
 have ad:3*aAf s k≤c:=by
  rw[hc,CN oM]
  have h1:aAf s k*k≤s-2:=DN _ _
  rw[Nat.mul_assoc];omega
 have ag:n≤aAb s k n*aAf s k:=by
  unfold aAb
  generalize aAf s k=h at*
  have:=Nat.div_add_mod (n+h-1) h
  have h2:=EH (n+h-1) (show 0<h by omega)
  rw[EK] at this
  omega
 generalize aAb s k n=b at*
 generalize aAf s k=h at*
 have hq:q≤b/3+1:=by
  rcases Nat.eq_zero_or_pos n with rfl|hn
  ·have h1:(q-1)*1≤(q-1)*c:=B7 _ oM
   omega
  ·have h1:(q-1)*(3*h)≤(q-1)*c:=B7 _ ad
   have h2:=ab hn
   have h3:(q-1)*3*h<b*h:=by rw[Nat.mul_assoc];omega
   have h4:(q-1)*3<b:=Nat.lt_of_mul_lt_mul_right h3
   omega
 refine⟨hq,?_⟩
 have h1:q*(h-1)≤q*h:=B7 _ oM
 have h2:S*h≤(b+q)*h:=by rw[DQ];omega
 have h3:S≤b+q:=Nat.le_of_mul_le_mul_right h2 oM
 omega
theorem fo_sub {d:Nat→Option (List Int)} {s:Nat} {f:Fl} {ts:List T5} {live l0:List Ext} (h:aAq d s [f.ext] f ts) (hl:live.Perm (aCj f l0)):∃Lv,aAq d s Lv f ts∧∀e∈Lv,e∈live:=by
 by_cases hb:f.blocks=0
 ·exact⟨[],{h with live:=fun e=>absurd hb e},by simp⟩
 ·refine⟨[f.ext],h,fun e he=> ?_⟩
  simp only[AT] at he;subst he
  unfold aCj at hl;rw[if_neg hb] at hl
  exact hl.mem_iff.2 AH
theorem aKg {bd ba bs:Nat} {W W':Wk} {cd ca cs ab ac aa:aAc} (h:Wc bd ba bs W cd ca cs) (h':Wc bd ba bs W' ab ac aa) (hg:W'.α.gs.Perm W.α.gs):W'.α.used=W.α.used:=by
 rw[h'.ar.num.2.2.2,(hg.map (·.n)).sum_nat,←h.ar.num.2.2.2]
theorem bMi {b m l:Nat} (h:b≤m) (hl:m/3+1≤4^l):aFb b≤(m+(m/3+1))*(1+l):=by
 unfold aFb
 have h1:=aTc l (b/3+1) oM
 exact DG oM oM
theorem aZe {b:Nat} (h:b≤1000):aZc b≤20000:=by
 unfold aZc
 have h1:=aTc 5 (b/3+1) oM
 have h2:(b+(b/3+1))*(1+2*lgq (b/3+1))≤1334*11:=DG oM oM
 omega
theorem aMk (f:Fl) (l:List Ext):aBg (aCj f l)=f.blocks+aBg l:=by
 unfold aCj
 split
 ·rename_i h;rw[h];simp
 ·simp[aBg,Fl.ext]
theorem bRc {bd ba bs:Nat} {W:Wk} {cd ca cs:aAc} (h:Wc bd ba bs W cd ca cs) {l:List Ext} (hl:W.live.Perm l):aBg W.σ.free+aBg l=W.σ.n:=by
 rw[←aFy hl];exact h.live.sum
theorem Sort_u (bw bd ba bs:Nat) (W:Wk) (cd ca cs:aAc) (h:Wc bd ba bs W cd ca cs) (f:Fl) (fts:List T5) (live0:List Ext) (aa:aAq W.δ.disk W.δ.size [f.ext] f fts) (ab:W.live.Perm (aCj f live0)) (o:T5) (ho:aGj o=true) (once:Bool)
  (hr:5*W.δ.size≤W.α.room-W.α.used) (ac:W.δ.acts≤1000000000) (ad:f.count≤100000):
  Ct AC 127 [pv bw,flv f,tv o,.bool once] [aAi bw bd ba bs,cd,ca,cs] fun v H'=>
   ∃cd' ca' cs' W',H'=[aAi bw bd ba bs,cd',ca',cs']∧Wc bd ba bs W' cd' ca' cs'∧Ev W W' (aZc f.blocks) (aFb f.blocks)∧W'.α.gs.Perm W.α.gs∧aBv live0 W W'∧
    ((∃g out,v= .tuple #[flv g,.int .i64 0]∧W'.live.Perm (aCj g live0)∧g.width=f.width∧g.count≤f.count∧aAq W'.δ.disk W.δ.size [g.ext] g out∧Sd (ltO o) once out∧Go.Srt.Sp (ltO o) once fts out)∨
     (v= .tuple #[flv ⟨0,0,0,0⟩,.int .i64 5]∧big W.σ.free<aFb f.blocks∧W'.live.Perm W.live∧aBv W.live W W')∨
     (v= .tuple #[flv ⟨0,0,0,0⟩,.int .i64 6]∧W.δ.fault≠-1∧W'.live.Perm W.live∧aBv W.live W W')):=by
 refine(bQz bw bd ba bs W cd ca cs h f fts live0 aa ab o ho once hr ac ad _ rfl).mono ?_
 rintro v H' ⟨cd',ca',cs',W',q,S,P,rfl,hW,hE,hg,hS,ae,ag,hP,hK,hc⟩
 obtain⟨⟨ah,aj⟩,_⟩:=h.dev.num
 obtain⟨h1,h2⟩:=aZd ah aa.w1 aa.w2 hr rfl hS ae ag
 rw[←aa.blk] at h1 h2 hE
 have ai:P≤lgq (f.blocks/3+1):=BB hP (aTb h1)
 have hm:S*P≤(f.blocks+(f.blocks/3+1))*lgq (f.blocks/3+1):=DG h2 ai
 have hT:S+S*P≤aFb f.blocks:=by unfold aFb;rw[Nat.mul_add,Nat.mul_one];omega
 have hA:f.blocks+S+2*S*P≤aZc f.blocks:=by
  unfold aZc
  rw[Nat.mul_add,Nat.mul_one,Nat.mul_left_comm,Nat.mul_assoc]
  omega
 refine⟨cd',ca',cs',W',rfl,hW,hE.weak hA hT,hg,hK,?_⟩
 rcases hc with hc|⟨e,hb,hc⟩|hc
 ·exact .inl hc
 ·exact .inr (.inl ⟨e,oM,hc⟩)
 ·exact .inr (.inr hc)
structure EachX (K:Type) where
 i:Nat
 cd:aAc
 ca:aAc
 cs:aAc
 cx:aAc
 cb:aAc
 W:Wk
 k:K
def cat (l:List (Fl×List T5)):List T5:=l.flatMap (·.2)
def aFf (κ:Nat) (l:List (Fl×List T5)):Nat:=(l.map fun x=>x.1.blocks+x.1.count*κ).sum
theorem bBu {l:List (Fl×List T5)} {i:Nat} {x:Fl×List T5} (h:l[i]? =some x):cat (l.take (i+1))=cat (l.take i)++x.2:=by
 unfold cat;rw[BP,h];simp
theorem bHt {κ:Nat} {l:List (Fl×List T5)} {i:Nat} {x:Fl×List T5} (h:l[i]? =some x):aFf κ (l.take (i+1))=aFf κ (l.take i)+(x.1.blocks+x.1.count*κ):=by
 unfold aFf;rw[BP,h];simp
theorem bHu {κ:Nat} (l:List (Fl×List T5)) (i:Nat):aFf κ (l.take i)≤aFf κ l:=by
 have:aFf κ l=aFf κ (l.take i)+aFf κ (l.drop i):=by unfold aFf;rw[←List.sum_append_nat,←AX,BV]
 omega
theorem bHv (l:List (Fl×List T5)) (i:Nat):cat l=cat (l.take i)++cat (l.drop i):=by unfold cat;rw[←CF,BV]
theorem eQ1:flv ⟨0,0,0,0⟩= .agg #[.int .i64 0,.int .i64 0,.int .i64 0,.int .i64 0]:=rfl
theorem bRd (bw bd ba bs:Nat) {K:Type} (M:aAt K) (k0:K) (W:Wk) (cd ca cs:aAc) (h:Wc bd ba bs W cd ca cs) (width bound κ:Nat) (a5:1≤width) (ao:width≤5) (cj:bound≤100000000)
  (mk:Nat) (bp:Callable AC mk) (fs us:List Value) (ok:K→T5→Prop) (hM:aFt M width ok mk fs us) (hκ:∀k t,ok k t→(M.outs k t).length≤κ) (cu:κ≤10000)
  (l:List (Fl×List T5)) (hl:∀x∈l,aBm W x∧x.1.count≤1000000) (p:Option Addr) (cap:Nat) (cf:aAc) (hV:Vec 42 4 p l.length cap (aAj (l.map (·.1))) cf)
  (bo:M.oks ok k0 (cat l)) (cm:(M.all k0 (cat l)).length≤bound) (hr:2*W.δ.size≤W.α.room-W.α.used) (ds:W.δ.acts+aFf κ l≤10000000000):
  Ct AC 116 [pv bw,.int .i64 (width:Int),.int .i64 (bound:Int),.func (.func mk) fs.toArray us.toArray,.slice p l.length cap] [aAi bw bd ba bs,cd,ca,cs,cf,(M.C k0).flatten] fun v H'=>
   ∃cd' ca' cs' W' k',H'=[aAi bw bd ba bs,cd',ca',cs',cf,(M.C k').flatten]∧Wc bd ba bs W' cd' ca' cs'∧Ev W W' (aFf κ l+1) (aAb W.δ.size width bound)∧W'.α.gs.Perm W.α.gs∧aBv W.live W W'∧
    ((∃f,v= .tuple #[flv f,.int .i64 0]∧M.bad k0 (cat l)=none∧k'=M.st k0 (cat l)∧W'.live.Perm (aCj f W.live)∧f.width=width∧f.count=(M.all k0 (cat l)).length∧aAq W'.δ.disk W.δ.size [f.ext] f (M.all k0 (cat l)))∨
     (∃e:Int,v= .tuple #[flv ⟨0,0,0,0⟩,.int .i64 e]∧e≠0∧W'.live.Perm W.live∧((e=6∧W.δ.fault≠-1)∨(e=5∧big W.σ.free<aAb W.δ.size width bound)∨∃n:Nat,M.bad k0 (cat l)=some n∧e=(n:Int)))):=by
 obtain⟨⟨cv,dt⟩,_⟩:=h.dev.num
 have hh:=aAl cv a5 ao
 have cw:=aKd bw bd ba bs W cd ca cs h width bound a5 ao cj oM
 have du:=hV.1
 have cz:l.length≤maxLen:=by
  rcases hV.2 with⟨_,e,_⟩|⟨_,_,_,_,_,h1,h2⟩
  ·omega
  ·omega
 simp only[maxLen] at cz
 have hz:=eQ1
 refine Ct.introD Tryz.func116 rfl Tryz.ntmps116 (nle rfl) fun w0=> ?_;dsimp only[aAa,AD]
 repeat(refine st ?_;intros)
 apply R.call
 ·exact rfl
 ·exact cw
 ·exact oA1
 ·exact rfl
 ·exact nle rfl
 rintro _ _ (⟨dg,bx,first,g,cd',ca',cs',W1,cx,cb,rfl,rfl,ay,ap,e1,e2,e3,e4,e5⟩|⟨a6,rfl,cd',ca',cs',W1,rfl,ay,ap,e1,e2,e3⟩)
 ·repeat(refine st ?_;intros)
  rename_i b8 bq a7
  have dh:W1.α.used=W.α.used+W.δ.size:=by
   rw[ay.ar.num.2.2.2,(e2.map (·.n)).sum_nat,h.ar.num.2.2.2];simp[e3];omega
  have di:W1.α.room=W.α.room:=ap.room
  have dj:W1.δ.size=W.δ.size:=ap.size
  refine G.loop (X:=EachX K) (fun x=>x.i≤l.length∧Wc bd ba bs x.W x.cd x.ca x.cs∧Ev W x.W (aFf κ (l.take x.i)) (aAb W.δ.size width bound)∧aBv W.live W x.W∧x.W.α.gs.Perm (g::W.α.gs)∧aDv first (aAb W.δ.size width bound) W.live x.W.live∧
    aHy bw bx x.W first (aAb W.δ.size width bound) width bound g (M.all k0 (cat (l.take x.i))) x.cx x.cb∧x.k=M.st k0 (cat (l.take x.i))∧M.bad k0 (cat (l.take x.i))=none)
   (fun x=>[(31,.int .i64 (x.i:Int)),(30,.int .i64 (l.length:Int)),(29,.slice p l.length cap),(12,pv a7),(10,pv bq),(8,pv b8),(0,pv bw)])
   (fun x=>[[(b8,row [.func (.func mk) fs.toArray us.toArray] 91)],[(a7,row [pv bx] 122)],[(bq,row [.int .i64 0,.int .i64 0,.int .i64 0,.int .i64 0] 42)],aAi bw bd ba bs,x.cd,x.ca,x.cs,x.cx,x.cb,cf,(M.C x.k).flatten]) (fun x=>l.length-x.i) ⟨0,cd',ca',cs',cx,cb,W1,k0⟩
   ⟨AS _,ay,by simpa[aFf] using ap,fun x _=>by rw[e1],e2,e4,by simpa[cat,aAt.all] using e5,by simp[cat,aAt.st],by simp[cat,aAt.bad]⟩ (body:= ?_)
  rintro⟨i,bu,bv,bz,b1,b2,W2,k2⟩ ⟨hi,az,ab,aj,a0,a8,a1,ac,ak⟩
  dsimp only at hi az ab aj a0 a8 a1 ac ak⊢
  have ah:W2.δ.size=W.δ.size:=ab.size
  have dk:W2.α.room=W.α.room:=ab.room
  have dl:W2.α.used=W.α.used+W.δ.size:=by
   rw[az.ar.num.2.2.2,(a0.map (·.n)).sum_nat,h.ar.num.2.2.2];simp[e3];omega
  have dm:=ab.acts.2
  have dw:=bHu (κ:=κ) l i
  have dp:=bHu (κ:=κ) l (i+1)
  by_cases a9:i<l.length
  ·have a2:l[i]? =some l[i]:=AE a9
   obtain⟨⟨LvF,bc,a4⟩,c5⟩:=hl _ (B5 a9)
   have a3:=bHv l (i+1)
   rw[bBu a2] at a3
   have b3:M.oks ok k2 l[i].2:=by
    rw[a3] at bo
    rw[ac]
    exact((aAt.oks_app (aAt.oks_app bo).1).2 ak)
   have b4:(M.all k0 (cat (l.take i))).length+(M.all k2 l[i].2).length≤bound:=by
    rw[a3,aAt.all_app,aAt.all_app,AF,AF,←ac] at cm
    omega
   have be:=aYw bw bd ba bs M k2 (M.all k0 (cat (l.take i))) W2 bu bv bz az bx b8 a7 first width bound κ g W.α.gs W.live b1 b2 a0 (by rw[ah];exact a1) (by rw[ah];exact a8) l[i].1 l[i].2 LvF (by rw[ah];exact bc.keep (fun x ⟨e,he,h2⟩=>aj x ⟨e,a4 e he,h2⟩)) a4
    mk bp fs us ok hM hκ cu b3 b4 a5 ao oM oM c5
   rw[ah] at be
   obtain⟨vb,rest,rfl,rfl,dx,dy,dz⟩:∃b rest,p=some ⟨b,0,none⟩∧cf=[(b,row (aAj (l.map (·.1))++rest) 42)]∧cap*4≤(aAj (l.map (·.1))).length+rest.length∧l.length≤cap∧cap≤maxLen:=by
    rcases hV.2 with⟨_,e,_⟩|hh
    ·omega
    ·exact hh
   have dq:((aAj (l.map (·.1))++rest).drop (i*4)).take 4=_:=aJu a2
   have b5:=bHt (κ:=κ) a2
   have aq:=bBu a2
   have au:flv l[i].1= .agg #[.int .i64 (l[i].1.first:Int),.int .i64 (l[i].1.blocks:Int),.int .i64 (l[i].1.width:Int),.int .i64 (l[i].1.count:Int)]:=rfl
   rw[au] at be
   generalize hx:l[i]=x at*
   generalize hcells:aAj (l.map (·.1))++rest=cells at*
   repeat(refine st ?_;intros)
   refine R.call (hct:=be) (h:= ?_)
   rintro _ _ ⟨ad,ae,ag,W3,k3,av,bf,e,rfl,rfl,al,bg,am,hc⟩
   try dsimp only[AA,AB]
   have aa:=ab.trans bg
   rcases hc with⟨rfl,ai,aw,bh,c6,c7⟩|⟨he,c8,b6⟩
   ·repeat(refine st ?_;intros)
    refine Dn.round ⟨i+1,ad,ae,ag,av,bf,W3,k3⟩ ⟨a9,al,by rw[b5];exact aa,aj.trans am,ai,aw,?_,?_,?_⟩ oD
    ·rw[aq,aAt.all_app,←ac];exact bh
    ·rw[aq,aAt.st_app,←ac];exact c6
    ·rw[aq,aAt.bad_app,ak,←ac];exact c7
   ·have ax:(e=6∧W.δ.fault≠-1)∨∃n:Nat,M.bad k0 (cat l)=some n∧e=(n:Int):=by
     rcases b6 with⟨a,b⟩|⟨n,a,b⟩
     ·exact .inl ⟨a,aBj ab b⟩
     ·refine .inr ⟨n,?_,b⟩
      rw[a3,aAt.bad_app,aAt.bad_app,ak,←ac];dsimp only;rw[a]
    rcases c8 with⟨ai,aw,ps,bh⟩|⟨ai,aw,bi⟩
    ·have dr:W3.δ.size=W.δ.size:=aa.size
     have an:=aYt bw bd ba bs W3 ad ae ag al bx first _ width bound g ps av bf bh W.α.gs ai W.live aw
     repeat(refine st ?_;intros)
     refine Go.SL.Lv.call (hc:=an.2) (h:= ?_)
     rintro _ _ ⟨b7,b9,cg,W5,d0,d1,rfl,rfl,c9,da,db,dc,dd,d2⟩
     try dsimp only[AA,AB]
     (refine Go.SL.Lv.nil (Hr:=[aAi bw bd ba bs,b7,b9,cg,[(vb,row cells 42)],(M.C k3).flatten]) Tryz.results116 (hR:= ?_);exact⟨b7,b9,cg,W5,k3,rfl,c9,(aa.trans da).weak oM (AG _),dc,fun x hx=>by rw[db];exact(aj.trans am) x hx,.inr ⟨e,rfl,he,dd,by rcases ax with h|h;exact .inl h;exact .inr (.inr h)⟩⟩)
    ·have an:=aEy bx av bi
     repeat(refine st ?_;intros)
     refine Go.SL.Lv.call (hc:=an.2) (h:= ?_)
     rintro _ _ ⟨rfl,rfl⟩
     try dsimp only[AA,AB]
     (refine Go.SL.Lv.nil (Hr:=[aAi bw bd ba bs,ad,ae,ag,[(vb,row cells 42)],(M.C k3).flatten]) Tryz.results116 (hR:= ?_);exact⟨ad,ae,ag,W3,k3,rfl,al,aa.weak oM (AG _),ai,aj.trans am,.inr ⟨e,rfl,he,aw,by rcases ax with h|h;exact .inl h;exact .inr (.inr h)⟩⟩)
  ·obtain rfl:i=l.length:=by omega
   rw[DF] at a1 ac ak ab
   have d3:aAb W.δ.size width (M.all k0 (cat l)).length-(M.all k0 (cat l)).length/aAf W.δ.size width≤1:=by
    unfold aAb
    have h1:((M.all k0 (cat l)).length+aAf W.δ.size width-1)/aAf W.δ.size width≤((M.all k0 (cat l)).length+aAf W.δ.size width)/aAf W.δ.size width:=Nat.div_le_div_right oM
    rw[Nat.add_div_right _ oM] at h1
    omega
   have ci:=aPc bw bd ba bs W2 bu bv bz az bx first _ width bound g _ b1 b2 a1 W.α.gs a0 W.live a8 oM
   rw[ah] at ci
   repeat(refine st ?_;intros)
   refine R.call (hct:=ci) (h:= ?_)
   rintro _ _ ⟨ad,ae,ag,W3,av,bf,rfl,al,bg,am,ai,bi,hc⟩
   try dsimp only[AA,AB]
   have an:=aEy bx av bi
   have aa:=(ab.trans bg).weak (k':=aFf κ l+1) (m':=aAb W.δ.size width bound) oM (AG _)
   rcases hc with⟨f,rfl,bk,de,df,bc⟩|⟨rfl,hf,hδ,bk⟩
   ·have au:flv f= .agg #[.int .i64 (f.first:Int),.int .i64 (f.blocks:Int),.int .i64 (f.width:Int),.int .i64 (f.count:Int)]:=rfl
    rw[au]
    repeat(refine st ?_;intros)
    refine Go.SL.Lv.call (hc:=an.2) (h:= ?_)
    rintro _ _ ⟨rfl,rfl⟩
    try dsimp only[AA,AB]
    (refine Go.SL.Lv.nil (Hr:=[aAi bw bd ba bs,ad,ae,ag,cf,(M.C k2).flatten]) Tryz.results116 (hR:= ?_);exact⟨ad,ae,ag,W3,k2,rfl,al,aa,ai,aj.trans am,.inl ⟨f,rfl,ak,ac,by rw[bk];exact .refl _,de,df,bc⟩⟩)
   ·rw[hz]
    repeat(refine st ?_;intros)
    refine Go.SL.Lv.call (hc:=an.2) (h:= ?_)
    rintro _ _ ⟨rfl,rfl⟩
    try dsimp only[AA,AB]
    (refine Go.SL.Lv.nil (Hr:=[aAi bw bd ba bs,ad,ae,ag,cf,(M.C k2).flatten]) Tryz.results116 (hR:= ?_);exact⟨ad,ae,ag,W3,k2,rfl,al,aa,ai,aj.trans am,.inr ⟨6,rfl,oM,bk,.inl ⟨rfl,fun e=>by have:=ab.fault e;omega⟩⟩⟩)
 ·repeat(refine st ?_;intros)
  (refine Go.SL.Lv.nil (Hr:=[aAi bw bd ba bs,cd',ca',cs',cf,(M.C k0).flatten]) Tryz.results116 (hR:= ?_);exact⟨cd',ca',cs',W1,k0,rfl,ay,ap.weak (AS _) (AS _),e3,fun x _=>by rw[e1],.inr ⟨5,rfl,oM,by rw[e2],.inr (.inl ⟨rfl,a6⟩)⟩⟩)
theorem aWl:∀(pts:List Nat) (live:List Ext),(∀x∈pts,inF live x)→pts.Pairwise (fun x y=>∃z,x<z∧z<y∧¬inF live z)→pts.length≤live.length
 |[],_,_,_=>AS _
 |x::pts,live,h,hp=>by
  obtain⟨e,he,h1,h2⟩:=h x AH
  obtain⟨l1,l2,rfl⟩:=List.append_of_mem he
  have ab:∀z,¬inF (l1++e::l2) z→¬inF (l1++l2) z:=by
   rintro z hz ⟨y,hy,h3⟩
   exact hz ⟨y,by simp at hy⊢;rcases hy with h|h;exact .inl h;exact .inr (.inr h),h3⟩
  obtain⟨hx,hr⟩:=List.pairwise_cons.1 hp
  have:=aWl pts (l1++l2) (fun y hy=> ?_) (hr.imp fun ⟨z,a,b,c⟩=>⟨z,a,b,ab z c⟩)
  ·simp only[AF,AL] at this⊢;omega
  ·obtain⟨e2,aa,h3,h4⟩:=h y (AI _ hy)
   obtain⟨z,ad,ae,ac⟩:=hx y hy
   simp only[AO,AM] at aa
   rcases aa with aa|rfl|aa
   ·exact⟨e2,BO _ aa,h3,h4⟩
   ·exact absurd ⟨e2,he,oM,oM⟩ ac
   ·exact⟨e2,List.mem_append_right _ aa,h3,h4⟩
theorem aWm:∀(l:List Ext),aBg l≤l.length*big l
 |[]=>AS _
 |e::l=>by
  have h1:=aWm l
  have h2:e.2≤big (e::l):=bFx AH
  have h3:big l≤big (e::l):=by rw[show e::l=[e]++l from rfl,aYi];omega
  have h4:=B7 l.length h3
  simp only[aBg,AZ,DM,AL,BG] at h1⊢
  omega
theorem bMj {σ:Sp} {live:List Ext} (h:aVo σ live) (hf:fok σ.n σ.free):σ.free.length≤live.length+1:=by
 cases hfr:σ.free.reverse with
 |nil=>
      have:σ.free=[]:=by simpa using hfr
      rw[this];simp
 |cons e r=>
  have he:σ.free=r.reverse++[e]:=by rw[←List.reverse_reverse σ.free,hfr];simp
  have ac:=hf
  rw[he,aCu] at ac
  obtain⟨h1,h2,h3⟩:=ac
  have:=aWl (r.reverse.map fun a=>a.1+a.2) live ?_ ?_
  ·rw[he];simp at this⊢;omega
  ·intro x hx
   obtain⟨a,ha,rfl⟩:=AU.1 hx
   have h4:=h3 a ha e AH
   have h5:=h2.1 e AH
   have h6:a.1+a.2<σ.n:=oM
   cases hc:Classical.propDecidable (inF live (a.1+a.2)) with
   |isTrue h=>exact h
   |isFalse hn=>
    exfalso
    obtain⟨b,hb,h7,h8⟩:=(h.free _ h6).2 hn
    rw[he] at hb
    rcases AO.1 hb with hb|hb
    ·have ad:=h1.2
     have ae:a=b∨a.1+a.2<b.1∨b.1+b.2<a.1:=by
      by_cases ab:a=b
      ·exact .inl ab
      ·right
       obtain⟨i,hi,rfl⟩:=CU ha
       obtain⟨j,hj,rfl⟩:=CU hb
       rcases Nat.lt_trichotomy i j with aa|aa|aa
       ·exact .inl (BJ.1 ad i j hi hj aa)
       ·subst aa;exact absurd rfl ab
       ·exact .inr (BJ.1 ad j i hj hi aa)
     rcases ae with rfl|h9|h9<;>omega
    ·simp only[AT] at hb;subst hb;omega
  ·rw[List.pairwise_map]
   refine(h1.2.and (List.pairwise_of_forall_mem_list (fun a ha b hb=>(⟨ha,hb⟩:a∈r.reverse∧b∈r.reverse)))).imp ?_
   rintro a b ⟨ab,ha,hb⟩
   have ah:=h1.1 b hb
   have ag:b∈σ.free:=by rw[he];exact BO _ hb
   exact⟨b.1,ab,oM,(h.free b.1 (by have:=hf.1 b ag;omega)).1 ⟨b,ag,AG _,oM⟩⟩
theorem aTe {σ:Sp} {live:List Ext} (h:aVo σ live) (hf:fok σ.n σ.free) {m:Nat} (hm:m*(live.length+1)+aBg live≤σ.n):m≤big σ.free:=by
 have h1:=aWm σ.free
 have h2:=bMj h hf
 have h3:=h.sum
 by_cases aa:m≤big σ.free
 ·exact aa
 ·exfalso
  have h4:σ.free.length*big σ.free≤(live.length+1)*big σ.free:=A7 _ h2
  have h5:(live.length+1)*(big σ.free+1)≤(live.length+1)*m:=B7 _ oM
  rw[Nat.mul_succ] at h5
  rw[EK m] at hm
  omega
end Go.Proofs.YtaofijjjheiknaaGreat
namespace Go.Srt
set_option linter.unusedSectionVars false
variable {α:Type} {lt:α→α→Bool}
def aWn (lt:α→α→Bool) (once:Bool) (x:α):List α→List α
 |[]=>[x]
 |y::l=>if lt y x then y::aWn lt once x l else if once&& !lt x y then x::l else x::y::l
def srt (lt:α→α→Bool) (once:Bool):List α→List α
 |[]=>[]
 |x::l=>aWn lt once x (srt lt once l)
theorem aTf {once:Bool} {x z:α}:∀{l:List α},z∈aWn lt once x l→z=x∨z∈l
 |[],h=>by simpa[aWn] using h
 |y::l,h=>by
  unfold aWn at h
  split at h
  ·rcases List.mem_cons.1 h with rfl|h
   ·exact .inr List.mem_cons_self
   ·exact(aTf h).imp id (List.mem_cons_of_mem _)
  ·split at h
   ·rcases List.mem_cons.1 h with rfl|h
    ·exact .inl rfl
    ·exact .inr (List.mem_cons_of_mem _ h)
   ·rcases List.mem_cons.1 h with rfl|h
    ·exact .inl rfl
    ·exact .inr h
theorem aWo (h:Swo lt) {a b c:α} (h1:lt b a=false) (h2:lt b c=true):lt a c=true:=by
 cases h3:lt a c with
 |true=>rfl
 |false=>have:=h.ntrans b a c h1 h3;rw[this] at h2;cases h2
theorem bHw (h:Swo lt) {once:Bool} {x:α}:∀{l:List α},Sd lt once l→Sd lt once (aWn lt once x l)
 |[],_=>by simp[aWn,Sd]
 |y::l,hs=>by
  obtain⟨h1,h2⟩:=List.pairwise_cons.1 hs
  have ab:Sd lt once l:=h2
  unfold aWn
  split
  ·rename_i aa
   refine List.pairwise_cons.2 ⟨fun z hz=> ?_,bHw h ab⟩
   rcases aTf hz with rfl|hz
   ·cases once with
    |true=>exact aa
    |false=>exact h.asym _ _ aa
   ·exact h1 z hz
  ·rename_i aa
   have aa:lt y x=false:=by simpa using aa
   split
   ·rename_i ho
    simp only[Bool.and_eq_true,Bool.not_eq_true'] at ho
    refine List.pairwise_cons.2 ⟨fun z hz=> ?_,ab⟩
    have:=h1 z hz
    rw[ho.1] at this⊢
    simp only[if_true] at this⊢
    exact aWo h aa this
   ·rename_i ho
    refine List.pairwise_cons.2 ⟨fun z hz=> ?_,hs⟩
    cases once with
    |false=>
     rcases List.mem_cons.1 hz with rfl|hz
     ·exact aa
     ·exact h.ntrans _ _ _ (h1 z hz) aa
    |true=>
     have ac:lt x y=true:=by simpa using ho
     rcases List.mem_cons.1 hz with rfl|hz
     ·exact ac
     ·have:=h1 z hz
      simp only[if_true] at this⊢
      exact aWo h (h.asym _ _ ac) this
theorem bHx (h:Swo lt) {once:Bool} {x:α}:∀(l:List α),Sp lt once (x::l) (aWn lt once x l)
 |[]=>Sp.refl _ _
 |y::l=>by
  unfold aWn
  split
  ·rename_i aa
   have e1:Sp lt once ([x]++[y]++l) ([y]++[x]++l):=Sp.app (Sp.swap h (by simpa using aa)) (Sp.refl _ _)
   exact Sp.trans e1 (Sp.app (a:=[y]) (b:=[y]) (Sp.refl _ _) (bHx h l))
  ·rename_i aa
   have aa:lt y x=false:=by simpa using aa
   split
   ·rename_i ho
    simp only[Bool.and_eq_true,Bool.not_eq_true'] at ho
    obtain⟨rfl,ab⟩:=ho
    intro c
    have he:eqv lt x y=true:=aCv.2 ⟨ab,aa⟩
    simp only[List.filter_cons]
    cases hc:eqv lt c x with
    |true=>simp[aGz]
    |false=>
     cases hc2:eqv lt c y with
     |true=>have:=aKx h hc2 (aNs he);rw[this] at hc;cases hc
     |false=>simp
   ·exact Sp.refl _ _
theorem aJv (h:Swo lt) (once:Bool):∀(l:List α),Sd lt once (srt lt once l)
 |[]=>List.Pairwise.nil
 |_::l=>bHw h (aJv h once l)
theorem bBv (h:Swo lt) (once:Bool):∀(l:List α),Sp lt once l (srt lt once l)
 |[]=>Sp.refl _ _
 |x::l=>Sp.trans (Sp.app (a:=[x]) (b:=[x]) (Sp.refl _ _) (bBv h once l)) (bHx h _)
theorem srt_is (h:Swo lt) {once:Bool} {l a:List α} (h1:Sd lt once a) (h2:Sp lt once l a):a=srt lt once l:=
 bQi h h1 (aJv h once l) (h2.symm.trans (bBv h once l))
theorem aWp {x:α}:∀(l:List α),(aWn lt false x l).Perm (x::l)
 |[]=> .refl _
 |y::l=>by
  unfold aWn
  split
  ·exact((aWp l).cons y).trans (.swap _ _ _)
  ·simp
theorem aBa:∀(l:List α),(srt lt false l).Perm l
 |[]=> .refl _
 |x::l=>(aWp _).trans ((aBa l).cons x)
theorem aDf {once:Bool}:∀{l:List α} {z:α},z∈srt lt once l→z∈l
 |[],_,h=>h
 |x::l,z,h=>by
  rcases aTf h with rfl|h
  ·exact List.mem_cons_self
  ·exact List.mem_cons_of_mem _ (aDf h)
theorem bBw {once:Bool} {x:α}:∀(l:List α),(aWn lt once x l).length≤l.length+1
 |[]=>Nat.le_refl _
 |y::l=>by
  unfold aWn
  have:=bBw (once:=once) (x:=x) l
  split
  ·simp only[List.length_cons];omega
  ·split
   ·simp
   ·simp
theorem bHy {once:Bool}:∀(l:List α),(srt lt once l).length≤l.length
 |[]=>Nat.le_refl _
 |x::l=>by
  have h1:=bBw (lt:=lt) (once:=once) (x:=x) (srt lt once l)
  have h2:=bHy (once:=once) l
  simp only[srt,List.length_cons];omega
end Go.Srt
namespace Go.Proofs.YtaofijjjheiknaaGreat
open Go.SL Go.Spc Go.Tup Go.Srt
def aFg (bj bw:Nat) (e:Int) (p:Option Addr) (n cap:Nat):aAc:=[(bj,row [pv bw,.int .i64 e,.slice p n cap] 98)]
theorem bHz (bj bw:Nat) (e0 e:Int) (p:Option Addr) (n cap:Nat) (fs:List Fl) (ch:aAc) (hV:Vec 42 4 p n cap (aAj fs) ch) (hn:n≤1000000) (f:Fl):
  Ct AC 115 [pv bj,flv f,.int .i64 e] [aFg bj bw e0 p n cap,ch] fun v H'=>v=flv f∧
   ((e=0∧∃p' cap' ch',H'=[aFg bj bw 0 p' (n+1) cap',ch']∧Vec 42 4 p' (n+1) cap' (aAj (fs++[f])) ch')∨(e≠0∧H'=[aFg bj bw e p n cap,ch])):=by
 have aa:flv f= .agg #[.int .i64 (f.first:Int),.int .i64 (f.blocks:Int),.int .i64 (f.width:Int),.int .i64 (f.count:Int)]:=rfl
 rw[aa]
 unfold aFg
 by_cases he:e=0
 ·subst he
  refine Ct.go Tryz.func115 Tryz.ntmps115 fun w0=> ?_
  repeat(refine sv ?_;intros)
  rename_i p' cap' ch' ab
  (refine Dn.post (Hr:=[[(bj,row [pv bw,.int .i64 0,.slice p' (n+1) cap'] 98)],ch']) Tryz.results115 (hR:= ?_);exact⟨rfl,.inl ⟨rfl,p',cap',ch',rfl,by rw[aCq];exact ab⟩⟩)
 ·refine Ct.go Tryz.func115 Tryz.ntmps115 fun w0=> ?_
  repeat(refine sv ?_;intros)
  (refine Dn.post (Hr:=[[(bj,row [pv bw,.int .i64 e,.slice p n cap] 98)],ch]) Tryz.results115 (hR:= ?_);exact⟨rfl,.inr ⟨he,rfl⟩⟩)
theorem bRe (bj bw:Nat) (e:Int) (he:e≠0) (p:Option Addr) (n cap:Nat) (x1 x2 x3 x4:Value):
  CtQ AC 52 [pv bj,x1,x2,x3,x4] [aFg bj bw e p n cap] (flv ⟨0,0,0,0⟩):=by
 have aa:=eQ1
 rw[aa]
 unfold aFg
 refine Ct.go Tryz.func52 Tryz.ntmps52 fun w0=> ?_
 repeat(refine st ?_;intros)
 (refine Dn.post (Hr:=[[(bj,row [pv bw,.int .i64 e,.slice p n cap] 98)]]) Tryz.results52 (hR:= ?_);exact⟨rfl,rfl⟩)
def StepR (J:aAc) (Q:Fl→Int→aAc→Prop) (v:Value) (H':Hp):Prop:=∃f e aa,v= .tuple #[flv f,.int .i64 e]∧H'=[J,aa]∧Q f e aa
def KeptR (bj bw:Nat) (p:Option Addr) (n cap:Nat) (fs:List Fl) (ch:aAc) (Q:Fl→Int→aAc→Prop) (v:Value) (H':Hp):Prop:=∃f e ab,v=flv f∧Q f e ab∧
 ((e=0∧∃p' aa ac,H'=[aFg bj bw 0 p' (n+1) aa,ac,ab]∧Vec 42 4 p' (n+1) aa (aAj (fs++[f])) ac)∨(e≠0∧H'=[aFg bj bw e p n cap,ch,ab]))
theorem bMk (bj bw:Nat) (p:Option Addr) (n cap:Nat) (fs:List Fl) (ch:aAc) (hV:Vec 42 4 p n cap (aAj fs) ch) (hn:n≤1000000) (x1 x2 x3 x4:Value) (Hc:aAc) (Q:Fl→Int→aAc→Prop)
  (hE:Ct AC 116 [pv bw,x1,x2,x3,x4] [Hc] fun v H'=>∃f e Hc',v= .tuple #[flv f,.int .i64 e]∧H'=[Hc']∧Q f e Hc'):
  Ct AC 52 [pv bj,x1,x2,x3,x4] [aFg bj bw 0 p n cap,ch,Hc] (KeptR bj bw p n cap fs ch Q):=by
 have hK:=fun f e=>bHz bj bw 0 e p n cap fs ch hV hn f
 unfold aFg at hK⊢
 refine Ct.go Tryz.func52 Tryz.ntmps52 fun w0=> ?_
 repeat(refine st ?_;intros)
 refine R.call (hct:=hE) (h:= ?_)
 rintro _ _ ⟨f,e,Hc',rfl,rfl,hQ⟩
 try dsimp only[AA,AB]
 have ab:flv f= .agg #[.int .i64 (f.first:Int),.int .i64 (f.blocks:Int),.int .i64 (f.width:Int),.int .i64 (f.count:Int)]:=rfl
 have ac:=hK f e
 rw[ab] at ac⊢
 repeat(refine st ?_;intros)
 refine R.call (hct:=ac) (h:= ?_)
 rintro _ _ ⟨rfl,⟨rfl,p',aa,ad,rfl,ae⟩|⟨he,rfl⟩⟩
 try dsimp only[AA,AB]
 ·repeat(refine st ?_;intros)
  (refine Dn.post (Hr:=[[(bj,row [pv bw,.int .i64 0,.slice p' (n+1) aa] 98)],ad,Hc']) Tryz.results52 (hR:= ?_);exact⟨f,0,Hc',rfl,hQ,.inl ⟨rfl,p',aa,ad,rfl,ae⟩⟩)
 ·repeat(refine st ?_;intros)
  (refine Dn.post (Hr:=[[(bj,row [pv bw,.int .i64 e,.slice p n cap] 98)],ch,Hc']) Tryz.results52 (hR:= ?_);exact⟨f,e,Hc',rfl,hQ,.inr ⟨he,rfl⟩⟩)
theorem Run_no (bj bw:Nat) (e:Int) (he:e≠0) (p:Option Addr) (n cap:Nat) (x1:Value):
  CtQ AC 60 [pv bj,x1] [aFg bj bw e p n cap] (flv ⟨0,0,0,0⟩):=by
 have aa:=eQ1
 rw[aa]
 unfold aFg
 refine Ct.go Tryz.func60 Tryz.ntmps60 fun w0=> ?_
 repeat(refine st ?_;intros)
 (refine Dn.post (Hr:=[[(bj,row [pv bw,.int .i64 e,.slice p n cap] 98)]]) Tryz.results60 (hR:= ?_);exact⟨rfl,rfl⟩)
theorem bRf (bj bw:Nat) (p:Option Addr) (n cap:Nat) (fs:List Fl) (ch:aAc) (hV:Vec 42 4 p n cap (aAj fs) ch) (hn:n≤1000000) (mk:Nat) (ac:Callable AC mk) (us:List Value) (Hc:aAc) (Q:Fl→Int→aAc→Prop)
  (hE:Ct AC mk us [aFg bj bw 0 p n cap,Hc] (StepR (aFg bj bw 0 p n cap) Q)):
  Ct AC 60 [pv bj,.func (.func mk) #[] us.toArray] [aFg bj bw 0 p n cap,ch,Hc] (KeptR bj bw p n cap fs ch Q):=by
 have hK:=fun f e=>bHz bj bw 0 e p n cap fs ch hV hn f
 unfold aFg at hK hE⊢
 refine Ct.go Tryz.func60 Tryz.ntmps60 fun w0=> ?_
 repeat(refine st ?_;intros)
 refine R.callV (fs:=[]) (vs:=[]) (hf:=ac) (hct:=hE) (h:= ?_)
 rintro _ _ ⟨f,e,aa,rfl,rfl,hQ⟩
 dsimp only[AA,AB]
 have ad:flv f= .agg #[.int .i64 (f.first:Int),.int .i64 (f.blocks:Int),.int .i64 (f.width:Int),.int .i64 (f.count:Int)]:=rfl
 have ae:=hK f e
 rw[ad] at ae⊢
 repeat(refine st ?_;intros)
 refine R.call (hct:=ae) (h:= ?_)
 rintro _ _ ⟨rfl,⟨rfl,p',ab,ag,rfl,ah⟩|⟨he,rfl⟩⟩
 try dsimp only[AA,AB]
 ·repeat(refine st ?_;intros)
  (refine Dn.post (Hr:=[[(bj,row [pv bw,.int .i64 0,.slice p' (n+1) ab] 98)],ag,aa]) Tryz.results60 (hR:= ?_);exact⟨f,0,aa,rfl,hQ,.inl ⟨rfl,p',ab,ag,rfl,ah⟩⟩)
 ·repeat(refine st ?_;intros)
  (refine Dn.post (Hr:=[[(bj,row [pv bw,.int .i64 e,.slice p n cap] 98)],ch,aa]) Tryz.results60 (hR:= ?_);exact⟨f,e,aa,rfl,hQ,.inr ⟨he,rfl⟩⟩)
theorem Ct.wide {P:Program} {f:FuncId} {args:List Value} {Hf:Hp} {R:Value→Hp→Prop} (h:Ct P f args Hf R) (F:Hp):Ct P f args (Hf++F) fun v H'=>∃H1,R v H1∧H'=H1++F:=by
 have h2:= @Ct.frame P f args Hf F R h
 unfold Ct
 exact fun w hw=>(h2 hw).mono fun e w' ⟨v,H',h3,h4,h5⟩=>⟨v,H'++F,h3,⟨H',h4,rfl⟩,h5⟩
open Classical in
theorem aEq {a b:aAc} (h:∀z,List.count z a=List.count z b):a.Perm b:=List.perm_iff_count.2 h
structure Jp where
 bw:Nat
 bd:Nat
 ba:Nat
 bs:Nat
 bj:Nat
 size:Nat
 room:Nat
 n:Nat
 gs:List Gr
 L0:List Ext
 D0:Nat→Option (List Int)
 fl:Prop
 b0:Nat
structure Jp.Ok (p:Jp):Prop where
 size:8≤p.size∧p.size≤256
 left:(p.gs.map (·.n)).sum+8*p.size≤p.room
structure Jb where
 e:Int
 er:Option Nat
 G:List (Fl×List T5)
 acts:Nat
 took:Nat
structure aLr (p:Jp) (J:Jb) (held:List (Fl×List T5)) (W:Wk):Prop where
 gs:W.α.gs.Perm p.gs
 room:W.α.room=p.room
 size:W.δ.size=p.size
 n:W.σ.n=p.n
 live:W.live.Perm (aAz (held.map (·.1)) p.L0)
 files:∀x∈held,aAq W.δ.disk p.size [x.1.ext] x.1 x.2
 len:held.length≤100000
 keep:∀x,inF p.L0 x→W.δ.disk x=p.D0 x
 flt:¬p.fl→W.δ.fault= -1
 acts:W.δ.acts≤J.acts
 tk:p.b0≤big W.σ.free+J.took
 ok:J.e=0→held.Perm J.G∧J.er=none
 why:J.e≠0→(J.e=6∧p.fl)∨∃m:Nat,J.er=some m∧J.e=(m:Int)
def aJg (p:Jp) (e:Int) (cd ca cs:aAc) (ph:Option Addr) (n cap:Nat) (ch:aAc):aAc:=[aAi p.bw p.bd p.ba p.bs,cd,ca,cs,aFg p.bj p.bw e ph n cap,ch].flatten
def aRu (p:Jp) (J:Jb) (C:aAc):Prop:=∃W cd ca cs held ph cap ch,C=aJg p J.e cd ca cs ph held.length cap ch∧
 Wc p.bd p.ba p.bs W cd ca cs∧Vec 42 4 ph held.length cap (aAj (held.map (·.1))) ch∧aLr p J held W
def In0 (p:Jp) (x:Fl×List T5):Prop:=∃Lv,aAq p.D0 p.size Lv x.1 x.2∧∀e∈Lv,e∈p.L0
def bRg (p:Jp) (G:List (Fl×List T5)) (m:Nat):Prop:=m*(G.length+p.L0.length+1)+((G.map (·.1.blocks)).sum+aBg p.L0)≤p.n
def Fits (p:Jp) (J:Jb) (m:Nat):Prop:=bRg p J.G m∨J.took+m≤p.b0
theorem aWq {f:Fl} (hb:f.blocks≠0):∀{fs:List Fl} {L:List Ext},(f∈fs∨f.ext∈L)→f.ext∈aAz fs L
 |[],L,h=>by simpa[aAz] using h
 |g::fs,L,h=>by
  simp only[aAz,List.foldl_cons]
  refine aWq hb (fs:=fs) (L:=aCj g L) ?_
  rcases h with h|h
  ·rcases AM.1 h with rfl|h
   ·right;unfold aCj;rw[if_neg hb];exact AH
   ·exact .inl h
  ·right;unfold aCj;split
   ·exact h
   ·exact AI _ h
theorem aPn {e:Ext}:∀{fs:List Fl} {L:List Ext},e∈L→e∈aAz fs L
 |[],_,h=>h
 |g::fs,L,h=>by
  simp only[aAz,List.foldl_cons]
  refine aPn (fs:=fs) (L:=aCj g L) ?_
  unfold aCj;split
  ·exact h
  ·exact AI _ h
theorem aGg:∀(fs:List Fl) (L:List Ext),aBg (aAz fs L)=(fs.map (·.blocks)).sum+aBg L
 |[],L=>by simp[aAz]
 |f::fs,L=>by
  have h1:aAz (f::fs) L=aAz fs (aCj f L):=rfl
  rw[h1,aGg fs,aMk];simp;omega
theorem aGl:∀(fs:List Fl) (L:List Ext),(aAz fs L).length≤fs.length+L.length
 |[],L=>by simp[aAz]
 |f::fs,L=>by
  have h1:aAz (f::fs) L=aAz fs (aCj f L):=rfl
  have h2:=aGl fs (aCj f L)
  have h3:(aCj f L).length≤L.length+1:=by unfold aCj;split<;>simp
  rw[h1,AL];omega
theorem aLr.file {p:Jp} {J:Jb} {held:List (Fl×List T5)} {W:Wk} (h:aLr p J held W) {x:Fl×List T5} (hx:x∈held∨In0 p x):aBm W x:=by
 rcases hx with hx|⟨Lv,hf,hs⟩
 ·have hf:=h.files x hx
  rw[←h.size] at hf
  by_cases hb:x.1.blocks=0
  ·exact⟨[],{hf with live:=fun e=>absurd hb e},by simp⟩
  ·refine⟨[x.1.ext],hf,fun e he=> ?_⟩
   simp only[AT] at he;subst he
   exact h.live.mem_iff.2 (aWq hb (.inl (AU.2 ⟨x,hx,rfl⟩)))
 ·refine⟨Lv,?_,fun e he=>h.live.mem_iff.2 (aPn (hs e he))⟩
  rw[h.size]
  exact hf.keep fun y ⟨e,he,h2⟩=>h.keep y ⟨e,hs e he,h2⟩
theorem aLr.big {p:Jp} {J:Jb} {held:List (Fl×List T5)} {W:Wk} {cd ca cs:aAc} (h:aLr p J held W) (hW:Wc p.bd p.ba p.bs W cd ca cs) (he:J.e=0) {m:Nat} (hr:Fits p J m):m≤big W.σ.free:=by
 have ab:=h.tk
 rcases hr with hr|hr
 rotate_left
 ·omega
 obtain⟨hp,_⟩:=h.ok he
 obtain⟨_,_,_,_,_,aa,_⟩:=hW.sp
 refine aTe hW.live aa ?_
 have h1:=h.live.length_eq
 have h2:=aGl (held.map (·.1)) p.L0
 have h3:aBg W.live=_:=(aFy h.live).trans (aGg _ _)
 have h4:=hp.length_eq
 have h5:(held.map (·.1)).map (·.blocks)=held.map (·.1.blocks):=by simp
 have h6:=(hp.map (·.1.blocks)).sum_nat
 rw[AY] at h2
 rw[h3,h5,h6,h.n]
 unfold bRg at hr
 have h7:m*(W.live.length+1)≤m*(J.G.length+p.L0.length+1):=B7 _ oM
 omega
theorem aLr.used {p:Jp} {J:Jb} {held:List (Fl×List T5)} {W:Wk} {cd ca cs:aAc} (hp:p.Ok) (h:aLr p J held W) (hW:Wc p.bd p.ba p.bs W cd ca cs):8*W.δ.size≤W.α.room-W.α.used:=by
 have h1:=hW.ar.num.2.2.2
 rw[(h.gs.map (·.n)).sum_nat] at h1
 have:=hp.left
 rw[h.size,h.room];omega
structure aEh (p:Jp) (W W':Wk) (A T:Nat) (er:Option Nat) (ts:List T5) (f:Fl) (e:Int):Prop where
 gs:W'.α.gs.Perm W.α.gs
 room:W'.α.room=W.α.room
 size:W'.δ.size=W.δ.size
 n:W'.σ.n=W.σ.n
 acts:W'.δ.acts≤W.δ.acts+A
 big:big W.σ.free≤big W'.σ.free+T
 fault:W.δ.fault= -1→W'.δ.fault= -1
 keep:aBv W.live W W'
 res:(e=0∧er=none∧W'.live.Perm (aCj f W.live)∧aAq W'.δ.disk W.δ.size [f.ext] f ts)∨(e≠0∧f=⟨0,0,0,0⟩∧W'.live.Perm W.live∧((e=6∧W.δ.fault≠-1)∨∃m:Nat,er=some m∧e=(m:Int)))
theorem bOr {α:Type} (x:Option α):(none.or x)=x:=by cases x<;>rfl
theorem aLr.step {p:Jp} {J:Jb} {held:List (Fl×List T5)} {W W':Wk} (h:aLr p J held W) (he:J.e=0) {A T:Nat} {er:Option Nat} {ts:List T5} {f:Fl} {e:Int} (hs:aEh p W W' A T er ts f e) (hl:held.length<100000):
  aLr p ⟨e,J.er.or er,(f,ts)::J.G,J.acts+A,J.took+T⟩ (if e=0 then held++[(f,ts)] else held) W':=by
 have hG:=h.ok he
 have ab:p.b0≤Go.Spc.big W'.σ.free+(J.took+T):=by have:=h.tk;have:=hs.big;omega
 have aa:∀x∈held,aAq W'.δ.disk p.size [x.1.ext] x.1 x.2:=by
  intro x hx
  obtain⟨Lv,h1,h2⟩:=h.file (.inl hx)
  have h3:=h1.keep (d':=W'.δ.disk) fun y ⟨e,he,h4⟩=>hs.keep y ⟨e,h2 e he,h4⟩
  rw[h.size] at h3
  exact{h3 with live:=fun _=>AT.2 rfl}
 have ac:∀x,inF p.L0 x→W'.δ.disk x=p.D0 x:=fun x hx=>by
  rw[hs.keep x,h.keep x hx]
  obtain⟨e,he,h2⟩:=hx
  exact⟨e,h.live.mem_iff.2 (aPn he),h2⟩
 rcases hs.res with⟨rfl,r1,r2,r3⟩|⟨r0,rfl,r2,r3⟩
 ·refine⟨hs.gs.trans h.gs,hs.room.trans h.room,hs.size.trans h.size,hs.n.trans h.n,?_,?_,?_,ac,fun hf=>hs.fault (h.flt hf),BB hs.acts (DH h.acts _),ab,fun _=>⟨?_,?_⟩,fun h0=>absurd rfl h0⟩
  ·simp only[if_true,AX,AZ,D7]
   rw[aIm]
   exact r2.trans (aCw h.live)
  ·simp only[if_true,AO,AT]
   rintro x (hx|rfl)
   ·exact aa x hx
   ·rw[←h.size];exact r3
  ·simp only[if_true,AF,AL,AV];omega
  ·simp only[if_true]
   exact B3.trans (hG.1.cons _)
  ·simp only[hG.2,r1];rfl
 ·simp only[if_neg r0]
  refine⟨hs.gs.trans h.gs,hs.room.trans h.room,hs.size.trans h.size,hs.n.trans h.n,r2.trans h.live,aa,h.len,ac,fun hf=>hs.fault (h.flt hf),BB hs.acts (DH h.acts _),ab,fun h0=>absurd h0 r0,fun _=> ?_⟩
  rcases r3 with⟨a,b⟩|⟨m,a,b⟩
  ·refine .inl ⟨a,?_⟩
   by_cases hf:p.fl
   ·exact hf
   ·exact absurd (h.flt hf) b
  ·exact .inr ⟨m,by simp only[hG.2,a];rfl,b⟩
theorem aLr.idle {p:Jp} {J:Jb} {held:List (Fl×List T5)} {W:Wk} (h:aLr p J held W) (he:J.e≠0) (er:Option Nat) (G:List (Fl×List T5)) (A T:Nat):aLr p ⟨J.e,J.er.or er,G,J.acts+A,J.took+T⟩ held W:=
 {h with
  acts:=BB h.acts (Nat.le_add_right _ _)
  tk:=BB h.tk oD
  ok:=fun h0=>absurd h0 he
  why:=fun _=>(h.why he).imp id fun ⟨m,a,b⟩=>⟨m,by simp only[a];rfl,b⟩}
theorem nb_le {s k n:Nat} (hs:8≤s) (h1:1≤k) (h2:k≤5):aAb s k n≤n:=aAx (aAl hs h1 h2)
theorem JMake (p:Jp) (hp:p.Ok) (J:Jb) (C:aAc) (hJ:aRu p J C) {K:Type} (M:aAt K) (k0:K) (width bound κ A T:Nat) (a3:1≤width) (au:width≤5) (a2:bound≤100000000)
  (mk:Nat) (av:Callable AC mk) (fs us:List Value) (ok:K→T5→Prop) (hM:aFt M width ok mk fs us) (hκ:∀k t,ok k t→(M.outs k t).length≤κ) (a4:κ≤10000)
  (l:List (Fl×List T5)) (hl:∀x∈l,(x∈J.G∨In0 p x)) (a1:∀x∈l,x.1.count≤1000000) (pa:Option Addr) (cap:Nat) (cf:aAc) (hV:Vec 42 4 pa l.length cap (aAj (l.map (·.1))) cf)
  (a0:J.e=0→M.oks ok k0 (cat l)) (aq:J.e=0→(M.all k0 (cat l)).length≤bound) (hT:aAb p.size width bound≤T) (ak:J.e=0→Fits p J T) (hA:aFf κ l+1≤A) (be:J.acts+A≤10000000000) (bc:J.G.length≤1000):
  Ct AC 52 [pv p.bj,.int .i64 (width:Int),.int .i64 (bound:Int),.func (.func mk) fs.toArray us.toArray,.slice pa l.length cap] (C::cf::M.C k0) fun v H'=>
   ∃f C' e' k',v=flv f∧H'=C'::cf::M.C k'∧aRu p ⟨e',J.er.or (M.bad k0 (cat l)),(f,M.all k0 (cat l))::J.G,J.acts+A,J.took+T⟩ C'∧
    (e'=0→J.e=0∧k'=M.st k0 (cat l)∧f.width=width∧f.count=(M.all k0 (cat l)).length∧M.bad k0 (cat l)=none)∧f.count≤bound∧f.blocks≤aAb p.size width bound:=by
 obtain⟨W,cd,ca,cs,held,ph,ae,ch,rfl,hW,al,ad⟩:=hJ
 by_cases he:J.e=0
 ·have bf:=ad.used hp hW
  have bg:aAb W.δ.size width bound≤T:=by rw[ad.size];exact hT
  have hG:=ad.ok he
  have am:=bRd p.bw p.bd p.ba p.bs M k0 W cd ca cs hW width bound κ a3 au a2 mk av fs us ok hM hκ a4 l
   (fun x hx=>⟨ad.file ((hl x hx).imp (fun h=>hG.1.mem_iff.2 h) id),a1 x hx⟩) pa cap cf hV (a0 he) (aq he) oM (by have:=ad.acts;omega)
  have a5:Ct AC 116 [pv p.bw,.int .i64 (width:Int),.int .i64 (bound:Int),.func (.func mk) fs.toArray us.toArray,.slice pa l.length cap] [[aAi p.bw p.bd p.ba p.bs,cd,ca,cs,cf,(M.C k0).flatten].flatten]
    fun v H'=>∃f e an,v= .tuple #[flv f,.int .i64 e]∧H'=[an]∧∃aa ab ac W' k',an=[aAi p.bw p.bd p.ba p.bs,aa,ab,ac,cf,(M.C k').flatten].flatten∧Wc p.bd p.ba p.bs W' aa ab ac∧aEh p W W' A T (M.bad k0 (cat l)) (M.all k0 (cat l)) f e∧
     (e=0→k'=M.st k0 (cat l)∧f.width=width∧f.count=(M.all k0 (cat l)).length):=by
   refine Ct.convP am oA15 ?_
   rintro v H' ⟨aa,ab,ac,W',k',rfl,ah,ag,a6,a7,hc⟩
   have ai:∀f e,_→aEh p W W' A T (M.bad k0 (cat l)) (M.all k0 (cat l)) f e:=fun f e hr=>⟨a6,ag.room,ag.size,ag.n,by have:=ag.acts.2;omega,by have:=ag.big;omega,ag.fault,a7,hr⟩
   rcases hc with⟨f,rfl,h1,h2,h3,h4,h5,h6⟩|⟨e,rfl,h1,h2,h3⟩
   ·exact⟨[[aAi p.bw p.bd p.ba p.bs,aa,ab,ac,cf,(M.C k').flatten].flatten],⟨f,0,_,rfl,rfl,aa,ab,ac,W',k',rfl,ah,ai f 0 (.inl ⟨rfl,h1,h3,h6⟩),fun _=>⟨h2,h4,h5⟩⟩,by simp⟩
   ·refine⟨[[aAi p.bw p.bd p.ba p.bs,aa,ab,ac,cf,(M.C k').flatten].flatten],⟨⟨0,0,0,0⟩,e,_,rfl,rfl,aa,ab,ac,W',k',rfl,ah,ai _ e (.inr ⟨h1,rfl,h2,?_⟩),fun h0=>absurd h0 h1⟩,by simp⟩
    rcases h3 with h3|⟨_,h3⟩|⟨m,h3,h4⟩
    ·exact .inl h3
    ·have:=ad.big hW he (ak he);omega
    ·exact .inr ⟨m,h3,h4⟩
  have ao:=bMk p.bj p.bw ph held.length ae _ ch al (by have:=ad.len;omega) _ _ _ _ _ _ a5
  refine Ct.convP ao (by rw[he];unfold aJg;refine aEq fun z=> ?_;simp only[AW,A5,AQ,BK];omega) ?_
  rintro v H' ⟨f,e,an,rfl,⟨aa,ab,ac,W',k',rfl,ah,hS,hz⟩,hc⟩
  have aw:f.count≤bound∧f.blocks≤aAb p.size width bound:=by
   rcases hS.res with⟨r0,r1,r2,r3⟩|⟨r0,rfl,r2,r3⟩
   ·obtain⟨_,h2,h3⟩:=hz r0
    have hb:=aq he
    refine⟨oM,?_⟩
    rw[r3.blk,h2,ad.size]
    exact aAm oM
   ·exact⟨AS _,AS _⟩
  have a8:held.length<100000:=by
   have h2:=hG.1.length_eq
   omega
  have ax:=ad.step he hS a8
  rcases hc with⟨rfl,p',aj,ay,rfl,a9⟩|⟨az,rfl⟩
  ·have hr:aEh p W W' A T (M.bad k0 (cat l)) (M.all k0 (cat l)) f 0:=hS
   have ap:M.bad k0 (cat l)=none:=by
    rcases hS.res with⟨_,r1,_⟩|⟨r0,_⟩
    ·exact r1
    ·exact absurd rfl r0
   refine⟨aJg p 0 aa ab ac p' (held.length+1) aj ay::cf::M.C k',⟨f,_,0,k',rfl,rfl,⟨W',aa,ab,ac,held++[(f,M.all k0 (cat l))],p',aj,ay,by simp,ah,?_,by simpa using ax⟩,fun _=>⟨he,(hz rfl).1,(hz rfl).2.1,(hz rfl).2.2,ap⟩,aw⟩,?_⟩
   ·simpa using a9
   ·unfold aJg;refine aEq fun z=> ?_;simp only[AW,A5,AQ,BK];omega
  ·refine⟨aJg p e aa ab ac ph held.length ae ch::cf::M.C k',⟨f,_,e,k',rfl,rfl,⟨W',aa,ab,ac,held,ph,ae,ch,rfl,ah,al,by simpa[az] using ax⟩,fun h0=>absurd h0 az,aw⟩,?_⟩
   unfold aJg;refine aEq fun z=> ?_;simp only[AW,A5,AQ,BK];omega
 ·have ao:=Ct.wide (bRe p.bj p.bw J.e he ph held.length ae (.int .i64 (width:Int)) (.int .i64 (bound:Int)) (.func (.func mk) fs.toArray us.toArray) (.slice pa l.length cap)) ([aAi p.bw p.bd p.ba p.bs,cd,ca,cs,ch]++(cf::M.C k0))
  refine Ct.convP ao (by unfold aJg;refine aEq fun z=> ?_;simp only[AW,A5,AQ,A0,BK];omega) ?_
  rintro v H' ⟨H1,⟨rfl,rfl⟩,rfl⟩
  refine⟨aJg p J.e cd ca cs ph held.length ae ch::cf::M.C k0,⟨⟨0,0,0,0⟩,_,J.e,k0,rfl,rfl,⟨W,cd,ca,cs,held,ph,ae,ch,rfl,hW,al,ad.idle he _ _ _ _⟩,fun h0=>absurd h0 he,AS _,AS _⟩,?_⟩
  unfold aJg;refine aEq fun z=> ?_;simp only[AW,A5,AQ,A0,BK];omega
def fl4 (f:Fl):List Value:=[.int .i64 (f.first:Int),.int .i64 (f.blocks:Int),.int .i64 (f.width:Int),.int .i64 (f.count:Int)]
theorem aHs (f:Fl) (fs:List Fl):aAj (f::fs)=fl4 f++aAj fs:=by simp[aAj,fl4]
theorem bOs:∀(fs:List Fl) (i:Nat) (g:Fl) (rest:List Value),i<fs.length→aFm (aAj fs++rest) (i*4) (fl4 g)=aAj (fs.set i g)++rest
 |[],_,_,_,h=>by simp at h
 |f::fs,0,g,rest,_=>by simp[aAj,aFm,fl4]
 |f::fs,i+1,g,rest,h=>by
  have ih:=bOs fs i g rest oA11
  rw[List.set_cons_succ,aHs,aHs,AP,AP,←ih,←aWg]
  congr 1
  simp[fl4];omega
theorem bMl (bj bw:Nat) (e:Int) (he:e≠0) (p:Option Addr) (n cap:Nat) (f:Fl) (o:T5) (once:Bool):
  CtQ AC 64 [pv bj,flv f,tv o,.bool once] [aFg bj bw e p n cap] (flv ⟨0,0,0,0⟩):=by
 have aa:flv f= .agg #[.int .i64 (f.first:Int),.int .i64 (f.blocks:Int),.int .i64 (f.width:Int),.int .i64 (f.count:Int)]:=rfl
 have hz:=eQ1
 have ab:tv o= .agg #[.int .i64 o.c0,.int .i64 o.c1,.int .i64 o.c2,.int .i64 o.c3,.int .i64 o.c4]:=rfl
 rw[aa,hz,ab]
 unfold aFg
 refine Ct.go Tryz.func64 Tryz.ntmps64 fun w0=> ?_
 repeat(refine sv ?_;intros)
 (refine Dn.post (Hr:=[[(bj,row [pv bw,.int .i64 e,.slice p n cap] 98)]]) Tryz.results64 (hR:= ?_);exact⟨rfl,rfl⟩)
theorem bIa (bj bw:Nat) (p:Option Addr) (cap:Nat) (held:List (Fl×List T5)) (ch:aAc) (hV:Vec 42 4 p held.length cap (aAj (held.map (·.1))) ch) (hn:held.length≤1000000) (f:Fl) (ts:List T5) (hf:(f,ts)∈held) (o:T5) (once:Bool) (Hc:aAc) (Q:Fl→Int→aAc→Prop)
  (hS:Ct AC 127 [pv bw,flv f,tv o,.bool once] [Hc] fun v H'=>∃g e Hc',v= .tuple #[flv g,.int .i64 e]∧H'=[Hc']∧Q g e Hc'):
  Ct AC 64 [pv bj,flv f,tv o,.bool once] [aFg bj bw 0 p held.length cap,ch,Hc] fun v H'=>∃g e Hc',Q g e Hc'∧
   ((e=0∧v=flv g∧∃i ch' us,held[i]? =some (f,us)∧H'=[aFg bj bw 0 p held.length cap,ch',Hc']∧∀ts',Vec 42 4 p held.length cap (aAj ((held.set i (g,ts')).map (·.1))) ch')∨
    (e≠0∧v=flv ⟨0,0,0,0⟩∧H'=[aFg bj bw e p held.length cap,ch,Hc'])):=by
 have ad:flv f= .agg #[.int .i64 (f.first:Int),.int .i64 (f.blocks:Int),.int .i64 (f.width:Int),.int .i64 (f.count:Int)]:=rfl
 have hz:=eQ1
 have ak:tv o= .agg #[.int .i64 o.c0,.int .i64 o.c1,.int .i64 o.c2,.int .i64 o.c3,.int .i64 o.c4]:=rfl
 rw[ad,ak] at hS⊢
 rw[hz]
 unfold aFg
 have au:0<held.length:=List.length_pos_of_mem hf
 obtain⟨vb,rest,rfl,rfl,al,am,an⟩:∃b rest,p=some ⟨b,0,none⟩∧ch=[(b,row (aAj (held.map (·.1))++rest) 42)]∧cap*4≤(aAj (held.map (·.1))).length+rest.length∧held.length≤cap∧cap≤maxLen:=by
  rcases hV.2 with⟨_,e,_⟩|hh
  ·omega
  ·exact hh
 have av:=hV.1
 refine Ct.go Tryz.func64 Tryz.ntmps64 fun w0=> ?_
 repeat(refine sv ?_;intros)
 refine R.call (hct:=hS) (h:= ?_)
 rintro _ _ ⟨g,e,Hc',rfl,rfl,hQ⟩
 try dsimp only[AA,AB]
 have ao:flv g= .agg #[.int .i64 (g.first:Int),.int .i64 (g.blocks:Int),.int .i64 (g.width:Int),.int .i64 (g.count:Int)]:=rfl
 rw[ao]
 by_cases he:e=0
 ·subst he
  generalize hcells:aAj (held.map (·.1))++rest=cells at*
  have ab:cap*4≤cells.length:=by rw[←hcells,AF];exact al
  repeat(refine sv ?_;intros)
  rename_i b5 b6 b8 b9
  refine G.loop (X:=Nat) (fun i=>i≤held.length∧∀j x,j<i→held[j]? =some x→x.1≠f)
   (fun i=>[(42,.int .i64 (i:Int)),(41,.int .i64 (held.length:Int)),(40,.slice (some ⟨vb,0,none⟩) held.length cap),(9,pv b9),(8,pv b8),(5,pv b5),(0,pv bj)])
   (fun _=>[[(b9,row [.int .i64 (g.first:Int),.int .i64 (g.blocks:Int),.int .i64 (g.width:Int),.int .i64 (g.count:Int)] 42)],[(b8,row [.int .i64 0,.int .i64 0,.int .i64 0,.int .i64 0] 42)],[(b5,row [.int .i64 (f.first:Int),.int .i64 (f.blocks:Int),.int .i64 (f.width:Int),.int .i64 (f.count:Int)] 42)],
    [(bj,row [pv bw,.int .i64 0,.slice (some ⟨vb,0,none⟩) held.length cap] 98)],[(vb,row cells 42)],Hc']) (fun i=>held.length-i) 0 ⟨AS _,fun j x h=>by omega⟩ (body:= ?_)
  rintro i ⟨hi,ae⟩
  by_cases ag:i<held.length
  ·have ac:held[i]? =some held[i]:=AE ag
   have ah:=aJu (rest:=rest) ac
   rw[hcells] at ah
   generalize hx:held[i]=x at*
   obtain⟨⟨x1,x2,x3,x4⟩,us⟩:=x
   obtain⟨f1,f2,f3,f4⟩:=f
   dsimp only at*
   by_cases ai:x1=f1∧x2=f2∧x3=f3∧x4=f4
   ·obtain⟨rfl,rfl,rfl,rfl⟩:=ai
    have aj:aFm cells (i*4) [.int .i64 (g.first:Int),.int .i64 (g.blocks:Int),.int .i64 (g.width:Int),.int .i64 (g.count:Int)]=aAj ((held.map (·.1)).set i g)++rest:=by
     rw[←hcells];exact bOs _ i g rest (by simpa using ag)
    generalize ap:aAj ((held.map (·.1)).set i g)++rest=aa at*
    repeat(refine sv ?_;intros)
    (refine Dn.post (Hr:=[[(bj,row [pv bw,.int .i64 0,.slice (some ⟨vb,0,none⟩) held.length cap] 98)],[(vb,row aa 42)],Hc']) Tryz.results64 (hR:= ?_);refine⟨g,0,Hc',hQ,.inl ⟨rfl,rfl,i,_,us,ac,rfl,fun ts'=> ?_⟩⟩)
    rw[List.map_set]
    refine Vec.mk' ap.symm (by rw[aBq];simp) ?_ am an
    rw[←aj,aEw];exact ab
   ·repeat(refine sv ?_;intros)
    refine Dn.round (i+1) ⟨oM,fun j y hj hy=> ?_⟩ oM
    by_cases aq:j=i
    ·subst aq
     rw[ac] at hy
     simp only[BA] at hy
     subst hy
     intro h0
     simp only[Fl.mk.injEq] at h0
     exact ai h0
    ·exact ae j y oM hy
  ·exfalso
   obtain⟨j,hj,he⟩:=CU hf
   exact ae j _ oM (AE hj) (by rw[he])
 ·repeat(refine sv ?_;intros)
  (refine Dn.post (Hr:=[[(bj,row [pv bw,.int .i64 e,.slice (some ⟨vb,0,none⟩) held.length cap] 98)],[(vb,row (aAj (held.map (·.1))++rest) 42)],Hc']) Tryz.results64 (hR:= ?_);exact⟨g,e,Hc',hQ,.inr ⟨he,rfl,rfl⟩⟩)
end Go.Proofs.YtaofijjjheiknaaGreat
