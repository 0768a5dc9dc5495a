/-
  Parts of the proof, put together (8). No condition.
-/
import Derived.Test.YtaofijjjheiknaaGreatQ7
set_option linter.unusedVariables false
set_option linter.unusedSimpArgs false
set_option linter.unnecessarySimpa false
set_option maxHeartbeats 4000000
open Go.IntKind renaming wrap→AL
open Go.Proofs.Tryz renaming prog→AC
open List renaming cons_append→AA,nil_append→AB,mem_cons_self→AE,mem_cons_of_mem→AF,getElem?_eq_getElem→AG,length_append→AH,length_cons→AJ,mem_cons→AM,mem_map→AN,length_nil→AO,getD_eq_getElem?_getD→AP,append_nil→AQ,length_map→AR,mem_append→AS,append_assoc→AT,mem_singleton→AW,flatten_cons→AX,map_cons→AZ,map_append→A0,flatten_append→A3,flatten_nil→A4,take_of_length_le→A6,flatMap_cons→A7,count_append→A8,pairwise_iff_getElem→A9,mem_append_left→BN,drop_eq_getElem_cons→BO,take_add_one→BP,take_append_drop→BV,perm_middle→B4,map_nil→CG,perm_append_comm→CI,flatMap_append→CJ,getElem_of_mem→CU,sum_append→CV,sum_cons→DJ,length_eq_zero_iff→DM,length_set→DS,append_of_mem→EF
open List.Perm renaming append_left→BI,swap→CS
open Nat renaming reduceAdd→AD,le_refl→AI,zero_le→AU,le_trans→A5,mul_le_mul_right→BB,succ_mul→BH,mul_le_mul_left→CF,le_div_iff_mul_le→CN,mul_le_mul→DN,add_le_add_right→DP,add_mul→DV,div_mul_le_self→DW,mul_comm→EM
open Option.some renaming injEq→BG
open Go.Proofs.Tryz
open Go.Value renaming int→Z9
open Go.IntKind renaming i64→Z8
namespace Go.Proofs.YtaofijjjheiknaaGreat
open Go.SL Go.Spc Go.Tup Go.Srt
theorem Zr (f g:Fl) (l:List Ext):(Az f (Az g l)).Perm (Az g (Az f l)):=by unfold Az;split<;>split<;>first|exact .refl _|exact CS _ _ _
theorem Zs (f:Fl):∀(fs:List Fl) (l:List Ext),(Au fs (Az f l)).Perm (Az f (Au fs l))
 |[],_=> .refl _
 |g::fs,l=>by have h:=Zs f fs (Az g l);refine List.Perm.trans ?_ h;show(Au fs (Az g (Az f l))).Perm _;exact addFs_live (Zr g f l)
where
 addFs_live:∀{fs:List Fl} {a b:List Ext},a.Perm b→(Au fs a).Perm (Au fs b)
 |[],_,_,h=>h
 |f::fs,_,_,h=>addFs_live (fs:=fs) (Oq h)
theorem addFs_live {fs:List Fl} {a b:List Ext} (h:a.Perm b):(Au fs a).Perm (Au fs b):=Zs.addFs_live h
theorem Np (f:Fl) (fs:List Fl) (l:List Ext):(Au (f::fs) l).Perm (Az f (Au fs l)):=Zs f fs l
theorem Ot {a b:List Fl} (h:a.Perm b) (l:List Ext):(Au a l).Perm (Au b l):=by
 induction h generalizing l with
 |nil=>exact .refl _
 |cons x _ ih=>exact ih _
 |swap x y l'=>exact addFs_live (Zr _ _ _)
 |trans _ _ aa ab=>exact(aa l).trans (ab l)
theorem Bm.add {f:Fl} {Lv live:List Ext} (h:live.Perm (Az f Lv)):Bm f.first f.blocks Lv live:=by
 unfold Bm;unfold Az at h;split
 ·rename_i h0;rw[if_pos h0] at h;exact h
 ·rename_i h0;rw[if_neg h0] at h;exact h
theorem Lu (fs:List Fl):(Ai fs).length=fs.length*4:=by
 induction fs with
 |nil=>rfl
 |cons f fs ih=>simp only[Ai,A7,AH,AJ] at ih⊢;rw[ih];simp;omega
theorem Mp {rs:List (Fl×List T5)} {rest:List Value} {j:Nat} {r:Fl×List T5} (h:rs[j]? =some r):((Ai (rs.map (·.1))++rest).drop (j*4)).take 4=[Z9 Z8 r.1.first,Z9 Z8 r.1.blocks,Z9 Z8 r.1.width,Z9 Z8 r.1.count]:=by
 induction rs generalizing j with
 |nil=>simp at h
 |cons x rs ih=>
  cases j with
  |zero=>simp at h;subst h;simp[Ai]
  |succ j=>
   have e:Ai ((x::rs).map (·.1))=[Z9 Z8 x.1.first,Z9 Z8 x.1.blocks,Z9 Z8 x.1.width,Z9 Z8 x.1.count]++Ai (rs.map (·.1)):=by simp[Ai]
   rw[e,AT,show(j+1)*4=4+j*4 by omega,←List.drop_drop];exact ih oA15
theorem gZ (fs:List Fl):(Ai fs).all Value.oneCell'=true:=by
 induction fs with
 |nil=>rfl
 |cons f fs ih=>
  simp only[Ai,A7,List.all_append] at ih⊢;rw[ih];rfl
theorem tN {s k:Nat} (hp:1≤Ad s k) (rs:List (Fl×List T5)):Ac s k (rs.map (·.1.count)).sum≤Cj s k rs:=by
 have aa:∀a b,Ac s k (a+b)≤Ac s k a+Ac s k b:=by
  intro a b;unfold Ac;generalize Ad s k=h at*;have h1:a≤(a+h-1)/h*h:=by have:=Nat.div_add_mod (a+h-1) h;have:=Nat.mod_lt (a+h-1) (show 0<h by omega);rw[EM];omega
  have h2:b≤(b+h-1)/h*h:=by have:=Nat.div_add_mod (b+h-1) h;have:=Nat.mod_lt (b+h-1) (show 0<h by omega);rw[EM];omega
  rw[Nat.div_le_iff_le_mul_add_pred oM];rw[Nat.mul_add,EM h,EM h];omega
 induction rs with
 |nil=>simp[Cj,Ro hp]
 |cons r rs ih=>
  simp only[Cj,AZ,DJ] at ih⊢;exact A5 (aa _ _) (Nat.add_le_add_left ih _)
theorem Qg (s k:Nat) (a b:List (Fl×List T5)):Cj s k (a++b)=Cj s k a+Cj s k b:=by simp[Cj,CV]
theorem Ek.swap {d:Nat→Option (List Int)} {size k:Nat} {o:T5} {once:Bool} {l out:List T5} {a g b:List (Fl×List T5)} {f:Fl} (h:Ek d size k o once l (a++(g++b))) (h1:f.width=k) (h2:Be d size [f.ext] f out) (h3:Sd (ltO o) once out) (h4:Go.Srt.Sp (ltO o) once (g.flatMap (·.2)) out) (h5:0<f.count):Ek d size k o once l ((a++[(f,out)])++b) where
 each:=fun r hr=>by
  simp only[AS,AW] at hr;rcases hr with(hr|rfl)|hr
  ·exact h.each r (by simp[hr])
  ·exact⟨h1,h2,h3⟩
  ·exact h.each r (by simp[hr])
 sp:=by have:=h.sp;rw[CJ,CJ] at this;rw[CJ,CJ,AT];refine this.trans (Go.Srt.Sp.app (Go.Srt.Sp.refl _ _) (Go.Srt.Sp.app ?_ (Go.Srt.Sp.refl _ _)));simpa using h4
 pos:=fun hl r hr=>by
  simp only[AS,AW] at hr;rcases hr with(hr|rfl)|hr
  ·exact h.pos hl r (by simp[hr])
  ·exact h5
  ·exact h.pos hl r (by simp[hr])
structure PassX where
 dn:List (Fl×List T5)
 rem:List (Fl×List T5)
 nx:List (Fl×List T5)
 cd:Aa
 ca:Aa
 cs:Aa
 W:Wk
 pr:Option Addr
 rc:Nat
 pn:Option Addr
 nc:Nat
 vn:Aa
 last:T5
 sm:Bool
structure FreeX where
 j:Nat
 cs:Aa
 W:Wk
theorem tO (bz bw bd ba bs:Nat) (W:Wk) (cd ca cs:Aa) (h:Wc bd ba bs W cd ca cs) (k:Nat) (cz:1≤k) (cw:k≤5) (o:T5) (once:Bool) (l:List T5) (hl:l≠[]) (rs:List (Fl×List T5)) (hR:Ek W.δ.disk W.δ.size k o once l rs) (live0:List Ext) (d0:W.live.Perm (Au (rs.map (·.1)) live0)) (p:Option Addr) (cap:Nat) (vc:Aa) (hV:Vec 42 4 p rs.length cap (Ai (rs.map (·.1))) vc) (h2:2≤rs.length) (hr:5*W.δ.size≤W.α.room-W.α.used) (ey:W.δ.acts≤10000000000) (dz:(rs.map (·.1.count)).sum≤1000000) (last:T5) (sm:Bool) (ad:Nat) (a3:ad+1=(W.α.room-W.α.used)/W.δ.size):Ct AC 180 [pv bz] [Fk bz bw o once p rs.length cap last sm,Ab bw bd ba bs,cd,ca,cs,vc] fun v H'=> ∃cd' ca' cs' W' p' cap' vc' last' sm' rs',H'=[Fk bz bw o once p' rs'.length cap' last' sm',Ab bw bd ba bs,cd',ca',cs',vc']∧Wc bd ba bs W' cd' ca' cs'∧Ev W W' (2*Cj W.δ.size k rs) (Cj W.δ.size k rs)∧Ap live0 W W'∧W'.α.gs.Perm W.α.gs∧Vec 42 4 p' rs'.length cap' (Ai (rs'.map (·.1))) vc'∧W'.live.Perm (Au (rs'.map (·.1)) live0)∧((v=Z9 Z8 0∧Ek W'.δ.disk W.δ.size k o once l rs'∧0<rs'.length∧rs'.length*ad≤rs.length+(ad-1)∧(rs'.map (·.1.count)).sum≤(rs.map (·.1.count)).sum∧Cj W.δ.size k rs'≤Cj W.δ.size k rs)∨ (v=Z9 Z8 5∧big W.σ.free<Cj W.δ.size k rs)∨(v=Z9 Z8 6∧W.δ.fault≠-1)):=by
 obtain⟨⟨d1,ez⟩,e0,e5⟩:=h.dev.num;obtain⟨e7,e8,_,d2⟩:=h.ar.num;have hp:=Bh d1 cz cw;have hD:=Tj bw bd ba bs;have hA:=Rj bw bd ba bs;have hL:=Vc ba W.α ca h.ar;rw[show(W.α.room:Int)-(W.α.used:Int)=((W.α.room-W.α.used:Nat):Int) by omega] at hL;have an:=Ml bd W.δ cd h.dev;have e9:=Vec.nil 42 4;unfold Fk Kx;have d3:W.α.room-W.α.used≤1000000000:=oM;have fa:4≤ad:=by
  have:5≤(W.α.room-W.α.used)/W.δ.size:=by rw[CN oM];omega
  omega
 have fb:ad+1≤1000000000:=by rw[a3];exact A5 (Nat.div_le_self _ _) d3
 have fc:(ad+1)*W.δ.size≤W.α.room-W.α.used:=by rw[a3];exact DW _ _
 have e1:AL .i64 (((W.α.room-W.α.used:Nat):Int).tdiv (W.δ.size:Int))=((ad+1:Nat):Int):=by rw[Int.tdiv_eq_ediv_of_nonneg oM,←Int.natCast_ediv,←a3,Ah oM]
 have e2:AL .i64 (((ad+1:Nat):Int)-1)=(ad:Int):=by rw[Ah oM];omega
 obtain⟨_,h0|⟨vb,rest,rfl,rfl,fd,d4,fg⟩⟩:=hV
 ·omega
 have bv:∀(j:Nat) (r:Fl×List T5),rs[j]? =some r→((Ai (rs.map (·.1))++rest).drop (j*4)).take 4=_:=fun j r hj=>Mp hj;generalize hcells:Ai (rs.map (·.1))++rest=cells at*;have b5:=hR.pos hl;have eo:Cj W.δ.size k rs≤(rs.map (·.1.count)).sum:=gY hp;refine cG func180 fun _=>?_;repeat(refine sA ?_;intros)
 refine G.loop (X:=PassX) (fun x=>rs=x.dn++x.rem∧Wc bd ba bs x.W x.cd x.ca x.cs∧Ev W x.W (2*Cj W.δ.size k x.dn) (Cj W.δ.size k x.dn)∧Ap live0 W x.W∧x.W.α.gs.Perm W.α.gs∧x.W.live.Perm (Au ((x.nx++x.rem).map (·.1)) live0)∧Ek x.W.δ.disk W.δ.size k o once l (x.nx++x.rem)∧
   Vec 42 4 x.pn x.nx.length x.nc (Ai (x.nx.map (·.1))) x.vn∧x.rem.length≤x.rc∧x.rc≤cap∧(x.rem≠[]→x.pr=some ⟨vb,x.dn.length*4,none⟩)∧x.nx.length*ad≤x.dn.length+(ad-1)∧(x.rem≠[]→x.nx.length*ad≤x.dn.length)∧
   (x.nx.map (·.1.count)).sum≤(x.dn.map (·.1.count)).sum∧Cj W.δ.size k x.nx≤Cj W.δ.size k x.dn∧(x.dn≠[]→0<x.nx.length))
  (fun x=>[(4,.slice x.pn x.nx.length x.nc),(3,Z9 Z8 ad),(0,pv bz)])
  (fun x=>[[(bz,row [pv bw,Z9 Z8 o.c0,Z9 Z8 o.c1,Z9 Z8 o.c2,Z9 Z8 o.c3,Z9 Z8 o.c4,.bool once,.slice x.pr x.rem.length x.rc,Z9 Z8 x.last.c0,Z9 Z8 x.last.c1,Z9 Z8 x.last.c2,Z9 Z8 x.last.c3,Z9 Z8 x.last.c4,.bool x.sm] 200)],Ab bw bd ba bs,x.cd,x.ca,x.cs,[(vb,row cells 42)],x.vn]) (fun x=>x.rem.length)
  ⟨[],rs,[],cd,ca,cs,W,some ⟨vb,0,none⟩,cap,none,0,[],last,sm⟩
  ⟨rfl,h,(Ev.refl W).weak (AU _) (AU _),Ap.refl _ _,.refl _,by simpa using d0,by simpa using hR,Vec.nil _ _,d4,AI _,fun _=>rfl,by simp,by simp,by simp,by simp[Cj],by simp⟩ oA7 oA3 ?_
 rintro⟨dn,rem,nx,a4,a5,a6,W1,pr,rc,pn,nc,vn,ab,a7⟩ ⟨ai,a8,ak,a1,aw,aj,al,c5,d5,c6,c7,c8,ax,c9,da,b1⟩;dsimp only at ai a8 ak a1 aw aj al c5 d5 c6 c7 c8 ax c9 da b1⊢;have a9:=ak.size;have db:W1.α.room=W.α.room:=ak.room;have ep:=ak.acts;have dc:W1.α.used=W.α.used:=by rw[a8.ar.num.2.2.2,(aw.map (·.n)).sum_nat,←d2]
 have ay:=al.pos hl;have dd:(rs.map (·.1.count)).sum=(dn.map (·.1.count)).sum+(rem.map (·.1.count)).sum:=by rw[ai,A0,CV]
 have de:Cj W.δ.size k rs=Cj W.δ.size k dn+Cj W.δ.size k rem:=by rw[ai,Qg]
 have df:rs.length=dn.length+rem.length:=by rw[ai,AH]
 have d6:rs.length≤1000000:=A5 (Zq fun r hr=>b5 r hr) dz;have et:nx.length≤1000000:=by have h1:nx.length*1≤nx.length*ad:=CF _ oM;have h2:nx.length≤(nx.map (·.1.count)).sum:=Zq fun r hr=>ay r (BN _ hr);omega
 by_cases bc:0<rem.length
 ·have dg:rem≠[]:=fun e=>by rw[e] at bc;simp at bc
  have d7:=c7 dg;subst d7;have ax:=ax dg;by_cases dh:rem.length=1
  ·obtain⟨r,rfl⟩:∃r,rem=[r]:=by
    match rem,dh with
    |[r],_=>exact⟨r,rfl⟩
   have fh:=bv dn.length r (by rw[ai];simp);have b2:min (ad:Int) (([r].length:Nat):Int)=1:=by simp;omega
   have eu:rs.length=dn.length+1:=by rw[df];rfl
   repeat(refine sA ?_;intros)
   rename_i p' cap' c' az;have am:Vec 42 4 p' (nx.length+1) cap' (Ai ((nx++[r]).map (·.1))) c':=by rw[A0,Ls];exact az
   have ag:(nx++[r]).length=nx.length+1:=by simp
   rw[←ag] at am;(refine dP [[(bz,row [pv bw,Z9 Z8 o.c0,Z9 Z8 o.c1,Z9 Z8 o.c2,Z9 Z8 o.c3,Z9 Z8 o.c4,.bool once,.slice p' (nx.length+1) cap',Z9 Z8 ab.c0,Z9 Z8 ab.c1,Z9 Z8 ab.c2,Z9 Z8 ab.c3,Z9 Z8 ab.c4,.bool a7] 200)],Ab bw bd ba bs,a4,a5,a6,c'] ?_;refine⟨a4,a5,a6,W1,p',cap',c',ab,a7,nx++[r],by rw[ag],a8,ak.weak oM oM,a1,aw,am,aj,.inl ⟨rfl,al,oM,?_,?_,?_⟩⟩)
   ·rw[ag,BH];omega
   ·rw[dd,A0,CV];omega
   ·rw[de,Qg];omega
  ·obtain⟨kk,fi⟩:∃kk,kk=min ad rem.length:=⟨_,rfl⟩
   have b2:min (ad:Int) (rem.length:Int)=(kk:Int):=oM;obtain⟨ac,b3⟩:∃ac,ac=rem.take kk:=⟨_,rfl⟩
   obtain⟨ah,be⟩:∃ah,ah=rem.drop kk:=⟨_,rfl⟩
   have a0:rem=ac++ah:=by rw[b3,be,BV]
   have bp:ac.length=kk:=by rw[b3,List.length_take];omega
   have di:ah.length=rem.length-kk:=by rw[be,List.length_drop]
   have bf:∀(j:Nat) (r:Fl×List T5),ac[j]? =some r→(cells.drop (dn.length*4+j*4)).take 4=[Z9 Z8 r.1.first,Z9 Z8 r.1.blocks,Z9 Z8 r.1.width,Z9 Z8 r.1.count]:=by intro j r hj;rw[←DV];refine bv (dn.length+j) r ?_;have d8:=(List.getElem?_eq_some_iff.1 hj).1;rw[ai,a0,List.getElem?_append_right oM,show dn.length+j-dn.length=j by omega,List.getElem?_append_left d8];exact hj
   have ae:∀r∈ac,r∈nx++rem:=fun r hr=>by rw[a0];simp[hr]
   have fj:(rem.map (·.1.count)).sum=(ac.map (·.1.count)).sum+(ah.map (·.1.count)).sum:=by rw[a0,A0,CV]
   have fk:Cj W.δ.size k rem=Cj W.δ.size k ac+Cj W.δ.size k ah:=by rw[a0,Qg]
   have d9:=tN hp ac;have fm:(kk+1)*W.δ.size≤(ad+1)*W.δ.size:=BB _ oM;have b7:=tM bz bw bd ba bs W1 a4 a5 a6 a8 k o once ac ⟨cz,cw,oM,fun r hr=>⟨(al.each r (ae r hr)).1,by rw[a9];exact(al.each r (ae r hr)).2.1,(al.each r (ae r hr)).2.2,ay r (ae r hr)⟩,fun r hr=>aj.mem_iff.2 (Ru (AN.2 ⟨r,ae r hr,rfl⟩) (by
     have h1:=(al.each r (ae r hr)).2.1.blk;have h2:=(al.each r (ae r hr)).1;have h3:=ay r (ae r hr);rw[h1,h2];unfold Ac;have:1≤(r.1.count+Ad W.δ.size k-1)/Ad W.δ.size k:=by rw[CN oM];omega
     omega)),by rw[a9,db,dc,bp];omega,oM,oM⟩ vb (dn.length*4) rc cells bf (some ⟨vb,dn.length*4,none⟩) rem.length rc ab a7
   unfold Fk Kx at b7;rw[bp,a9] at b7;repeat(refine sA ?_;intros)
   rw[b2,Int.toNat_natCast];refine cL b7 ?_;rintro _ _ ⟨ao,aq,bg,W2,aa,a2,rfl,b8,b9,bq,cg,⟨f,out,rfl,bh,ea,dj,dk,dl,dm,dp⟩|⟨rfl,ew,bh⟩|⟨rfl,dq,bh⟩⟩;try dsimp only[AA,AB]
   ·have au:flv f= .agg #[Z9 Z8 f.first,Z9 Z8 f.blocks,Z9 Z8 f.width,Z9 Z8 f.count]:=rfl;rw[au];repeat(refine sA ?_;intros)
    rename_i b6;obtain⟨av,bi⟩:∃av,av=Au (((nx++[(f,out)])++ah).map (·.1)) live0:=⟨_,rfl⟩
    have eb:W2.live.Perm (Au (ac.map (·.1)) av):=by
     refine bh.trans ((Oq aj).trans ((Np _ _ _).symm.trans ?_));rw[bi,show∀a b l,Au a (Au b l)=Au (b++a) l from fun a b l=>by simp[Au]];refine Ot ?_ _;rw[a0];simp only[A0,AZ,CG,AT];have h1:∀(f:Fl) (a b c:List Fl),(f::(a++(b++c))).Perm (a++([f]++(c++b))):=fun f a b c=>by refine(B4 (l₁:=a) (l₂:=b++c)).symm.trans (BI _ ?_);exact List.Perm.cons _ CI
     exact h1 _ _ _ _
    refine G.loop (X:=FreeX) (fun x=>x.j≤kk∧Wc bd ba bs x.W ao aq x.cs∧Ev W2 x.W 0 0∧x.W.δ=W2.δ∧x.W.α=W2.α∧x.W.live.Perm (Au ((ac.drop x.j).map (·.1)) av))
     (fun x=>[(81,Z9 Z8 x.j),(80,Z9 Z8 kk),(79,.slice (some ⟨vb,dn.length*4,none⟩) kk rc),(6,pv b6),(5,Z9 Z8 kk),(4,.slice pn nx.length nc),(3,Z9 Z8 ad),(0,pv bz)])
     (fun x=>[[(bz,row [pv bw,Z9 Z8 o.c0,Z9 Z8 o.c1,Z9 Z8 o.c2,Z9 Z8 o.c3,Z9 Z8 o.c4,.bool once,.slice (some ⟨vb,dn.length*4,none⟩) rem.length rc,Z9 Z8 aa.c0,Z9 Z8 aa.c1,Z9 Z8 aa.c2,Z9 Z8 aa.c3,Z9 Z8 aa.c4,.bool a2] 200)],Ab bw bd ba bs,ao,aq,x.cs,[(vb,row cells 42)],vn,[(b6,row [Z9 Z8 f.first,Z9 Z8 f.blocks,Z9 Z8 f.width,Z9 Z8 f.count] 42)]])
     (fun x=>kk-x.j) ⟨0,bg,W2⟩ ⟨AU _,b8,Ev.refl _,rfl,rfl,eb⟩ (body:=?_)
    rintro⟨j,dr,W3⟩ ⟨hj,ci,cj,bu,cm,bk⟩;dsimp only at hj ci cj bu cm bk⊢;by_cases ec:j<kk
    ·have ee:ac[j]? =some ac[j]:=AG oM;have fp:=bf j _ ee;have ef:ac.drop j=ac[j]::ac.drop (j+1):=BO oM;rw[ef] at bk;generalize ac[j]=r at*;have ds:=Rs bw bd ba bs W3 ao aq dr ci r.1 _ (Bm.add (bk.trans (Np _ _ _)));have dt:flv r.1= .agg #[Z9 Z8 r.1.first,Z9 Z8 r.1.blocks,Z9 Z8 r.1.width,Z9 Z8 r.1.count]:=rfl;rw[dt] at ds;have e3:AL .i64 ((j:Int)+1)=((j+1:Nat):Int):=by rw[Ah oM];rfl
     repeat(refine sA ?_;intros)
     refine cL ds ?_;rintro _ _ ⟨eg,W4,rfl,rfl,eh,ei,ej,ek,el⟩;repeat(refine sA ?_;intros)
     exact Dn.round ⟨j+1,eg,W4⟩ ⟨ec,eh,cj.trans ei,ej.trans bu,ek.trans cm,by dsimp only;rw[el]⟩ oD
    ·obtain rfl:j=kk:=by omega
     have em:W3.live.Perm av:=by rw[←bp,List.drop_length] at bk;exact bk
     repeat(refine sA ?_;intros)
     rename_i p' cap' c' az;have am:Vec 42 4 p' (nx.length+1) cap' (Ai ((nx++[(f,out)]).map (·.1))) c':=by rw[A0,Ls];exact az
     have ag:(nx++[(f,out)]).length=nx.length+1:=by simp
     have du:=al.keep (live0:=live0) (d':=W2.δ.disk) fun x hx=>bq x ((Oh aj x).2 hx);rw[a0] at du;have dw:=a1.trans (bq.sub (Lv':=live0) fun e he=>aj.mem_iff.2 (Ky he));have dx:=(ak.trans b9).trans cj;have cu:(dn++ac).length=dn.length+j:=by rw[AH,bp]
     have b4:ah≠[]→j<rem.length∧j=ad:=fun hn=>by have:=List.length_pos_iff.2 hn;omega
     rw[←ag,←di];rw[←ag] at am;refine Dn.round ⟨dn++ac,ah,nx++[(f,out)],ao,aq,dr,W3,cutA (some ⟨vb,dn.length*4,none⟩) j rc 4,rc-j,p',cap',c',aa,a2⟩ ⟨by dsimp only;rw[ai,a0,AT],ci,?_,fun x hx=>by dsimp only;rw[bu];exact dw x hx,by dsimp only;rw[cm];exact cg.trans aw,by dsimp only;rw[←bi];exact em,?_,am,oD,oD,?_,?_,?_,?_,?_,?_⟩ oD
     ·refine dx.weak ?_ ?_
      ·dsimp only;rw[Qg];omega
      ·dsimp only;rw[Qg];omega
     ·dsimp only;rw[bu];exact du.swap ea dl dm dp dj
     ·intro hn;obtain⟨h1,h2⟩:=b4 hn;dsimp only;unfold cutA;rw[if_neg oM,Option.map_some,Addr.add_mk,cu,DV]
     ·dsimp only;rw[ag,cu,BH];omega
     ·intro hn;obtain⟨h1,h2⟩:=b4 hn;dsimp only;rw[ag,cu,BH];omega
     ·dsimp only;rw[A0,A0,CV,CV];simp only[AZ,CG,DJ,List.sum_nil];omega
     ·dsimp only;rw[Qg,Qg];have:Cj W.δ.size k [(f,out)]=Ac W.δ.size k f.count:=by simp[Cj]
      have h3:Ac W.δ.size k f.count≤Ac W.δ.size k (ac.map (·.1.count)).sum:=Da dk;omega
     ·intro _;dsimp only;omega
   ·have au:flv ⟨0,0,0,0⟩= .agg #[Z9 Z8 0,Z9 Z8 0,Z9 Z8 0,Z9 Z8 0]:=rfl;rw[au];have cv:(cells.drop (dn.length*4)).take (rem.length*4)=Ai (rem.map (·.1)):=by
     rw[←hcells,ai,A0,Ls,AT];have h1:dn.length*4=(Ai (dn.map (·.1))).length:=by rw[Lu,AR]
     have h2:rem.length*4=(Ai (rem.map (·.1))).length:=by rw[Lu,AR]
     rw[h1,List.drop_left,h2,List.take_left]
    have en:(Ai (rem.map (·.1))).length=rem.length*4:=by rw[Lu,AR]
    have dy:(Ai (rem.map (·.1))).all Value.oneCell'=true:=gZ _;repeat(refine sA ?_;intros)
    rename_i p' cap' c' az;have am:Vec 42 4 p' (nx.length+rem.length) cap' (Ai ((nx++rem).map (·.1))) c':=by rw[A0,Ls];exact az
    have ag:(nx++rem).length=nx.length+rem.length:=by simp
    rw[←ag] at am;(refine dP [[(bz,row [pv bw,Z9 Z8 o.c0,Z9 Z8 o.c1,Z9 Z8 o.c2,Z9 Z8 o.c3,Z9 Z8 o.c4,.bool once,.slice p' (nx.length+rem.length) cap',Z9 Z8 aa.c0,Z9 Z8 aa.c1,Z9 Z8 aa.c2,Z9 Z8 aa.c3,Z9 Z8 aa.c4,.bool a2] 200)],Ab bw bd ba bs,ao,aq,bg,c'] ?_;refine⟨ao,aq,bg,W2,p',cap',c',aa,a2,nx++rem,by rw[ag],b8,(ak.trans b9).weak oM oM,a1.trans (bq.sub fun e he=>aj.mem_iff.2 (Ky he)),cg.trans aw,am,bh.trans aj,.inr (.inl ⟨rfl,by have:=ak.big;omega⟩)⟩)
   ·have au:flv ⟨0,0,0,0⟩= .agg #[Z9 Z8 0,Z9 Z8 0,Z9 Z8 0,Z9 Z8 0]:=rfl;rw[au];have cv:(cells.drop (dn.length*4)).take (rem.length*4)=Ai (rem.map (·.1)):=by
     rw[←hcells,ai,A0,Ls,AT];have h1:dn.length*4=(Ai (dn.map (·.1))).length:=by rw[Lu,AR]
     have h2:rem.length*4=(Ai (rem.map (·.1))).length:=by rw[Lu,AR]
     rw[h1,List.drop_left,h2,List.take_left]
    have en:(Ai (rem.map (·.1))).length=rem.length*4:=by rw[Lu,AR]
    have dy:(Ai (rem.map (·.1))).all Value.oneCell'=true:=gZ _;repeat(refine sA ?_;intros)
    rename_i p' cap' c' az;have am:Vec 42 4 p' (nx.length+rem.length) cap' (Ai ((nx++rem).map (·.1))) c':=by rw[A0,Ls];exact az
    have ag:(nx++rem).length=nx.length+rem.length:=by simp
    rw[←ag] at am;(refine dP [[(bz,row [pv bw,Z9 Z8 o.c0,Z9 Z8 o.c1,Z9 Z8 o.c2,Z9 Z8 o.c3,Z9 Z8 o.c4,.bool once,.slice p' (nx.length+rem.length) cap',Z9 Z8 aa.c0,Z9 Z8 aa.c1,Z9 Z8 aa.c2,Z9 Z8 aa.c3,Z9 Z8 aa.c4,.bool a2] 200)],Ab bw bd ba bs,ao,aq,bg,c'] ?_;refine⟨ao,aq,bg,W2,p',cap',c',aa,a2,nx++rem,by rw[ag],b8,(ak.trans b9).weak oM oM,a1.trans (bq.sub fun e he=>aj.mem_iff.2 (Ky he)),cg.trans aw,am,bh.trans aj,.inr (.inr ⟨rfl,fun e=>dq (ak.fault e)⟩)⟩)
 ·obtain rfl:rem=[]:=by
   cases rem with
   |nil=>rfl
   |cons a b=>simp at bc
  rw[AQ] at al aj ai;repeat(refine sA ?_;intros)
  (refine dP [[(bz,row [pv bw,Z9 Z8 o.c0,Z9 Z8 o.c1,Z9 Z8 o.c2,Z9 Z8 o.c3,Z9 Z8 o.c4,.bool once,.slice pn nx.length nc,Z9 Z8 ab.c0,Z9 Z8 ab.c1,Z9 Z8 ab.c2,Z9 Z8 ab.c3,Z9 Z8 ab.c4,.bool a7] 200)],Ab bw bd ba bs,a4,a5,a6,vn] ?_;refine⟨a4,a5,a6,W1,pn,nc,vn,ab,a7,nx,rfl,a8,ak.weak oM oM,a1,aw,c5,aj,.inl ⟨rfl,al,b1 (fun e=>by rw[e] at ai;rw[ai] at h2;simp at h2),oM,oM,oM⟩⟩)
def lgq (n:Nat):Nat:=if h:n≤1 then 0 else 1+lgq ((n+3)/4)
termination_by n
decreasing_by omega
theorem Wa {n:Nat} (h:n≤1):lgq n=0:=by unfold lgq;rw[dif_pos h]
theorem Rz {n:Nat} (h:¬n≤1):lgq n=1+lgq ((n+3)/4):=by rw[lgq,dif_neg h]
theorem Zt:∀{b a:Nat},a≤b→lgq a≤lgq b:=by
 intro b;induction b using Nat.strongRecOn with
 |ind b ih=>
  intro a aa;by_cases ha:a≤1
  ·rw[Wa ha];exact AU _
  ·rw[Rz ha,Rz (show¬b≤1 by omega)];have:=ih ((b+3)/4) oM (a:=(a+3)/4) oM;omega
theorem tP {n m aa:Nat} (hf:4≤aa) (hn:¬n≤1) (h:m*aa≤n+(aa-1)):lgq m+1≤lgq n∧m<n:=by
 have h1:m≤(n+3)/4:=by
  rw[CN oM];by_cases hm:m=0
  ·subst hm;omega
  ·obtain⟨j,rfl⟩:∃j,m=j+1:=⟨m-1,oM⟩
   obtain⟨i,rfl⟩:∃i,aa=4+i:=⟨aa-4,oM⟩
   have:(j+1)*(4+i)=j*4+j*i+(4+i):=by rw[BH,Nat.mul_add]
   have h0:0≤j*i:=AU _;omega
 have h2:=Zt h1;rw[Rz hn];omega
theorem Wb:∀(k n:Nat),n≤4^k→lgq n≤k
 |0,n,h=>by rw[Wa oA15];omega
 |k+1,n,h=>by
  by_cases h1:n≤1
  ·rw[Wa h1];omega
  ·rw[Rz h1];have:=Wb k ((n+3)/4) (by rw[Nat.pow_succ] at h;omega);omega
theorem tQ {d:Nat→Option (List Int)} {size k:Nat} {o:T5} {once:Bool} {l:List T5} {rs:List (Fl×List T5)} (h:Ek d size k o once l rs):Cj size k rs=(rs.map (·.1.blocks)).sum:=by unfold Cj;refine congrArg List.sum (List.map_congr_left fun r hr=>?_);obtain⟨h1,h2,_⟩:=h.each r hr;rw[h2.blk,h1]
structure SortX where
 e:Nat
 P:Nat
 rs:List (Fl×List T5)
 cd:Aa
 ca:Aa
 cs:Aa
 vc:Aa
 W:Wk
 p:Option Addr
 cap:Nat
 last:T5
 sm:Bool
theorem Ki {W W':Wk} {k m:Nat} (h:Ev W W' k m) (hf:W'.δ.fault≠-1):W.δ.fault≠-1:=fun e=>hf (h.fault e)
theorem tT (bw bd ba bs:Nat) (W:Wk) (cd ca cs:Aa) (h:Wc bd ba bs W cd ca cs) (f:Fl) (fts:List T5) (live0:List Ext) (an:Be W.δ.disk W.δ.size [f.ext] f fts) (am:W.live.Perm (Az f live0)) (o:T5) (ho:Ge o=true) (once:Bool) (hr:5*W.δ.size≤W.α.room-W.α.used) (fi:W.δ.acts≤1000000000) (fj:f.count≤100000) (c:Nat) (hc:c=(W.α.room-W.α.used-2*W.δ.size)/f.width):Ct AC 127 [pv bw,flv f,tv o,.bool once] [Ab bw bd ba bs,cd,ca,cs] fun v H'=> ∃cd' ca' cs' W' q S P,H'=[Ab bw bd ba bs,cd',ca',cs']∧Wc bd ba bs W' cd' ca' cs'∧Ev W W' (Ac W.δ.size f.width f.count+S+2*S*P) (S+S*P)∧W'.α.gs.Perm W.α.gs∧S*Ad W.δ.size f.width≤f.count+q*(Ad W.δ.size f.width-1)∧(q-1)*c≤f.count∧(0<f.count→(q-1)*c<f.count)∧P≤lgq q∧Ap live0 W W'∧((∃g out,v= .tuple #[flv g,Z9 Z8 0]∧W'.live.Perm (Az g live0)∧g.width=f.width∧g.count≤f.count∧Be W'.δ.disk W.δ.size [g.ext] g out∧Sd (ltO o) once out∧Go.Srt.Sp (ltO o) once fts out)∨ (v= .tuple #[flv ⟨0,0,0,0⟩,Z9 Z8 5]∧big W.σ.free<S+S*P∧W'.live.Perm W.live∧Ap W.live W W')∨ (v= .tuple #[flv ⟨0,0,0,0⟩,Z9 Z8 6]∧W.δ.fault≠-1∧W'.live.Perm W.live∧Ap W.live W W')):=by
 obtain⟨⟨dm,fk⟩,fm,fp⟩:=h.dev.num;obtain⟨fq,fr,_,b9⟩:=h.ar.num;have cg:=an.w1;have ci:=an.w2;have hp:=Bh dm cg ci;have dp:=an.len;have hF:=Nj o.c0 o.c1 o.c2 o.c3 o.c4;rw[show(⟨o.c0,o.c1,o.c2,o.c3,o.c4⟩:T5)=o from rfl,ho] at hF;have hD:=Tj bw bd ba bs;have hA:=Rj bw bd ba bs;have cj:=Ol bw bd ba bs W cd ca cs h f fts [f.ext] an oM;have aq:flv f= .agg #[Z9 Z8 f.first,Z9 Z8 f.blocks,Z9 Z8 f.width,Z9 Z8 f.count]:=rfl;have dq:tv o= .agg #[Z9 Z8 o.c0,Z9 Z8 o.c1,Z9 Z8 o.c2,Z9 Z8 o.c3,Z9 Z8 o.c4]:=rfl;rw[aq] at cj⊢;rw[dq];refine cG func127 fun _=>?_;repeat(refine sA ?_;intros)
 refine cL cj ?_;rintro _ _ ⟨bx,g,dr,α1,cx,cb,rfl,rfl,ds,cm,dt,ft,be⟩;try dsimp only[AA,AB]
 have du:=Vh bw bd ba bs {W with α:=α1} cd dr cs ds bx f fts g W.α.gs dt 0 cx cb be;repeat(refine sA ?_;intros)
 refine cL du ?_;rintro _ _ ⟨cu,α2,fu,rfl,rfl,bf,cv,cw,fv⟩;try dsimp only[AA,AB]
 have e7:α2.room=W.α.room:=by have h1:α1.room=W.α.room:=cm.room;have h2:α2.room=α1.room:=cv.room;omega
 have e8:α2.used=W.α.used:=by have h1:=bf.ar.num.2.2.2;dsimp only at h1;rw[h1,(cw.map (·.n)).sum_nat,←b9]
 have hL:=Vc ba α2 cu bf.ar;rw[show(α2.room:Int)-(α2.used:Int)=((W.α.room-W.α.used:Nat):Int) by omega] at hL;have hSz:=Ml bd W.δ cd h.dev;have e5:AL .i64 (5*(W.δ.size:Int))=((5*W.δ.size:Nat):Int):=by rw[Ah oM];omega
 obtain⟨Lv,cz,bg⟩:∃Lv,Be W.δ.disk W.δ.size Lv f fts∧∀e∈Lv,e∈W.live:=by
  by_cases hb:f.blocks=0
  ·exact⟨[],{an with live:=fun e=>absurd hb e},by simp⟩
  ·refine⟨[f.ext],an,fun e he=>?_⟩;simp only[AW] at he;subst he;unfold Az at am;rw[if_neg hb] at am;exact am.mem_iff.2 AE
 repeat(refine sA ?_;intros)
 rename_i b5 b6 b8 bz;have a1:=sL bz bw bd ba bs {W with α:=α2} cd cu cs bf f fts Lv cz bg o once ⟨0,0,0,0,0⟩ false oD oD oM (W.α.room-W.α.used) c oD hc;rw[aq] at a1;unfold Fk Kx at a1;dsimp only at a1;have c5:=cm.trans cv;refine cL a1 ?_;rintro _ _ ⟨dw,dx,dy,W3,dz,p3,c6,bh,d0,au,q,S,l3,rfl,d1,d2,d3,d4,d5,d6,c7,hS,c8,c9,fw,bi⟩;try dsimp only[AA,AB]
 obtain⟨e3,rfl,a2⟩:∃e3:Nat,_=Value.int .i64 (e3:Int)∧((e3=0∧l3=fts∧au≠[]∧au.length=q∧((au.map (·.1.count)).sum≤f.count)∧((au.map (·.1.blocks)).sum≤S))∨(e3=5∧big W.σ.free<S)∨(e3=6∧W.δ.fault≠-1)):=by
  rcases bi with⟨e,h⟩|⟨e,h⟩|⟨e,h⟩
  ·exact⟨0,e,.inl ⟨rfl,h⟩⟩
  ·exact⟨5,e,.inr (.inl ⟨rfl,h⟩)⟩
  ·exact⟨6,e,.inr (.inr ⟨rfl,h⟩)⟩
 have da:Ap W.live W W3:=d3;have db:=c5.trans d2;repeat(refine sA ?_;intros)
 refine G.loop (X:=SortX) (fun x=>Wc bd ba bs x.W x.cd x.ca x.cs∧Ev W x.W (Ac W.δ.size f.width f.count+S+2*S*x.P) (S+S*x.P)∧Ap W.live W x.W∧x.W.α.gs.Perm W.α.gs∧x.W.live.Perm (Au (x.rs.map (·.1)) W.live)∧Vec 42 4 x.p x.rs.length x.cap (Ai (x.rs.map (·.1))) x.vc∧x.P≤lgq q∧
   ((x.e=0∧Ek x.W.δ.disk W.δ.size f.width o once fts x.rs∧0<x.rs.length∧(x.rs.map (·.1.count)).sum≤f.count∧Cj W.δ.size f.width x.rs≤S∧x.P+lgq x.rs.length≤lgq q)∨(x.e=5∧big W.σ.free<S+S*x.P)∨(x.e=6∧W.δ.fault≠-1)))
  (fun x=>[(11,Z9 Z8 x.e),(12,pv bz),(8,pv b8),(5,pv b5),(0,pv bw)])
  (fun x=>[[(bz,row [pv bw,Z9 Z8 o.c0,Z9 Z8 o.c1,Z9 Z8 o.c2,Z9 Z8 o.c3,Z9 Z8 o.c4,.bool once,.slice x.p x.rs.length x.cap,Z9 Z8 x.last.c0,Z9 Z8 x.last.c1,Z9 Z8 x.last.c2,Z9 Z8 x.last.c3,Z9 Z8 x.last.c4,.bool x.sm] 200)],Ab bw bd ba bs,x.cd,x.ca,x.cs,x.vc,[(b8,row [Z9 Z8 0,Z9 Z8 0,Z9 Z8 0,Z9 Z8 0] 42)],[(b5,row [Z9 Z8 f.first,Z9 Z8 f.blocks,Z9 Z8 f.width,Z9 Z8 f.count] 42)]])
  (fun x=>if x.e=0 then x.rs.length+1 else 0) ⟨e3,0,au,dw,dx,dy,dz,W3,p3,c6,bh,d0⟩
  ⟨d1,db.weak oD oD,da,d4.trans cw,d6,d5,AU _,?_⟩ (body:=?_)
 ·rcases a2 with⟨e,rfl,h1,h2,h3,h4⟩|⟨e,h1⟩|⟨e,h1⟩
  ·exact .inl ⟨e,c7,List.length_pos_iff.2 h1,h3,by rw[tQ c7];exact h4,by dsimp only;rw[h2];omega⟩
  ·exact .inr (.inl ⟨e,oD⟩)
  ·exact .inr (.inr ⟨e,h1⟩)
 rintro⟨e4,P4,aa,ab,ac,bk,dc,W4,p4,a8,bp,d7⟩ ⟨av,ad,a3,aw,a4,ax,bq,ay⟩;dsimp only at av ad a3 aw a4 ax bq ay⊢;have d8:P4≤9:=A5 bq (Wb 9 q oM);have e9:=S_le hp hS;have fx:2*S*P4≤2*S*9:=CF _ d8;have fy:=Dl (n:=f.count) hp;have ak:=ad.size;have a9:W4.α.room=W.α.room:=ad.room;have fa:=ad.acts;have bc:W4.α.used=W.α.used:=by rw[av.ar.num.2.2.2,(aw.map (·.n)).sum_nat,←b9]
 rcases ay with⟨rfl,bu,fb,dd,fc,de⟩|ay
 ·by_cases h1:aa.length=1
  ·obtain⟨r,rfl⟩:∃r,aa=[r]:=by
    match aa,h1 with
    |[r],_=>exact⟨r,rfl⟩
   obtain⟨_,h0|⟨vb,rest,rfl,rfl,d9,df,bv⟩⟩:=ax
   ·simp at h0
   have f0:=Mp (rs:=[r]) (rest:=rest) (j:=0) (r:=r) rfl;generalize hcells:Ai ([r].map (·.1))++rest=cells at*;obtain⟨be,ea,eb⟩:=bu.each r oA19;have dg:=bu.sp;rw[A7,List.flatMap_nil,AQ] at dg;have ec:W4.live.Perm (Az f (Az r.1 live0)):=a4.trans ((Oq am).trans (Zr _ _ _));have az:=Rs bw bd ba bs W4 ab ac bk av f _ (Bm.add ec);rw[aq] at az;repeat(refine sA ?_;intros)
   refine cL az ?_;rintro _ _ ⟨ag,W5,rfl,rfl,ah,ai,ao,a0,ae⟩;repeat(refine sA ?_;intros)
   (refine dP [Ab bw bd ba bs,ab,ac,ag] ?_;refine⟨ab,ac,ag,W5,q,S,P4,rfl,ah,(ad.trans ai).weak oM oM,by rw[a0];exact aw,hS,c8,c9,oM,fun x hx=>?_,.inl ⟨r.1,r.2,rfl,by rw[ae],be,by simpa using dd,?_,eb,dg⟩⟩)
   ·rw[ao];exact a3 x (by
     obtain⟨e,he,h2⟩:=hx;exact⟨e,am.mem_iff.2 (Vr he),h2⟩)
   ·rw[ao];exact ea
  ·have b1:fts≠[]:=by
    intro e0;have h2:¬q≤1:=fun hq=>by have h3:=Rz (n:=aa.length) oM;rw[Wa hq] at de;omega
    have ee:1≤c:=by rw[hc,CN oM];omega
    have h4:(q-1)*1≤(q-1)*c:=CF _ ee;have h5:=congrArg List.length e0;rw[dp,AO] at h5;omega
   obtain⟨a5,dh⟩:∃a5,a5+1=(W.α.room-W.α.used)/W.δ.size:=⟨(W.α.room-W.α.used)/W.δ.size-1,by
    have:5≤(W.α.room-W.α.used)/W.δ.size:=by rw[CN oM];omega
    omega⟩
   have ef:4≤a5:=by
    have:5≤(W.α.room-W.α.used)/W.δ.size:=by rw[CN oM];omega
    omega
   have b2:=tO bz bw bd ba bs W4 ab ac bk av f.width cg ci o once fts b1 aa (by rw[ak];exact bu) W.live a4 p4 a8 dc ax oM (by rw[ak,a9,bc];exact hr) oM oM bp d7 a5 (by rw[ak,a9,bc];exact dh);unfold Fk Kx at b2;rw[ak] at b2;repeat(refine sA ?_;intros)
   refine cL b2 ?_;rintro _ _ ⟨eg,eh,ag,W5,p5,di,ei,b3,ej,aj,rfl,ah,ai,ek,el,em,ae,a6⟩;try dsimp only[AA,AB]
   have fd:2*S*(P4+1)=2*S*P4+2*S:=Nat.mul_succ _ _;have f1:S*(P4+1)=S*P4+S:=Nat.mul_succ _ _;have en:P4+1≤lgq q:=by have h3:=Rz (n:=aa.length) oM;omega
   have dj:Ev W W5 (Ac W.δ.size f.width f.count+S+2*S*(P4+1)) (S+S*(P4+1)):=(ad.trans ai).weak oM oM;obtain⟨eo,rfl,al⟩:∃e5:Nat,_=Value.int .i64 (e5:Int)∧((e5=0∧Ek W5.δ.disk W.δ.size f.width o once fts aj∧0<aj.length∧(aj.map (·.1.count)).sum≤f.count∧Cj W.δ.size f.width aj≤S∧P4+1+lgq aj.length≤lgq q∧aj.length<aa.length)∨(e5=5∧big W.σ.free<S+S*(P4+1))∨(e5=6∧W.δ.fault≠-1)):=by
    rcases a6 with⟨e,h1,h2,h3,h4,h5⟩|⟨e,h2⟩|⟨e,h2⟩
    ·have:=tP ef oM h3;exact⟨0,e,.inl ⟨rfl,h1,h2,oM,oM,oM,this.2⟩⟩
    ·exact⟨5,e,.inr (.inl ⟨rfl,by have:=ad.big;omega⟩)⟩
    ·exact⟨6,e,.inr (.inr ⟨rfl,Ki ad h2⟩)⟩
   repeat(refine sA ?_;intros)
   refine Dn.round ⟨eo,P4+1,aj,eg,eh,ag,ei,W5,p5,di,b3,ej⟩ ⟨ah,dj,a3.trans ek,el.trans aw,ae,em,en,?_⟩ ?_
   ·rcases al with⟨e,h1,h2,h3,h4,h5,_⟩|h2|h2
    ·exact .inl ⟨e,h1,h2,h3,h4,h5⟩
    ·exact .inr (.inl h2)
    ·exact .inr (.inr h2)
   ·rcases al with⟨e,_,_,_,_,_,h6⟩|⟨e,_⟩|⟨e,_⟩<;>(dsimp only;subst e;simp;try omega)
 ·have dk:e4≠0∧(e4:Int)≠0:=by rcases ay with⟨rfl,_⟩|⟨rfl,_⟩<;>decide
  obtain⟨dk,fg⟩:=dk;have fh:aa.length≤9223372036854775807:=by
   obtain⟨h1,h0|⟨vb,rest,_,_,_,df,bv⟩⟩:=ax
   ·omega
   ·simp only[maxLen] at bv;omega
  repeat(refine sA ?_;intros)
  refine G.loop (X:=FreeX) (fun x=>x.j≤aa.length∧Wc bd ba bs x.W ab ac x.cs∧Ev W4 x.W 0 0∧x.W.δ=W4.δ∧x.W.α=W4.α∧x.W.live.Perm (Au ((aa.drop x.j).map (·.1)) W.live))
   (fun x=>[(71,Z9 Z8 x.j),(70,Z9 Z8 aa.length),(69,.slice p4 aa.length a8),(11,Z9 Z8 e4),(8,pv b8),(0,pv bw)])
   (fun x=>[Ab bw bd ba bs,ab,ac,x.cs,dc,[(b8,row [Z9 Z8 0,Z9 Z8 0,Z9 Z8 0,Z9 Z8 0] 42)]])
   (fun x=>aa.length-x.j) ⟨0,bk,W4⟩ ⟨AU _,av,Ev.refl _,rfl,rfl,a4⟩ (body:=?_)
  rintro⟨j,ag,W5⟩ ⟨hj,ah,ai,ao,a0,ae⟩;dsimp only at hj ah ai ao a0 ae⊢;by_cases b4:j<aa.length
  ·have ep:aa[j]? =some aa[j]:=AG b4;have et:aa.drop j=aa[j]::aa.drop (j+1):=BO b4;obtain⟨_,h0|⟨vb,rest,rfl,rfl,d9,df,bv⟩⟩:=ax
   ·omega
   have f2:=Mp (rest:=rest) ep;generalize hcells:Ai (aa.map (·.1))++rest=cells at*;rw[et] at ae;generalize aa[j]=r at*;have az:=Rs bw bd ba bs W5 ab ac ag ah r.1 _ (Bm.add (ae.trans (Np _ _ _)));have dl:flv r.1= .agg #[Z9 Z8 r.1.first,Z9 Z8 r.1.blocks,Z9 Z8 r.1.width,Z9 Z8 r.1.count]:=rfl;rw[dl] at az;have e3:AL .i64 ((j:Int)+1)=((j+1:Nat):Int):=by rw[Ah oM];rfl
   repeat(refine sA ?_;intros)
   refine cL az ?_;rintro _ _ ⟨eu,W6,rfl,rfl,ew,ey,ez,e1,a7⟩;repeat(refine sA ?_;intros)
   exact Dn.round ⟨j+1,eu,W6⟩ ⟨b4,ew,ai.trans ey,ez.trans ao,e1.trans a0,by dsimp only;rw[a7]⟩ oD
  ·obtain rfl:j=aa.length:=by omega
   have a7:W5.live.Perm W.live:=by rw[List.drop_length] at ae;exact ae
   have b7:Ap W.live W W5:=fun x hx=>by rw[ao];exact a3 x hx
   have e2:Ap live0 W W5:=b7.sub fun e he=>am.mem_iff.2 (Vr he);repeat(refine sA ?_;intros)
   (refine dP [Ab bw bd ba bs,ab,ac,ag] ?_;refine⟨ab,ac,ag,W5,q,S,P4,rfl,ah,(ad.trans ai).weak oM oM,by rw[a0];exact aw,hS,c8,c9,bq,e2,?_⟩);rcases ay with⟨rfl,h1⟩|⟨rfl,h1⟩
   ·exact .inr (.inl ⟨rfl,h1,a7,b7⟩)
   ·exact .inr (.inr ⟨rfl,h1,a7,b7⟩)
theorem tU (p:Option Addr) (n cap:Nat) (ts:List T5) (c:Aa) (hv:RV p n ts c) (hn:n≤1000000000) (p2:Option Addr) (n2 aa:Nat) (us:List T5) (c2:Aa) (ad:RV p2 n2 us c2):CtQ AC 29 [.slice p n cap,.slice p2 n2 aa] [c,c2] (.bool (decide (ts=us))):=by
 have av:=hv.1;have aj:=ad.1;by_cases ak:n=n2
 ·subst ak;refine cG func29 fun _=>?_;repeat(refine sA ?_;intros)
  refine G.loop (X:=Nat) (fun i=>i≤n∧ts.take i=us.take i) (fun i=>[(5,Z9 Z8 i),(0,.slice p n cap),(1,.slice p2 n aa)]) (fun _=>[c,c2]) (fun i=>n-i) 0 ⟨AU _,by simp⟩ (body:=?_);rintro i ⟨hi,hz⟩;by_cases h0:i<n
  ·obtain⟨b,off,cs,T,fz,rfl,rfl,hr⟩:=hv.pos oM;obtain⟨b2,aw,al,T2,am,rfl,rfl,an⟩:=ad.pos oM;have hj:=hr i h0;have ae:=an i h0;have ag:i<ts.length:=oM;have ab:i<us.length:=oM;have ao:ts.getD i ⟨0,0,0,0,0⟩=ts[i]:=by simp[AP,ag]
   have ah:us.getD i ⟨0,0,0,0,0⟩=us[i]:=by simp[AP,ab]
   have aq:ts.take (i+1)=ts.take i++[ts[i]]:=by rw[BP];simp[ag]
   have ai:us.take (i+1)=us.take i++[us[i]]:=by rw[BP];simp[ab]
   have au:ts[i]≠us[i]→ts≠us:=fun h e=>h (by subst e;rfl);rw[ao] at hj;rw[ah] at ae;have e1:AL .i64 ((i:Int)+1)=((i+1:Nat):Int):=by rw[Ah oM];rfl
   generalize ts[i]=t at*;generalize us[i]=u at*;simp only[Ak] at hj ae;by_cases ac:t=u
   ·subst ac;repeat(refine sA ?_;intros)
    exact Dn.round (i+1) ⟨oM,by rw[aq,ai,hz]⟩ oM
   ·rw[decide_eq_false (au ac)];have ax:¬(t.c0=u.c0∧t.c1=u.c1∧t.c2=u.c2∧t.c3=u.c3∧t.c4=u.c4):=fun ⟨h0,h1,h2,h3,h4⟩=>ac (by cases t;cases u;simp_all);repeat(refine sA ?_;intros)
    (refine dP [[(b,An cs T fz)],[(b2,An al T2 am)]] ?_;exact⟨rfl,rfl⟩)
  ·obtain rfl:i=n:=by omega
   have hf:ts=us:=by have h1:=A6 (l:=ts) (i:=i) oM;have h2:=A6 (l:=us) (i:=i) oM;rw[←h1,←h2,hz]
   rw[decide_eq_true hf];repeat(refine sA ?_;intros)
   (refine dP [c,c2] ?_;exact⟨rfl,rfl⟩)
 ·rw[decide_eq_false (by intro e;subst e;omega)];refine cG func29 fun _=>?_;repeat(refine sA ?_;intros)
  (refine dP [c,c2] ?_;exact⟨rfl,rfl⟩)
def Cf (b:Nat):Nat:=(b+(b/3+1))*(1+lgq (b/3+1))
def Qh (b:Nat):Nat:=b+(b+(b/3+1))*(1+2*lgq (b/3+1))
theorem tV {s k n L c q S:Nat} (hs:8≤s) (ac:1≤k) (aa:k≤5) (h5:5*s≤L) (hc:c=(L-2*s)/k) (hS:S*Ad s k≤n+q*(Ad s k-1)) (ae:(q-1)*c≤n) (ab:0<n→(q-1)*c<n):q≤Ac s k n/3+1∧S≤Ac s k n+(Ac s k n/3+1):=by
 have hp:1≤Ad s k:=Bh hs ac aa;have ad:3*Ad s k≤c:=by rw[hc,CN oM];have h1:Ad s k*k≤s-2:=DW _ _;rw[Nat.mul_assoc];omega
 have ag:n≤Ac s k n*Ad s k:=by unfold Ac;generalize Ad s k=h at*;have:=Nat.div_add_mod (n+h-1) h;have h2:=Nat.mod_lt (n+h-1) (show 0<h by omega);rw[EM] at this;omega
 generalize Ac s k n=b at*;generalize Ad s k=h at*;have hq:q≤b/3+1:=by
  rcases Nat.eq_zero_or_pos n with rfl|hn
  ·have h1:(q-1)*1≤(q-1)*c:=CF _ oM;omega
  ·have h1:(q-1)*(3*h)≤(q-1)*c:=CF _ ad;have h2:=ab hn;have h3:(q-1)*3*h<b*h:=by rw[Nat.mul_assoc];omega
   have h4:(q-1)*3<b:=Nat.lt_of_mul_lt_mul_right h3;omega
 refine⟨hq,?_⟩;have h1:q*(h-1)≤q*h:=CF _ oM;have h2:S*h≤(b+q)*h:=by rw[DV];omega
 have h3:S≤b+q:=Nat.le_of_mul_le_mul_right h2 oM;omega
theorem fo_sub {d:Nat→Option (List Int)} {s:Nat} {f:Fl} {ts:List T5} {live l0:List Ext} (h:Be d s [f.ext] f ts) (hl:live.Perm (Az f l0)):∃Lv,Be d s Lv f ts∧∀e∈Lv,e∈live:=by
 by_cases hb:f.blocks=0
 ·exact⟨[],{h with live:=fun e=>absurd hb e},by simp⟩
 ·refine⟨[f.ext],h,fun e he=>?_⟩;simp only[AW] at he;subst he;unfold Az at hl;rw[if_neg hb] at hl;exact hl.mem_iff.2 AE
theorem Lw {bd ba bs:Nat} {W W':Wk} {cd ca cs ab aa cs':Aa} (h:Wc bd ba bs W cd ca cs) (h':Wc bd ba bs W' ab aa cs') (hg:W'.α.gs.Perm W.α.gs):W'.α.used=W.α.used:=by rw[h'.ar.num.2.2.2,(hg.map (·.n)).sum_nat,←h.ar.num.2.2.2]
theorem tW {b m l:Nat} (h:b≤m) (hl:m/3+1≤4^l):Cf b≤(m+(m/3+1))*(1+l):=by unfold Cf;have h1:=Wb l (b/3+1) oM;exact DN oM oM
theorem tX {b:Nat} (h:b≤1000):Qh b≤20000:=by unfold Qh;have h1:=Wb 5 (b/3+1) oM;have h2:(b+(b/3+1))*(1+2*lgq (b/3+1))≤1334*11:=DN oM oM;omega
theorem tY (f:Fl) (l:List Ext):Bc (Az f l)=f.blocks+Bc l:=by
 unfold Az;split
 ·rename_i h;rw[h];simp
 ·simp[Bc,Fl.ext]
theorem tZ {bd ba bs:Nat} {W:Wk} {cd ca cs:Aa} (h:Wc bd ba bs W cd ca cs) {l:List Ext} (hl:W.live.Perm l):Bc W.σ.free+Bc l=W.σ.n:=by rw[←Ti hl];exact h.live.sum
theorem Sort_u (bw bd ba bs:Nat) (W:Wk) (cd ca cs:Aa) (h:Wc bd ba bs W cd ca cs) (f:Fl) (fts:List T5) (live0:List Ext) (aa:Be W.δ.disk W.δ.size [f.ext] f fts) (ad:W.live.Perm (Az f live0)) (o:T5) (ho:Ge o=true) (once:Bool) (hr:5*W.δ.size≤W.α.room-W.α.used) (ab:W.δ.acts≤1000000000) (ac:f.count≤100000):Ct AC 127 [pv bw,flv f,tv o,.bool once] [Ab bw bd ba bs,cd,ca,cs] fun v H'=> ∃cd' ca' cs' W',H'=[Ab bw bd ba bs,cd',ca',cs']∧Wc bd ba bs W' cd' ca' cs'∧Ev W W' (Qh f.blocks) (Cf f.blocks)∧W'.α.gs.Perm W.α.gs∧Ap live0 W W'∧((∃g out,v= .tuple #[flv g,Z9 Z8 0]∧W'.live.Perm (Az g live0)∧g.width=f.width∧g.count≤f.count∧Be W'.δ.disk W.δ.size [g.ext] g out∧Sd (ltO o) once out∧Go.Srt.Sp (ltO o) once fts out)∨ (v= .tuple #[flv ⟨0,0,0,0⟩,Z9 Z8 5]∧big W.σ.free<Cf f.blocks∧W'.live.Perm W.live∧Ap W.live W W')∨ (v= .tuple #[flv ⟨0,0,0,0⟩,Z9 Z8 6]∧W.δ.fault≠-1∧W'.live.Perm W.live∧Ap W.live W W')):=by
 refine(tT bw bd ba bs W cd ca cs h f fts live0 aa ad o ho once hr ab ac _ rfl).mono ?_;rintro v H' ⟨cd',ca',cs',W',q,S,P,rfl,hW,hE,hg,hS,ae,ag,hP,hK,hc⟩;obtain⟨⟨ah,aj⟩,_⟩:=h.dev.num;obtain⟨h1,h2⟩:=tV ah aa.w1 aa.w2 hr rfl hS ae ag;rw[←aa.blk] at h1 h2 hE;have ai:P≤lgq (f.blocks/3+1):=A5 hP (Zt h1);have hm:S*P≤(f.blocks+(f.blocks/3+1))*lgq (f.blocks/3+1):=DN h2 ai;have hT:S+S*P≤Cf f.blocks:=by unfold Cf;rw[Nat.mul_add,Nat.mul_one];omega
 have hA:f.blocks+S+2*S*P≤Qh f.blocks:=by unfold Qh;rw[Nat.mul_add,Nat.mul_one,Nat.mul_left_comm,Nat.mul_assoc];omega
 refine⟨cd',ca',cs',W',rfl,hW,hE.weak hA hT,hg,hK,?_⟩;rcases hc with hc|⟨e,hb,hc⟩|hc
 ·exact .inl hc
 ·exact .inr (.inl ⟨e,oM,hc⟩)
 ·exact .inr (.inr hc)
structure EachX (K:Type) where
 i:Nat
 cd:Aa
 ca:Aa
 cs:Aa
 cx:Aa
 cb:Aa
 W:Wk
 k:K
def cat (l:List (Fl×List T5)):List T5:=l.flatMap (·.2)
def Hw (κ:Nat) (l:List (Fl×List T5)):Nat:=(l.map fun x=>x.1.blocks+x.1.count*κ).sum
theorem iA {l:List (Fl×List T5)} {i:Nat} {x:Fl×List T5} (h:l[i]? =some x):cat (l.take (i+1))=cat (l.take i)++x.2:=by unfold cat;rw[BP,h];simp
theorem uA {κ:Nat} {l:List (Fl×List T5)} {i:Nat} {x:Fl×List T5} (h:l[i]? =some x):Hw κ (l.take (i+1))=Hw κ (l.take i)+(x.1.blocks+x.1.count*κ):=by unfold Hw;rw[BP,h];simp
theorem iB {κ:Nat} (l:List (Fl×List T5)) (i:Nat):Hw κ (l.take i)≤Hw κ l:=by
 have:Hw κ l=Hw κ (l.take i)+Hw κ (l.drop i):=by unfold Hw;rw[←List.sum_append_nat,←A0,BV]
 omega
theorem uB (l:List (Fl×List T5)) (i:Nat):cat l=cat (l.take i)++cat (l.drop i):=by unfold cat;rw[←CJ,BV]
theorem eQ1:flv ⟨0,0,0,0⟩= .agg #[Z9 Z8 0,Z9 Z8 0,Z9 Z8 0,Z9 Z8 0]:=rfl
theorem uC (bw bd ba bs:Nat) {K:Type} (M:Aj K) (k0:K) (W:Wk) (cd ca cs:Aa) (h:Wc bd ba bs W cd ca cs) (width bound κ:Nat) (a6:1≤width) (ao:width≤5) (cv:bound≤100000000) (mk:Nat) (bq:Callable AC mk) (fs us:List Value) (ok:K→T5→Prop) (hM:Bw M width ok mk fs us) (hκ:∀k t,ok k t→(M.outs k t).length≤κ) (cu:κ≤10000) (l:List (Fl×List T5)) (hl:∀x∈l,Ce W x∧x.1.count≤1000000) (p:Option Addr) (cap:Nat) (cf:Aa) (hV:Vec 42 4 p l.length cap (Ai (l.map (·.1))) cf) (bu:M.oks ok k0 (cat l)) (cw:(M.all k0 (cat l)).length≤bound) (hr:2*W.δ.size≤W.α.room-W.α.used) (du:W.δ.acts+Hw κ l≤10000000000):Ct AC 116 [pv bw,Z9 Z8 width,Z9 Z8 bound,.func (.func mk) fs.toArray us.toArray,.slice p l.length cap] [Ab bw bd ba bs,cd,ca,cs,cf,(M.C k0).flatten] fun v H'=> ∃cd' ca' cs' W' k',H'=[Ab bw bd ba bs,cd',ca',cs',cf,(M.C k').flatten]∧Wc bd ba bs W' cd' ca' cs'∧Ev W W' (Hw κ l+1) (Ac W.δ.size width bound)∧W'.α.gs.Perm W.α.gs∧Ap W.live W W'∧((∃f,v= .tuple #[flv f,Z9 Z8 0]∧M.bad k0 (cat l)=none∧k'=M.st k0 (cat l)∧W'.live.Perm (Az f W.live)∧f.width=width∧f.count=(M.all k0 (cat l)).length∧Be W'.δ.disk W.δ.size [f.ext] f (M.all k0 (cat l)))∨ (∃e:Int,v= .tuple #[flv ⟨0,0,0,0⟩,Z9 Z8 e]∧e≠0∧W'.live.Perm W.live∧((e=6∧W.δ.fault≠-1)∨(e=5∧big W.σ.free<Ac W.δ.size width bound)∨∃n:Nat,M.bad k0 (cat l)=some n∧e=(n:Int)))):=by
 obtain⟨⟨cz,dw⟩,_⟩:=h.dev.num;have hh:=Bh cz a6 ao;have c5:=Om bw bd ba bs W cd ca cs h width bound a6 ao cv oM;have dx:=hV.1;have c6:l.length≤maxLen:=by
  rcases hV.2 with⟨_,e,_⟩|⟨_,_,_,_,_,h1,h2⟩
  ·omega
  ·omega
 simp only[maxLen] at c6;have hz:=eQ1;refine Ct.introD func116 rfl ntmps116 (nle rfl) fun _=>?_;dsimp only[Cy,AD];repeat(refine sA ?_;intros)
 apply R.call
 ·exact rfl
 ·exact c5
 ·exact oA4
 ·exact rfl
 ·exact nle rfl
 rintro _ _ (⟨di,bx,first,g,cd',ca',cs',W1,cx,cb,rfl,rfl,az,aq,e1,e2,e3,e4,e5⟩|⟨a7,rfl,cd',ca',cs',W1,rfl,az,aq,e1,e2,e3⟩)
 ·repeat(refine sA ?_;intros)
  rename_i b8 bv a8;have dj:W1.α.used=W.α.used+W.δ.size:=by rw[az.ar.num.2.2.2,(e2.map (·.n)).sum_nat,h.ar.num.2.2.2];simp[e3];omega
  have dk:W1.α.room=W.α.room:=aq.room;have dl:W1.δ.size=W.δ.size:=aq.size;refine G.loop (X:=EachX K) (fun x=>x.i≤l.length∧Wc bd ba bs x.W x.cd x.ca x.cs∧Ev W x.W (Hw κ (l.take x.i)) (Ac W.δ.size width bound)∧Ap W.live W x.W∧x.W.α.gs.Perm (g::W.α.gs)∧Bm first (Ac W.δ.size width bound) W.live x.W.live∧
    Dh bw bx x.W first (Ac W.δ.size width bound) width bound g (M.all k0 (cat (l.take x.i))) x.cx x.cb∧x.k=M.st k0 (cat (l.take x.i))∧M.bad k0 (cat (l.take x.i))=none)
   (fun x=>[(31,Z9 Z8 x.i),(30,Z9 Z8 l.length),(29,.slice p l.length cap),(12,pv a8),(10,pv bv),(8,pv b8),(0,pv bw)])
   (fun x=>[[(b8,row [.func (.func mk) fs.toArray us.toArray] 91)],[(a8,row [pv bx] 122)],[(bv,row [Z9 Z8 0,Z9 Z8 0,Z9 Z8 0,Z9 Z8 0] 42)],Ab bw bd ba bs,x.cd,x.ca,x.cs,x.cx,x.cb,cf,(M.C x.k).flatten]) (fun x=>l.length-x.i) ⟨0,cd',ca',cs',cx,cb,W1,k0⟩
   ⟨AU _,az,by simpa[Hw] using aq,fun x _=>by rw[e1],e2,e4,by simpa[cat,Aj.all] using e5,by simp[cat,Aj.st],by simp[cat,Aj.bad]⟩ (body:=?_)
  rintro⟨i,bz,b1,b2,b3,b4,W2,k2⟩ ⟨hi,a0,ab,aj,a1,a9,a2,ac,ak⟩;dsimp only at hi a0 ab aj a1 a9 a2 ac ak⊢;have ah:W2.δ.size=W.δ.size:=ab.size;have dm:W2.α.room=W.α.room:=ab.room;have dp:W2.α.used=W.α.used+W.δ.size:=by rw[a0.ar.num.2.2.2,(a1.map (·.n)).sum_nat,h.ar.num.2.2.2];simp[e3];omega
  have dq:=ab.acts.2;have dy:=iB (κ:=κ) l i;have dr:=iB (κ:=κ) l (i+1);by_cases bc:i<l.length
  ·have a3:l[i]? =some l[i]:=AG bc;obtain⟨⟨LvF,be,a5⟩,c7⟩:=hl _ (List.getElem_mem bc);have a4:=uB l (i+1);rw[iA a3] at a4;have b5:M.oks ok k2 l[i].2:=by rw[a4] at bu;rw[ac];exact((Aj.oks_app (Aj.oks_app bu).1).2 ak)
   have b6:(M.all k0 (cat (l.take i))).length+(M.all k2 l[i].2).length≤bound:=by rw[a4,Aj.all_app,Aj.all_app,AH,AH,←ac] at cw;omega
   have bf:=sN bw bd ba bs M k2 (M.all k0 (cat (l.take i))) W2 bz b1 b2 a0 bx b8 a8 first width bound κ g W.α.gs W.live b3 b4 a1 (by rw[ah];exact a2) (by rw[ah];exact a9) l[i].1 l[i].2 LvF (by rw[ah];exact be.keep (fun x ⟨e,he,h2⟩=>aj x ⟨e,a5 e he,h2⟩)) a5
    mk bq fs us ok hM hκ cu b5 b6 a6 ao oM oM c7
   rw[ah] at bf;obtain⟨vb,rest,rfl,rfl,dz,d0,d1⟩:∃b rest,p=some ⟨b,0,none⟩∧cf=[(b,row (Ai (l.map (·.1))++rest) 42)]∧cap*4≤(Ai (l.map (·.1))).length+rest.length∧l.length≤cap∧cap≤maxLen:=by
    rcases hV.2 with⟨_,e,_⟩|hh
    ·omega
    ·exact hh
   have ds:((Ai (l.map (·.1))++rest).drop (i*4)).take 4=_:=Mp a3;have b7:=uA (κ:=κ) a3;have au:=iA a3;have av:flv l[i].1= .agg #[Z9 Z8 (l[i].1.first:Int),Z9 Z8 (l[i].1.blocks:Int),Z9 Z8 (l[i].1.width:Int),Z9 Z8 (l[i].1.count:Int)]:=rfl;rw[av] at bf;generalize hx:l[i]=x at*;generalize hcells:Ai (l.map (·.1))++rest=cells at*;repeat(refine sA ?_;intros)
   refine cL bf ?_;rintro _ _ ⟨ad,ae,ag,W3,k3,aw,bg,e,rfl,rfl,al,bh,am,hc⟩;try dsimp only[AA,AB]
   have aa:=ab.trans bh;rcases hc with⟨rfl,ai,ax,bi,c8,c9⟩|⟨he,da,b9⟩
   ·repeat(refine sA ?_;intros)
    refine Dn.round ⟨i+1,ad,ae,ag,aw,bg,W3,k3⟩ ⟨bc,al,by rw[b7];exact aa,aj.trans am,ai,ax,?_,?_,?_⟩ oD
    ·rw[au,Aj.all_app,←ac];exact bi
    ·rw[au,Aj.st_app,←ac];exact c8
    ·rw[au,Aj.bad_app,ak,←ac];exact c9
   ·have ay:(e=6∧W.δ.fault≠-1)∨∃n:Nat,M.bad k0 (cat l)=some n∧e=(n:Int):=by
     rcases b9 with⟨a,b⟩|⟨n,a,b⟩
     ·exact .inl ⟨a,Ki ab b⟩
     ·refine .inr ⟨n,?_,b⟩;rw[a4,Aj.bad_app,Aj.bad_app,ak,←ac];dsimp only;rw[a]
    rcases da with⟨ai,ax,ps,bi⟩|⟨ai,ax,bk⟩
    ·have dt:W3.δ.size=W.δ.size:=aa.size;have an:=Za bw bd ba bs W3 ad ae ag al bx first _ width bound g ps aw bg bi W.α.gs ai W.live ax
     repeat(refine sA ?_;intros)
     refine Go.SL.Lv.call (hc:=an.2) (h:=?_);rintro _ _ ⟨cg,ci,cj,W5,d2,d3,rfl,rfl,db,dc,dd,de,df,d4⟩;try dsimp only[AA,AB]
     (refine lN [Ab bw bd ba bs,cg,ci,cj,[(vb,row cells 42)],(M.C k3).flatten] ?_;exact⟨cg,ci,cj,W5,k3,rfl,db,(aa.trans dc).weak oM (AI _),de,fun x hx=>by rw[dd];exact(aj.trans am) x hx,.inr ⟨e,rfl,he,df,by rcases ay with h|h;exact .inl h;exact .inr (.inr h)⟩⟩)
    ·have an:=Oj bx aw bk;repeat(refine sA ?_;intros)
     refine Go.SL.Lv.call (hc:=an.2) (h:=?_);rintro _ _ ⟨rfl,rfl⟩;try dsimp only[AA,AB]
     (refine lN [Ab bw bd ba bs,ad,ae,ag,[(vb,row cells 42)],(M.C k3).flatten] ?_;exact⟨ad,ae,ag,W3,k3,rfl,al,aa.weak oM (AI _),ai,aj.trans am,.inr ⟨e,rfl,he,ax,by rcases ay with h|h;exact .inl h;exact .inr (.inr h)⟩⟩)
  ·obtain rfl:i=l.length:=by omega
   rw[List.take_length] at a2 ac ak ab;have d5:Ac W.δ.size width (M.all k0 (cat l)).length-(M.all k0 (cat l)).length/Ad W.δ.size width≤1:=by unfold Ac;have h1:((M.all k0 (cat l)).length+Ad W.δ.size width-1)/Ad W.δ.size width≤((M.all k0 (cat l)).length+Ad W.δ.size width)/Ad W.δ.size width:=Nat.div_le_div_right oM;rw[Nat.add_div_right _ oM] at h1;omega
   have cm:=Rp bw bd ba bs W2 bz b1 b2 a0 bx first _ width bound g _ b3 b4 a2 W.α.gs a1 W.live a9 oM
   rw[ah] at cm;repeat(refine sA ?_;intros)
   refine cL cm ?_;rintro _ _ ⟨ad,ae,ag,W3,aw,bg,rfl,al,bh,am,ai,bk,hc⟩;try dsimp only[AA,AB]
   have an:=Oj bx aw bk;have aa:=(ab.trans bh).weak (k':=Hw κ l+1) (m':=Ac W.δ.size width bound) oM (AI _);rcases hc with⟨f,rfl,bp,dg,dh,be⟩|⟨rfl,hf,hδ,bp⟩
   ·have av:flv f= .agg #[Z9 Z8 f.first,Z9 Z8 f.blocks,Z9 Z8 f.width,Z9 Z8 f.count]:=rfl;rw[av];repeat(refine sA ?_;intros)
    refine Go.SL.Lv.call (hc:=an.2) (h:=?_);rintro _ _ ⟨rfl,rfl⟩;try dsimp only[AA,AB]
    (refine lN [Ab bw bd ba bs,ad,ae,ag,cf,(M.C k2).flatten] ?_;exact⟨ad,ae,ag,W3,k2,rfl,al,aa,ai,aj.trans am,.inl ⟨f,rfl,ak,ac,by rw[bp];exact .refl _,dg,dh,be⟩⟩)
   ·rw[hz];repeat(refine sA ?_;intros)
    refine Go.SL.Lv.call (hc:=an.2) (h:=?_);rintro _ _ ⟨rfl,rfl⟩;try dsimp only[AA,AB]
    (refine lN [Ab bw bd ba bs,ad,ae,ag,cf,(M.C k2).flatten] ?_;exact⟨ad,ae,ag,W3,k2,rfl,al,aa,ai,aj.trans am,.inr ⟨6,rfl,oM,bp,.inl ⟨rfl,fun e=>by have:=ab.fault e;omega⟩⟩⟩)
 ·repeat(refine sA ?_;intros)
  (refine lN [Ab bw bd ba bs,cd',ca',cs',cf,(M.C k0).flatten] ?_;exact⟨cd',ca',cs',W1,k0,rfl,az,aq.weak (AU _) (AU _),e3,fun x _=>by rw[e1],.inr ⟨5,rfl,oM,by rw[e2],.inr (.inl ⟨rfl,a7⟩)⟩⟩)
theorem iC:∀(pts:List Nat) (live:List Ext),(∀x∈pts,inF live x)→pts.Pairwise (fun x y=>∃z,x<z∧z<y∧¬inF live z)→pts.length≤live.length
 |[],_,_,_=>AU _
 |x::pts,live,h,hp=>by
  obtain⟨e,he,h1,h2⟩:=h x AE;obtain⟨l1,l2,rfl⟩:=EF he;have ab:∀z,¬inF (l1++e::l2) z→¬inF (l1++l2) z:=by rintro z hz ⟨y,hy,h3⟩;exact hz ⟨y,by simp at hy⊢;rcases hy with h|h;exact .inl h;exact .inr (.inr h),h3⟩
  obtain⟨hx,hr⟩:=List.pairwise_cons.1 hp;have:=iC pts (l1++l2) (fun y hy=>?_) (hr.imp fun ⟨z,a,b,c⟩=>⟨z,a,b,ab z c⟩)
  ·simp only[AH,AJ] at this⊢;omega
  ·obtain⟨e2,aa,h3,h4⟩:=h y (AF _ hy);obtain⟨z,ad,ae,ac⟩:=hx y hy;simp only[AS,AM] at aa;rcases aa with aa|rfl|aa
   ·exact⟨e2,BN _ aa,h3,h4⟩
   ·exact absurd ⟨e2,he,oM,oM⟩ ac
   ·exact⟨e2,List.mem_append_right _ aa,h3,h4⟩
theorem iD:∀(l:List Ext),Bc l≤l.length*big l
 |[]=>AU _
 |e::l=>by
  have h1:=iD l;have h2:e.2≤big (e::l):=Yj AE;have h3:big l≤big (e::l):=by rw[show e::l=[e]++l from rfl,Yi];omega
  have h4:=CF l.length h3;simp only[Bc,AZ,DJ,AJ,BH] at h1⊢;omega
theorem uD {σ:Sp} {live:List Ext} (h:Ht σ live) (hf:fok σ.n σ.free):σ.free.length≤live.length+1:=by
 cases hfr:σ.free.reverse with
 |nil=>
      have:σ.free=[]:=by simpa using hfr
      rw[this];simp
 |cons e r=>
  have he:σ.free=r.reverse++[e]:=by rw[←List.reverse_reverse σ.free,hfr];simp
  have ac:=hf;rw[he,Gk] at ac;obtain⟨h1,h2,h3⟩:=ac;have:=iC (r.reverse.map fun a=>a.1+a.2) live ?_ ?_
  ·rw[he];simp at this⊢;omega
  ·intro x hx;obtain⟨a,ha,rfl⟩:=AN.1 hx;have h4:=h3 a ha e AE;have h5:=h2.1 e AE;have h6:a.1+a.2<σ.n:=oM;cases hc:Classical.propDecidable (inF live (a.1+a.2)) with
   |isTrue h=>exact h
   |isFalse hn=>
    exfalso;obtain⟨b,hb,h7,h8⟩:=(h.free _ h6).2 hn;rw[he] at hb;rcases AS.1 hb with hb|hb
    ·have ad:=h1.2;have ae:a=b∨a.1+a.2<b.1∨b.1+b.2<a.1:=by
      by_cases ab:a=b
      ·exact .inl ab
      ·right;obtain⟨i,hi,rfl⟩:=CU ha;obtain⟨j,hj,rfl⟩:=CU hb;rcases Nat.lt_trichotomy i j with aa|aa|aa
       ·exact .inl (A9.1 ad i j hi hj aa)
       ·subst aa;exact absurd rfl ab
       ·exact .inr (A9.1 ad j i hj hi aa)
     rcases ae with rfl|h9|h9<;>omega
    ·simp only[AW] at hb;subst hb;omega
  ·rw[List.pairwise_map];refine(h1.2.and (List.pairwise_of_forall_mem_list (fun a ha b hb=>(⟨ha,hb⟩:a∈r.reverse∧b∈r.reverse)))).imp ?_;rintro a b ⟨ab,ha,hb⟩;have ah:=h1.1 b hb;have ag:b∈σ.free:=by rw[he];exact BN _ hb
   exact⟨b.1,ab,oM,(h.free b.1 (by have:=hf.1 b ag;omega)).1 ⟨b,ag,AI _,oM⟩⟩
theorem uE {σ:Sp} {live:List Ext} (h:Ht σ live) (hf:fok σ.n σ.free) {m:Nat} (hm:m*(live.length+1)+Bc live≤σ.n):m≤big σ.free:=by
 have h1:=iD σ.free;have h2:=uD h hf;have h3:=h.sum;by_cases aa:m≤big σ.free
 ·exact aa
 ·exfalso;have h4:σ.free.length*big σ.free≤(live.length+1)*big σ.free:=BB _ h2;have h5:(live.length+1)*(big σ.free+1)≤(live.length+1)*m:=CF _ oM;rw[Nat.mul_succ] at h5;rw[EM m] at hm;omega
end Go.Proofs.YtaofijjjheiknaaGreat
namespace Go.Srt
set_option linter.unusedSectionVars false
variable {α:Type} {lt:α→α→Bool}
def Hy (lt:α→α→Bool) (once:Bool) (x:α):List α→List α
 |[]=>[x]
 |y::l=>if lt y x then y::Hy lt once x l else if once&& !lt x y then x::l else x::y::l
def srt (lt:α→α→Bool) (once:Bool):List α→List α
 |[]=>[]
 |x::l=>Hy lt once x (srt lt once l)
theorem Zu {once:Bool} {x z:α}:∀{l:List α},z∈Hy lt once x l→z=x∨z∈l
 |[],h=>by simpa[Hy] using h
 |y::l,h=>by
  unfold Hy at h;split at h
  ·rcases List.mem_cons.1 h with rfl|h
   ·exact .inr List.mem_cons_self
   ·exact(Zu h).imp id (List.mem_cons_of_mem _)
  ·split at h
   ·rcases List.mem_cons.1 h with rfl|h
    ·exact .inl rfl
    ·exact .inr (List.mem_cons_of_mem _ h)
   ·rcases List.mem_cons.1 h with rfl|h
    ·exact .inl rfl
    ·exact .inr h
theorem iE (h:Swo lt) {a b c:α} (h1:lt b a=false) (h2:lt b c=true):lt a c=true:=by
 cases h3:lt a c with
 |true=>rfl
 |false=>have:=h.ntrans b a c h1 h3;rw[this] at h2;cases h2
theorem iF (h:Swo lt) {once:Bool} {x:α}:∀{l:List α},Sd lt once l→Sd lt once (Hy lt once x l)
 |[],_=>by simp[Hy,Sd]
 |y::l,hs=>by
  obtain⟨h1,h2⟩:=List.pairwise_cons.1 hs;have ab:Sd lt once l:=h2;unfold Hy;split
  ·rename_i aa;refine List.pairwise_cons.2 ⟨fun z hz=>?_,iF h ab⟩;rcases Zu hz with rfl|hz
   ·cases once with
    |true=>exact aa
    |false=>exact h.asym _ _ aa
   ·exact h1 z hz
  ·rename_i aa;have aa:lt y x=false:=by simpa using aa
   split
   ·rename_i ho;simp only[Bool.and_eq_true,Bool.not_eq_true'] at ho;refine List.pairwise_cons.2 ⟨fun z hz=>?_,ab⟩;have:=h1 z hz;rw[ho.1] at this⊢;simp only[if_true] at this⊢;exact iE h aa this
   ·rename_i ho;refine List.pairwise_cons.2 ⟨fun z hz=>?_,hs⟩;cases once with
    |false=>
     rcases List.mem_cons.1 hz with rfl|hz
     ·exact aa
     ·exact h.ntrans _ _ _ (h1 z hz) aa
    |true=>
     have ac:lt x y=true:=by simpa using ho
     rcases List.mem_cons.1 hz with rfl|hz
     ·exact ac
     ·have:=h1 z hz;simp only[if_true] at this⊢;exact iE h (h.asym _ _ ac) this
theorem iG (h:Swo lt) {once:Bool} {x:α}:∀(l:List α),Sp lt once (x::l) (Hy lt once x l)
 |[]=>Sp.refl _ _
 |y::l=>by
  unfold Hy;split
  ·rename_i aa;have e1:Sp lt once ([x]++[y]++l) ([y]++[x]++l):=Sp.app (Sp.swap h (by simpa using aa)) (Sp.refl _ _);exact Sp.trans e1 (Sp.app (a:=[y]) (b:=[y]) (Sp.refl _ _) (iG h l))
  ·rename_i aa;have aa:lt y x=false:=by simpa using aa
   split
   ·rename_i ho;simp only[Bool.and_eq_true,Bool.not_eq_true'] at ho;obtain⟨rfl,ab⟩:=ho;intro c;have he:eqv lt x y=true:=Gm.2 ⟨ab,aa⟩;simp only[List.filter_cons];cases hc:eqv lt c x with
    |true=>simp[Gg]
    |false=>
     cases hc2:eqv lt c y with
     |true=>have:=Vl h hc2 (Vk he);rw[this] at hc;cases hc
     |false=>simp
   ·exact Sp.refl _ _
theorem Kz (h:Swo lt) (once:Bool):∀(l:List α),Sd lt once (srt lt once l)
 |[]=>List.Pairwise.nil
 |_::l=>iF h (Kz h once l)
theorem Wd (h:Swo lt) (once:Bool):∀(l:List α),Sp lt once l (srt lt once l)
 |[]=>Sp.refl _ _
 |x::l=>Sp.trans (Sp.app (a:=[x]) (b:=[x]) (Sp.refl _ _) (Wd h once l)) (iG h _)
theorem srt_is (h:Swo lt) {once:Bool} {l a:List α} (h1:Sd lt once a) (h2:Sp lt once l a):a=srt lt once l:=
 rD h h1 (Kz h once l) (h2.symm.trans (Wd h once l))
theorem iH {x:α}:∀(l:List α),(Hy lt false x l).Perm (x::l)
 |[]=> .refl _
 |y::l=>by
  unfold Hy;split
  ·exact((iH l).cons y).trans (.swap _ _ _)
  ·simp
theorem Bs:∀(l:List α),(srt lt false l).Perm l
 |[]=> .refl _
 |x::l=>(iH _).trans ((Bs l).cons x)
theorem Io {once:Bool}:∀{l:List α} {z:α},z∈srt lt once l→z∈l
 |[],_,h=>h
 |x::l,z,h=>by
  rcases Zu h with rfl|h
  ·exact List.mem_cons_self
  ·exact List.mem_cons_of_mem _ (Io h)
theorem iI {once:Bool} {x:α}:∀(l:List α),(Hy lt once x l).length≤l.length+1
 |[]=>Nat.le_refl _
 |y::l=>by
  unfold Hy;have:=iI (once:=once) (x:=x) l;split
  ·simp only[List.length_cons];omega
  ·split
   ·simp
   ·simp
theorem Zv {once:Bool}:∀(l:List α),(srt lt once l).length≤l.length
 |[]=>Nat.le_refl _
 |x::l=>by have h1:=iI (lt:=lt) (once:=once) (x:=x) (srt lt once l);have h2:=Zv (once:=once) l;simp only[srt,List.length_cons];omega
end Go.Srt
namespace Go.Proofs.YtaofijjjheiknaaGreat
open Go.SL Go.Spc Go.Tup Go.Srt
def Bp (bj bw:Nat) (e:Int) (p:Option Addr) (n cap:Nat):Aa:=[(bj,row [pv bw,Z9 Z8 e,.slice p n cap] 98)]
theorem iJ (bj bw:Nat) (e0 e:Int) (p:Option Addr) (n cap:Nat) (fs:List Fl) (ch:Aa) (hV:Vec 42 4 p n cap (Ai fs) ch) (hn:n≤1000000) (f:Fl):Ct AC 115 [pv bj,flv f,Z9 Z8 e] [Bp bj bw e0 p n cap,ch] fun v H'=>v=flv f∧((e=0∧∃p' cap' ch',H'=[Bp bj bw 0 p' (n+1) cap',ch']∧Vec 42 4 p' (n+1) cap' (Ai (fs++[f])) ch')∨(e≠0∧H'=[Bp bj bw e p n cap,ch])):=by
 have aa:flv f= .agg #[Z9 Z8 f.first,Z9 Z8 f.blocks,Z9 Z8 f.width,Z9 Z8 f.count]:=rfl;rw[aa];unfold Bp;by_cases he:e=0
 ·subst he;refine cG func115 fun _=>?_;repeat(refine sv ?_;intros)
  rename_i p' cap' ch' ab;(refine dP [[(bj,row [pv bw,Z9 Z8 0,.slice p' (n+1) cap'] 98)],ch'] ?_;exact⟨rfl,.inl ⟨rfl,p',cap',ch',rfl,by rw[Ls];exact ab⟩⟩)
 ·refine cG func115 fun _=>?_;repeat(refine sv ?_;intros)
  (refine dP [[(bj,row [pv bw,Z9 Z8 e,.slice p n cap] 98)],ch] ?_;exact⟨rfl,.inr ⟨he,rfl⟩⟩)
theorem Zw (bj bw:Nat) (e:Int) (he:e≠0) (p:Option Addr) (n cap:Nat) (x1 x2 x3 x4:Value):CtQ AC 52 [pv bj,x1,x2,x3,x4] [Bp bj bw e p n cap] (flv ⟨0,0,0,0⟩):=by
 have aa:=eQ1;rw[aa];unfold Bp;refine cG func52 fun _=>?_;repeat(refine sA ?_;intros)
 (refine dP [[(bj,row [pv bw,Z9 Z8 e,.slice p n cap] 98)]] ?_;exact⟨rfl,rfl⟩)
def StepR (J:Aa) (Q:Fl→Int→Aa→Prop) (v:Value) (H':Hp):Prop:=∃f e aa,v= .tuple #[flv f,Z9 Z8 e]∧H'=[J,aa]∧Q f e aa
def KeptR (bj bw:Nat) (p:Option Addr) (n cap:Nat) (fs:List Fl) (ch:Aa) (Q:Fl→Int→Aa→Prop) (v:Value) (H':Hp):Prop:=∃f e ab,v=flv f∧Q f e ab∧
 ((e=0∧∃p' aa ac,H'=[Bp bj bw 0 p' (n+1) aa,ac,ab]∧Vec 42 4 p' (n+1) aa (Ai (fs++[f])) ac)∨(e≠0∧H'=[Bp bj bw e p n cap,ch,ab]))
theorem iK (bj bw:Nat) (p:Option Addr) (n cap:Nat) (fs:List Fl) (ch:Aa) (hV:Vec 42 4 p n cap (Ai fs) ch) (hn:n≤1000000) (x1 x2 x3 x4:Value) (Hc:Aa) (Q:Fl→Int→Aa→Prop) (hE:Ct AC 116 [pv bw,x1,x2,x3,x4] [Hc] fun v H'=>∃f e Hc',v= .tuple #[flv f,Z9 Z8 e]∧H'=[Hc']∧Q f e Hc'):Ct AC 52 [pv bj,x1,x2,x3,x4] [Bp bj bw 0 p n cap,ch,Hc] (KeptR bj bw p n cap fs ch Q):=by
 have hK:=fun f e=>iJ bj bw 0 e p n cap fs ch hV hn f;unfold Bp at hK⊢;refine cG func52 fun _=>?_;repeat(refine sA ?_;intros)
 refine cL hE ?_;rintro _ _ ⟨f,e,Hc',rfl,rfl,hQ⟩;try dsimp only[AA,AB]
 have ab:flv f= .agg #[Z9 Z8 f.first,Z9 Z8 f.blocks,Z9 Z8 f.width,Z9 Z8 f.count]:=rfl;have ac:=hK f e;rw[ab] at ac⊢;repeat(refine sA ?_;intros)
 refine cL ac ?_;rintro _ _ ⟨rfl,⟨rfl,p',aa,ad,rfl,ae⟩|⟨he,rfl⟩⟩
 ·repeat(refine sA ?_;intros)
  (refine dP [[(bj,row [pv bw,Z9 Z8 0,.slice p' (n+1) aa] 98)],ad,Hc'] ?_;exact⟨f,0,Hc',rfl,hQ,.inl ⟨rfl,p',aa,ad,rfl,ae⟩⟩)
 ·repeat(refine sA ?_;intros)
  (refine dP [[(bj,row [pv bw,Z9 Z8 e,.slice p n cap] 98)],ch,Hc'] ?_;exact⟨f,e,Hc',rfl,hQ,.inr ⟨he,rfl⟩⟩)
theorem Run_no (bj bw:Nat) (e:Int) (he:e≠0) (p:Option Addr) (n cap:Nat) (x1:Value):CtQ AC 60 [pv bj,x1] [Bp bj bw e p n cap] (flv ⟨0,0,0,0⟩):=by
 have aa:=eQ1;rw[aa];unfold Bp;refine cG func60 fun _=>?_;repeat(refine sA ?_;intros)
 (refine dP [[(bj,row [pv bw,Z9 Z8 e,.slice p n cap] 98)]] ?_;exact⟨rfl,rfl⟩)
theorem uF (bj bw:Nat) (p:Option Addr) (n cap:Nat) (fs:List Fl) (ch:Aa) (hV:Vec 42 4 p n cap (Ai fs) ch) (hn:n≤1000000) (mk:Nat) (ac:Callable AC mk) (us:List Value) (Hc:Aa) (Q:Fl→Int→Aa→Prop) (hE:Ct AC mk us [Bp bj bw 0 p n cap,Hc] (StepR (Bp bj bw 0 p n cap) Q)):Ct AC 60 [pv bj,.func (.func mk) #[] us.toArray] [Bp bj bw 0 p n cap,ch,Hc] (KeptR bj bw p n cap fs ch Q):=by
 have hK:=fun f e=>iJ bj bw 0 e p n cap fs ch hV hn f;unfold Bp at hK hE⊢;refine cG func60 fun _=>?_;repeat(refine sA ?_;intros)
 refine R.callV (fs:=[]) (vs:=[]) (hf:=ac) (hct:=hE) (h:=?_);rintro _ _ ⟨f,e,aa,rfl,rfl,hQ⟩;dsimp only[AA,AB];have ad:flv f= .agg #[Z9 Z8 f.first,Z9 Z8 f.blocks,Z9 Z8 f.width,Z9 Z8 f.count]:=rfl;have ae:=hK f e;rw[ad] at ae⊢;repeat(refine sA ?_;intros)
 refine cL ae ?_;rintro _ _ ⟨rfl,⟨rfl,p',ab,ag,rfl,ah⟩|⟨he,rfl⟩⟩
 ·repeat(refine sA ?_;intros)
  (refine dP [[(bj,row [pv bw,Z9 Z8 0,.slice p' (n+1) ab] 98)],ag,aa] ?_;exact⟨f,0,aa,rfl,hQ,.inl ⟨rfl,p',ab,ag,rfl,ah⟩⟩)
 ·repeat(refine sA ?_;intros)
  (refine dP [[(bj,row [pv bw,Z9 Z8 e,.slice p n cap] 98)],ch,aa] ?_;exact⟨f,e,aa,rfl,hQ,.inr ⟨he,rfl⟩⟩)
theorem Ct.wide {P:Program} {f:FuncId} {args:List Value} {Hf:Hp} {R:Value→Hp→Prop} (h:Ct P f args Hf R) (F:Hp):Ct P f args (Hf++F) fun v H'=>∃H1,R v H1∧H'=H1++F:=by have h2:= @Ct.frame P f args Hf F R h;unfold Ct;exact fun w hw=>(h2 hw).mono fun e w' ⟨v,H',h3,h4,h5⟩=>⟨v,H'++F,h3,⟨H',h4,rfl⟩,h5⟩
open Classical in
theorem Cp {a b:Aa} (h:∀z,List.count z a=List.count z b):a.Perm b:=List.perm_iff_count.2 h
structure Jp where
 bw:Nat
 bd:Nat
 ba:Nat
 bs:Nat
 bj:Nat
 size:Nat
 room:Nat
 n:Nat
 gs:List Gr
 L0:List Ext
 D0:Nat→Option (List Int)
 fl:Prop
 b0:Nat
structure Jp.Ok (p:Jp):Prop where
 size:8≤p.size∧p.size≤256
 left:(p.gs.map (·.n)).sum+8*p.size≤p.room
structure Jb where
 e:Int
 er:Option Nat
 G:List (Fl×List T5)
 acts:Nat
 took:Nat
structure Ea (p:Jp) (J:Jb) (held:List (Fl×List T5)) (W:Wk):Prop where
 gs:W.α.gs.Perm p.gs
 room:W.α.room=p.room
 size:W.δ.size=p.size
 n:W.σ.n=p.n
 live:W.live.Perm (Au (held.map (·.1)) p.L0)
 files:∀x∈held,Be W.δ.disk p.size [x.1.ext] x.1 x.2
 len:held.length≤100000
 keep:∀x,inF p.L0 x→W.δ.disk x=p.D0 x
 flt:¬p.fl→W.δ.fault= -1
 acts:W.δ.acts≤J.acts
 tk:p.b0≤big W.σ.free+J.took
 ok:J.e=0→held.Perm J.G∧J.er=none
 why:J.e≠0→(J.e=6∧p.fl)∨∃m:Nat,J.er=some m∧J.e=(m:Int)
def Bv (p:Jp) (e:Int) (cd ca cs:Aa) (ph:Option Addr) (n cap:Nat) (ch:Aa):Aa:=[Ab p.bw p.bd p.ba p.bs,cd,ca,cs,Bp p.bj p.bw e ph n cap,ch].flatten
def Fm (p:Jp) (J:Jb) (C:Aa):Prop:=∃W cd ca cs held ph cap ch,C=Bv p J.e cd ca cs ph held.length cap ch∧
 Wc p.bd p.ba p.bs W cd ca cs∧Vec 42 4 ph held.length cap (Ai (held.map (·.1))) ch∧Ea p J held W
def In0 (p:Jp) (x:Fl×List T5):Prop:=∃Lv,Be p.D0 p.size Lv x.1 x.2∧∀e∈Lv,e∈p.L0
def Zx (p:Jp) (G:List (Fl×List T5)) (m:Nat):Prop:=m*(G.length+p.L0.length+1)+((G.map (·.1.blocks)).sum+Bc p.L0)≤p.n
def Ou (p:Jp) (J:Jb) (m:Nat):Prop:=Zx p J.G m∨J.took+m≤p.b0
theorem iL {f:Fl} (hb:f.blocks≠0):∀{fs:List Fl} {L:List Ext},(f∈fs∨f.ext∈L)→f.ext∈Au fs L
 |[],L,h=>by simpa[Au] using h
 |g::fs,L,h=>by
  simp only[Au,List.foldl_cons];refine iL hb (fs:=fs) (L:=Az g L) ?_;rcases h with h|h
  ·rcases AM.1 h with rfl|h
   ·right;unfold Az;rw[if_neg hb];exact AE
   ·exact .inl h
  ·right;unfold Az;split
   ·exact h
   ·exact AF _ h
theorem Zy {e:Ext}:∀{fs:List Fl} {L:List Ext},e∈L→e∈Au fs L
 |[],_,h=>h
 |g::fs,L,h=>by
  simp only[Au,List.foldl_cons];refine Zy (fs:=fs) (L:=Az g L) ?_;unfold Az;split
  ·exact h
  ·exact AF _ h
theorem Ts:∀(fs:List Fl) (L:List Ext),Bc (Au fs L)=(fs.map (·.blocks)).sum+Bc L
 |[],L=>by simp[Au]
 |f::fs,L=>by have h1:Au (f::fs) L=Au fs (Az f L):=rfl;rw[h1,Ts fs,tY];simp;omega
theorem We:∀(fs:List Fl) (L:List Ext),(Au fs L).length≤fs.length+L.length
 |[],L=>by simp[Au]
 |f::fs,L=>by
  have h1:Au (f::fs) L=Au fs (Az f L):=rfl;have h2:=We fs (Az f L);have h3:(Az f L).length≤L.length+1:=by unfold Az;split<;>simp
  rw[h1,AJ];omega
theorem Ea.file {p:Jp} {J:Jb} {held:List (Fl×List T5)} {W:Wk} (h:Ea p J held W) {x:Fl×List T5} (hx:x∈held∨In0 p x):Ce W x:=by
 rcases hx with hx|⟨Lv,hf,hs⟩
 ·have hf:=h.files x hx;rw[←h.size] at hf;by_cases hb:x.1.blocks=0
  ·exact⟨[],{hf with live:=fun e=>absurd hb e},by simp⟩
  ·refine⟨[x.1.ext],hf,fun e he=>?_⟩;simp only[AW] at he;subst he;exact h.live.mem_iff.2 (iL hb (.inl (AN.2 ⟨x,hx,rfl⟩)))
 ·refine⟨Lv,?_,fun e he=>h.live.mem_iff.2 (Zy (hs e he))⟩;rw[h.size];exact hf.keep fun y ⟨e,he,h2⟩=>h.keep y ⟨e,hs e he,h2⟩
theorem Ea.big {p:Jp} {J:Jb} {held:List (Fl×List T5)} {W:Wk} {cd ca cs:Aa} (h:Ea p J held W) (hW:Wc p.bd p.ba p.bs W cd ca cs) (he:J.e=0) {m:Nat} (hr:Ou p J m):m≤big W.σ.free:=by
 have ab:=h.tk;rcases hr with hr|hr;rotate_left
 ·omega
 obtain⟨hp,_⟩:=h.ok he;obtain⟨_,_,_,_,_,aa,_⟩:=hW.sp;refine uE hW.live aa ?_;have h1:=h.live.length_eq;have h2:=We (held.map (·.1)) p.L0;have h3:Bc W.live=_:=(Ti h.live).trans (Ts _ _);have h4:=hp.length_eq;have h5:(held.map (·.1)).map (·.blocks)=held.map (·.1.blocks):=by simp
 have h6:=(hp.map (·.1.blocks)).sum_nat;rw[AR] at h2;rw[h3,h5,h6,h.n];unfold Zx at hr;have h7:m*(W.live.length+1)≤m*(J.G.length+p.L0.length+1):=CF _ oM;omega
theorem Ea.used {p:Jp} {J:Jb} {held:List (Fl×List T5)} {W:Wk} {cd ca cs:Aa} (hp:p.Ok) (h:Ea p J held W) (hW:Wc p.bd p.ba p.bs W cd ca cs):8*W.δ.size≤W.α.room-W.α.used:=by have h1:=hW.ar.num.2.2.2;rw[(h.gs.map (·.n)).sum_nat] at h1;have:=hp.left;rw[h.size,h.room];omega
structure Hz (p:Jp) (W W':Wk) (A T:Nat) (er:Option Nat) (ts:List T5) (f:Fl) (e:Int):Prop where
 gs:W'.α.gs.Perm W.α.gs
 room:W'.α.room=W.α.room
 size:W'.δ.size=W.δ.size
 n:W'.σ.n=W.σ.n
 acts:W'.δ.acts≤W.δ.acts+A
 big:big W.σ.free≤big W'.σ.free+T
 fault:W.δ.fault= -1→W'.δ.fault= -1
 keep:Ap W.live W W'
 res:(e=0∧er=none∧W'.live.Perm (Az f W.live)∧Be W'.δ.disk W.δ.size [f.ext] f ts)∨(e≠0∧f=⟨0,0,0,0⟩∧W'.live.Perm W.live∧((e=6∧W.δ.fault≠-1)∨∃m:Nat,er=some m∧e=(m:Int)))
theorem Ea.step {p:Jp} {J:Jb} {held:List (Fl×List T5)} {W W':Wk} (h:Ea p J held W) (he:J.e=0) {A T:Nat} {er:Option Nat} {ts:List T5} {f:Fl} {e:Int} (hs:Hz p W W' A T er ts f e) (hl:held.length<100000):Ea p ⟨e,J.er.or er,(f,ts)::J.G,J.acts+A,J.took+T⟩ (if e=0 then held++[(f,ts)] else held) W':=by
 have hG:=h.ok he;have ab:p.b0≤Go.Spc.big W'.σ.free+(J.took+T):=by have:=h.tk;have:=hs.big;omega
 have aa:∀x∈held,Be W'.δ.disk p.size [x.1.ext] x.1 x.2:=by intro x hx;obtain⟨Lv,h1,h2⟩:=h.file (.inl hx);have h3:=h1.keep (d':=W'.δ.disk) fun y ⟨e,he,h4⟩=>hs.keep y ⟨e,h2 e he,h4⟩;rw[h.size] at h3;exact{h3 with live:=fun _=>AW.2 rfl}
 have ac:∀x,inF p.L0 x→W'.δ.disk x=p.D0 x:=fun x hx=>by rw[hs.keep x,h.keep x hx];obtain⟨e,he,h2⟩:=hx;exact⟨e,h.live.mem_iff.2 (Zy he),h2⟩
 rcases hs.res with⟨rfl,r1,r2,r3⟩|⟨r0,rfl,r2,r3⟩
 ·refine⟨hs.gs.trans h.gs,hs.room.trans h.room,hs.size.trans h.size,hs.n.trans h.n,?_,?_,?_,ac,fun hf=>hs.fault (h.flt hf),A5 hs.acts (DP h.acts _),ab,fun _=>⟨?_,?_⟩,fun h0=>absurd rfl h0⟩
  ·simp only[if_true,A0,AZ,CG];rw[Tq];exact r2.trans (Oq h.live)
  ·simp only[if_true,AS,AW];rintro x (hx|rfl)
   ·exact aa x hx
   ·rw[←h.size];exact r3
  ·simp only[if_true,AH,AJ,AO];omega
  ·simp only[if_true];exact CI.trans (hG.1.cons _)
  ·simp only[hG.2,r1];rfl
 ·simp only[if_neg r0];refine⟨hs.gs.trans h.gs,hs.room.trans h.room,hs.size.trans h.size,hs.n.trans h.n,r2.trans h.live,aa,h.len,ac,fun hf=>hs.fault (h.flt hf),A5 hs.acts (DP h.acts _),ab,fun h0=>absurd h0 r0,fun _=>?_⟩;rcases r3 with⟨a,b⟩|⟨m,a,b⟩
  ·refine .inl ⟨a,?_⟩;by_cases hf:p.fl
   ·exact hf
   ·exact absurd (h.flt hf) b
  ·exact .inr ⟨m,by simp only[hG.2,a];rfl,b⟩
theorem Ea.idle {p:Jp} {J:Jb} {held:List (Fl×List T5)} {W:Wk} (h:Ea p J held W) (he:J.e≠0) (er:Option Nat) (G:List (Fl×List T5)) (A T:Nat):Ea p ⟨J.e,J.er.or er,G,J.acts+A,J.took+T⟩ held W:=
 {h with
  acts:=A5 h.acts (Nat.le_add_right _ _)
  tk:=A5 h.tk oD
  ok:=fun h0=>absurd h0 he
  why:=fun _=>(h.why he).imp id fun ⟨m,a,b⟩=>⟨m,by simp only[a];rfl,b⟩}
theorem JMake (p:Jp) (hp:p.Ok) (J:Jb) (C:Aa) (hJ:Fm p J C) {K:Type} (M:Aj K) (k0:K) (width bound κ A T:Nat) (a2:1≤width) (aq:width≤5) (a1:bound≤100000000) (mk:Nat) (av:Callable AC mk) (fs us:List Value) (ok:K→T5→Prop) (hM:Bw M width ok mk fs us) (hκ:∀k t,ok k t→(M.outs k t).length≤κ) (a0:κ≤10000) (l:List (Fl×List T5)) (hl:∀x∈l,(x∈J.G∨In0 p x)) (a4:∀x∈l,x.1.count≤1000000) (pa:Option Addr) (cap:Nat) (cf:Aa) (hV:Vec 42 4 pa l.length cap (Ai (l.map (·.1))) cf) (a3:J.e=0→M.oks ok k0 (cat l)) (au:J.e=0→(M.all k0 (cat l)).length≤bound) (hT:Ac p.size width bound≤T) (aj:J.e=0→Ou p J T) (hA:Hw κ l+1≤A) (bc:J.acts+A≤10000000000) (be:J.G.length≤1000):Ct AC 52 [pv p.bj,Z9 Z8 width,Z9 Z8 bound,.func (.func mk) fs.toArray us.toArray,.slice pa l.length cap] (C::cf::M.C k0) fun v H'=> ∃f C' e' k',v=flv f∧H'=C'::cf::M.C k'∧Fm p ⟨e',J.er.or (M.bad k0 (cat l)),(f,M.all k0 (cat l))::J.G,J.acts+A,J.took+T⟩ C'∧(e'=0→J.e=0∧k'=M.st k0 (cat l)∧f.width=width∧f.count=(M.all k0 (cat l)).length∧M.bad k0 (cat l)=none)∧f.count≤bound∧f.blocks≤Ac p.size width bound:=by
 obtain⟨W,cd,ca,cs,held,ph,ad,ch,rfl,hW,ak,ac⟩:=hJ;by_cases he:J.e=0
 ·have bf:=ac.used hp hW;have bg:Ac W.δ.size width bound≤T:=by rw[ac.size];exact hT
  have hG:=ac.ok he;have al:=uC p.bw p.bd p.ba p.bs M k0 W cd ca cs hW width bound κ a2 aq a1 mk av fs us ok hM hκ a0 l
   (fun x hx=>⟨ac.file ((hl x hx).imp (fun h=>hG.1.mem_iff.2 h) id),a4 x hx⟩) pa cap cf hV (a3 he) (au he) oM (by have:=ac.acts;omega)
  have a5:Ct AC 116 [pv p.bw,Z9 Z8 width,Z9 Z8 bound,.func (.func mk) fs.toArray us.toArray,.slice pa l.length cap] [[Ab p.bw p.bd p.ba p.bs,cd,ca,cs,cf,(M.C k0).flatten].flatten]
    fun v H'=>∃f e am,v= .tuple #[flv f,Z9 Z8 e]∧H'=[am]∧∃aa ab cs' W' k',am=[Ab p.bw p.bd p.ba p.bs,aa,ab,cs',cf,(M.C k').flatten].flatten∧Wc p.bd p.ba p.bs W' aa ab cs'∧Hz p W W' A T (M.bad k0 (cat l)) (M.all k0 (cat l)) f e∧
     (e=0→k'=M.st k0 (cat l)∧f.width=width∧f.count=(M.all k0 (cat l)).length):=by
   refine Ct.convP al oA19 ?_;rintro v H' ⟨aa,ab,cs',W',k',rfl,ag,ae,a6,a7,hc⟩;have ah:∀f e,_→Hz p W W' A T (M.bad k0 (cat l)) (M.all k0 (cat l)) f e:=fun f e hr=>⟨a6,ae.room,ae.size,ae.n,by have:=ae.acts.2;omega,by have:=ae.big;omega,ae.fault,a7,hr⟩
   rcases hc with⟨f,rfl,h1,h2,h3,h4,h5,h6⟩|⟨e,rfl,h1,h2,h3⟩
   ·exact⟨[[Ab p.bw p.bd p.ba p.bs,aa,ab,cs',cf,(M.C k').flatten].flatten],⟨f,0,_,rfl,rfl,aa,ab,cs',W',k',rfl,ag,ah f 0 (.inl ⟨rfl,h1,h3,h6⟩),fun _=>⟨h2,h4,h5⟩⟩,by simp⟩
   ·refine⟨[[Ab p.bw p.bd p.ba p.bs,aa,ab,cs',cf,(M.C k').flatten].flatten],⟨⟨0,0,0,0⟩,e,_,rfl,rfl,aa,ab,cs',W',k',rfl,ag,ah _ e (.inr ⟨h1,rfl,h2,?_⟩),fun h0=>absurd h0 h1⟩,by simp⟩;rcases h3 with h3|⟨_,h3⟩|⟨m,h3,h4⟩
    ·exact .inl h3
    ·have:=ac.big hW he (aj he);omega
    ·exact .inr ⟨m,h3,h4⟩
  have an:=iK p.bj p.bw ph held.length ad _ ch ak (by have:=ac.len;omega) _ _ _ _ _ _ a5;refine Ct.convP an (by rw[he];unfold Bv;refine Cp fun z=>?_;simp only[AX,A4,AQ,A8];omega) ?_;rintro v H' ⟨f,e,am,rfl,⟨aa,ab,cs',W',k',rfl,ag,hS,hz⟩,hc⟩;have aw:f.count≤bound∧f.blocks≤Ac p.size width bound:=by
   rcases hS.res with⟨r0,r1,r2,r3⟩|⟨r0,rfl,r2,r3⟩
   ·obtain⟨_,h2,h3⟩:=hz r0;have hb:=au he;refine⟨oM,?_⟩;rw[r3.blk,h2,ac.size];exact Da oM
   ·exact⟨AU _,AU _⟩
  have a8:held.length<100000:=by have h2:=hG.1.length_eq;omega
  have ax:=ac.step he hS a8;rcases hc with⟨rfl,p',ai,ay,rfl,a9⟩|⟨az,rfl⟩
  ·have hr:Hz p W W' A T (M.bad k0 (cat l)) (M.all k0 (cat l)) f 0:=hS;have ao:M.bad k0 (cat l)=none:=by
    rcases hS.res with⟨_,r1,_⟩|⟨r0,_⟩
    ·exact r1
    ·exact absurd rfl r0
   refine⟨Bv p 0 aa ab cs' p' (held.length+1) ai ay::cf::M.C k',⟨f,_,0,k',rfl,rfl,⟨W',aa,ab,cs',held++[(f,M.all k0 (cat l))],p',ai,ay,by simp,ag,?_,by simpa using ax⟩,fun _=>⟨he,(hz rfl).1,(hz rfl).2.1,(hz rfl).2.2,ao⟩,aw⟩,?_⟩
   ·simpa using a9
   ·unfold Bv;refine Cp fun z=>?_;simp only[AX,A4,AQ,A8];omega
  ·refine⟨Bv p e aa ab cs' ph held.length ad ch::cf::M.C k',⟨f,_,e,k',rfl,rfl,⟨W',aa,ab,cs',held,ph,ad,ch,rfl,ag,ak,by simpa[az] using ax⟩,fun h0=>absurd h0 az,aw⟩,?_⟩;unfold Bv;refine Cp fun z=>?_;simp only[AX,A4,AQ,A8];omega
 ·have an:=Ct.wide (Zw p.bj p.bw J.e he ph held.length ad (Z9 Z8 width) (Z9 Z8 bound) (.func (.func mk) fs.toArray us.toArray) (.slice pa l.length cap)) ([Ab p.bw p.bd p.ba p.bs,cd,ca,cs,ch]++(cf::M.C k0));refine Ct.convP an (by unfold Bv;refine Cp fun z=>?_;simp only[AX,A4,AQ,A3,A8];omega) ?_;rintro v H' ⟨H1,⟨rfl,rfl⟩,rfl⟩;refine⟨Bv p J.e cd ca cs ph held.length ad ch::cf::M.C k0,⟨⟨0,0,0,0⟩,_,J.e,k0,rfl,rfl,⟨W,cd,ca,cs,held,ph,ad,ch,rfl,hW,ak,ac.idle he _ _ _ _⟩,fun h0=>absurd h0 he,AU _,AU _⟩,?_⟩;unfold Bv;refine Cp fun z=>?_;simp only[AX,A4,AQ,A3,A8];omega
def fl4 (f:Fl):List Value:=[Z9 Z8 f.first,Z9 Z8 f.blocks,Z9 Z8 f.width,Z9 Z8 f.count]
theorem Wf (f:Fl) (fs:List Fl):Ai (f::fs)=fl4 f++Ai fs:=by simp[Ai,fl4]
theorem iM:∀(fs:List Fl) (i:Nat) (g:Fl) (rest:List Value),i<fs.length→Bq (Ai fs++rest) (i*4) (fl4 g)=Ai (fs.set i g)++rest
 |[],_,_,_,h=>by simp at h
 |f::fs,0,g,rest,_=>by simp[Ai,Bq,fl4]
 |f::fs,i+1,g,rest,h=>by have ih:=iM fs i g rest oA15;rw[List.set_cons_succ,Wf,Wf,AT,AT,←ih,←gQ];congr 1;simp[fl4];omega
theorem uG (bj bw:Nat) (e:Int) (he:e≠0) (p:Option Addr) (n cap:Nat) (f:Fl) (o:T5) (once:Bool):CtQ AC 64 [pv bj,flv f,tv o,.bool once] [Bp bj bw e p n cap] (flv ⟨0,0,0,0⟩):=by
 have aa:flv f= .agg #[Z9 Z8 f.first,Z9 Z8 f.blocks,Z9 Z8 f.width,Z9 Z8 f.count]:=rfl;have hz:=eQ1;have ab:tv o= .agg #[Z9 Z8 o.c0,Z9 Z8 o.c1,Z9 Z8 o.c2,Z9 Z8 o.c3,Z9 Z8 o.c4]:=rfl;rw[aa,hz,ab];unfold Bp;refine cG func64 fun _=>?_;repeat(refine sA ?_;intros)
 (refine dP [[(bj,row [pv bw,Z9 Z8 e,.slice p n cap] 98)]] ?_;exact⟨rfl,rfl⟩)
theorem uH (bj bw:Nat) (p:Option Addr) (cap:Nat) (held:List (Fl×List T5)) (ch:Aa) (hV:Vec 42 4 p held.length cap (Ai (held.map (·.1))) ch) (hn:held.length≤1000000) (f:Fl) (ts:List T5) (hf:(f,ts)∈held) (o:T5) (once:Bool) (Hc:Aa) (Q:Fl→Int→Aa→Prop) (hS:Ct AC 127 [pv bw,flv f,tv o,.bool once] [Hc] fun v H'=>∃g e Hc',v= .tuple #[flv g,Z9 Z8 e]∧H'=[Hc']∧Q g e Hc'):Ct AC 64 [pv bj,flv f,tv o,.bool once] [Bp bj bw 0 p held.length cap,ch,Hc] fun v H'=>∃g e Hc',Q g e Hc'∧((e=0∧v=flv g∧∃i ch' us,held[i]? =some (f,us)∧H'=[Bp bj bw 0 p held.length cap,ch',Hc']∧∀ts',Vec 42 4 p held.length cap (Ai ((held.set i (g,ts')).map (·.1))) ch')∨ (e≠0∧v=flv ⟨0,0,0,0⟩∧H'=[Bp bj bw e p held.length cap,ch,Hc'])):=by
 have ad:flv f= .agg #[Z9 Z8 f.first,Z9 Z8 f.blocks,Z9 Z8 f.width,Z9 Z8 f.count]:=rfl;have hz:=eQ1;have ak:tv o= .agg #[Z9 Z8 o.c0,Z9 Z8 o.c1,Z9 Z8 o.c2,Z9 Z8 o.c3,Z9 Z8 o.c4]:=rfl;rw[ad,ak] at hS⊢;rw[hz];unfold Bp;have av:0<held.length:=List.length_pos_of_mem hf;obtain⟨vb,rest,rfl,rfl,al,am,an⟩:∃b rest,p=some ⟨b,0,none⟩∧ch=[(b,row (Ai (held.map (·.1))++rest) 42)]∧cap*4≤(Ai (held.map (·.1))).length+rest.length∧held.length≤cap∧cap≤maxLen:=by
  rcases hV.2 with⟨_,e,_⟩|hh
  ·omega
  ·exact hh
 have aw:=hV.1;refine cG func64 fun _=>?_;repeat(refine sv ?_;intros)
 refine cL hS ?_;rintro _ _ ⟨g,e,Hc',rfl,rfl,hQ⟩;try dsimp only[AA,AB]
 have ao:flv g= .agg #[Z9 Z8 g.first,Z9 Z8 g.blocks,Z9 Z8 g.width,Z9 Z8 g.count]:=rfl;rw[ao];by_cases he:e=0
 ·subst he;generalize hcells:Ai (held.map (·.1))++rest=cells at*;have ab:cap*4≤cells.length:=by rw[←hcells,AH];exact al
  repeat(refine sv ?_;intros)
  rename_i b5 b6 b8 b9;refine G.loop (X:=Nat) (fun i=>i≤held.length∧∀j x,j<i→held[j]? =some x→x.1≠f)
   (fun i=>[(42,Z9 Z8 i),(41,Z9 Z8 held.length),(40,.slice (some ⟨vb,0,none⟩) held.length cap),(9,pv b9),(8,pv b8),(5,pv b5),(0,pv bj)])
   (fun _=>[[(b9,row [Z9 Z8 g.first,Z9 Z8 g.blocks,Z9 Z8 g.width,Z9 Z8 g.count] 42)],[(b8,row [Z9 Z8 0,Z9 Z8 0,Z9 Z8 0,Z9 Z8 0] 42)],[(b5,row [Z9 Z8 f.first,Z9 Z8 f.blocks,Z9 Z8 f.width,Z9 Z8 f.count] 42)],
    [(bj,row [pv bw,Z9 Z8 0,.slice (some ⟨vb,0,none⟩) held.length cap] 98)],[(vb,row cells 42)],Hc']) (fun i=>held.length-i) 0 ⟨AU _,fun j x h=>by omega⟩ (body:=?_)
  rintro i ⟨hi,ae⟩;by_cases ag:i<held.length
  ·have ac:held[i]? =some held[i]:=AG ag;have ah:=Mp (rest:=rest) ac;rw[hcells] at ah;generalize hx:held[i]=x at*;obtain⟨⟨x1,x2,x3,x4⟩,us⟩:=x;obtain⟨f1,f2,f3,f4⟩:=f;dsimp only at*;by_cases ai:x1=f1∧x2=f2∧x3=f3∧x4=f4
   ·obtain⟨rfl,rfl,rfl,rfl⟩:=ai;have aj:Bq cells (i*4) [Z9 Z8 g.first,Z9 Z8 g.blocks,Z9 Z8 g.width,Z9 Z8 g.count]=Ai ((held.map (·.1)).set i g)++rest:=by rw[←hcells];exact iM _ i g rest (by simpa using ag)
    generalize aq:Ai ((held.map (·.1)).set i g)++rest=aa at*;repeat(refine sv ?_;intros)
    (refine dP [[(bj,row [pv bw,Z9 Z8 0,.slice (some ⟨vb,0,none⟩) held.length cap] 98)],[(vb,row aa 42)],Hc'] ?_;refine⟨g,0,Hc',hQ,.inl ⟨rfl,rfl,i,_,us,ac,rfl,fun ts'=>?_⟩⟩);rw[List.map_set];refine Vec.mk' aq.symm (by rw[Lu];simp) ?_ am an;rw[←aj,Rb];exact ab
   ·repeat(refine sv ?_;intros)
    refine Dn.round (i+1) ⟨oM,fun j y hj hy=>?_⟩ oM;by_cases au:j=i
    ·subst au;rw[ac] at hy;simp only[BG] at hy;subst hy;intro h0;simp only[Fl.mk.injEq] at h0;exact ai h0
    ·exact ae j y oM hy
  ·exfalso;obtain⟨j,hj,he⟩:=CU hf;exact ae j _ oM (AG hj) (by rw[he])
 ·repeat(refine sv ?_;intros)
  (refine dP [[(bj,row [pv bw,Z9 Z8 e,.slice (some ⟨vb,0,none⟩) held.length cap] 98)],[(vb,row (Ai (held.map (·.1))++rest) 42)],Hc'] ?_;exact⟨g,e,Hc',hQ,.inr ⟨he,rfl,rfl⟩⟩)
theorem Be.in_ {d d':Nat→Option (List Int)} {s:Nat} {f:Fl} {ts:List T5} {live:List Ext} (h:Be d s [f.ext] f ts) (hm:f.blocks≠0→f.ext∈live) (hk:∀x,inF live x→d' x=d x):Be d' s [f.ext] f ts:=by
 by_cases hb:f.blocks=0
 ·exact{h with onto:=fun j hj=>by omega}
 ·refine h.keep fun x ⟨e,he,h2⟩=>hk x ⟨e,?_,h2⟩;simp only[AW] at he;subst he;exact hm hb
theorem uI {α:Type} {l:List α} {i:Nat} {x:α} (h:l[i]? =some x):∃l1 l2,l=l1++x::l2∧∀y,l.set i y=l1++y::l2:=by
 induction l generalizing i with
 |nil=>simp at h
 |cons a l ih=>
  cases i with
  |zero=>simp only[List.getElem?_cons_zero,BG] at h;subst h;exact⟨[],l,rfl,fun y=>rfl⟩
  |succ i=>
   obtain⟨l1,l2,h1,h2⟩:=ih (i:=i) oA15;exact⟨a::l1,l2,by rw[h1];rfl,fun y=>by rw[List.set_cons_succ,h2];rfl⟩
theorem Ea.uniq {p:Jp} {J:Jb} {held:List (Fl×List T5)} {W:Wk} {cd ca cs:Aa} (h:Ea p J held W) (hW:Wc p.bd p.ba p.bs W cd ca cs) {f:Fl} {ts us:List T5} {l1 l2:List (Fl×List T5)} (he:held=l1++(f,us)::l2) (hm:(f,ts)∈held):us=ts:=by
 obtain⟨⟨aa,_⟩,_⟩:=hW.dev.num;have h1:=h.files _ hm;have h2:=h.files (f,us) (by rw[he];simp);by_cases hb:f.blocks=0
 ·have h3:=h1.blk;have hh:1≤Ad p.size f.width:=by rw[←h.size];exact Bh aa h1.w1 h1.w2
  dsimp only at h3;unfold Ac at h3;rw[hb] at h3;have h4:f.count+Ad p.size f.width-1<Ad p.size f.width:=by rcases Nat.div_eq_zero_iff.1 h3.symm with h|h<;>omega
  have h5:f.count=0:=oM;have h6:=h1.len;have h7:=h2.len;dsimp only at h6 h7;rw[DM.1 (by omega:ts.length=0),DM.1 (by omega:us.length=0)]
 ·by_cases hu:us=ts
  ·exact hu
  ·exfalso;have ab:(f,ts)∈l1++l2:=by
    rw[he] at hm;simp only[AS,AM,Prod.mk.injEq] at hm⊢;rcases hm with hm|⟨_,hm⟩|hm
    ·exact .inl hm
    ·exact absurd hm.symm hu
    ·exact .inr hm
   have h3:W.live.Perm (f.ext::Au ((l1++l2).map (·.1)) p.L0):=by
    refine h.live.trans ?_;have h4:(held.map (·.1)).Perm (f::(l1++l2).map (·.1)):=by rw[he];simp
    refine(Ot h4 _).trans ((Np _ _ _).trans ?_);unfold Az;rw[if_neg hb]
   have h5:=hW.live.perm h3;have h6:f.ext∈Au ((l1++l2).map (·.1)) p.L0:=Ru (AN.2 ⟨_,ab,rfl⟩) hb;have h7:=List.rel_of_pairwise_cons h5.apart h6;have h8:f.ext.2=f.blocks:=rfl;omega
theorem Zz {p:Jp} {e:Int} {cd ca cs:Aa} {ph:Option Addr} {n cap:Nat} {ch:Aa}:([Bv p e cd ca cs ph n cap ch]:Hp).flatten.Perm ([Bp p.bj p.bw e ph n cap,ch,[Ab p.bw p.bd p.ba p.bs,cd,ca,cs].flatten]:Hp).flatten:=by unfold Bv;refine Cp fun z=>?_;simp only[AX,A4,AQ,A8];omega
theorem JSort (p:Jp) (hp:p.Ok) (J:Jb) (C:Aa) (hJ:Fm p J C) (f:Fl) (ts:List T5) (G':List (Fl×List T5)) (o:T5) (ho:Ge o=true) (once:Bool) (A T:Nat) (hG:J.e=0→J.G.Perm ((f,ts)::G')) (hT:J.e=0→Cf f.blocks≤T) (an:J.e=0→Ou p J T) (hA:J.e=0→Qh f.blocks≤A) (a6:J.acts+A≤1000000000) (ax:f.count≤100000):Ct AC 64 [pv p.bj,flv f,tv o,.bool once] [C] fun v H'=> ∃g C' e',v=flv g∧H'=[C']∧Fm p ⟨e',J.er,(g,srt (ltO o) once ts)::G',J.acts+A,J.took+T⟩ C'∧(e'=0→J.e=0∧g.width=f.width∧g.count=(srt (ltO o) once ts).length)∧g.count≤f.count∧g.blocks≤f.blocks:=by
 obtain⟨W,cd,ca,cs,held,ph,cap,ch,rfl,hW,hV,aa⟩:=hJ;by_cases he:J.e=0
 ·have a7:=aa.used hp hW;have ao:=aa.ok he;have ae:(f,ts)∈held:=ao.1.mem_iff.2 ((hG he).mem_iff.2 AE);obtain⟨k1,k2,hk⟩:=EF ae;have ay:W.live.Perm (Az f (Au ((k1++k2).map (·.1)) p.L0)):=by refine aa.live.trans ((Ot (b:=f::(k1++k2).map (·.1)) ?_ _).trans (Np _ _ _));rw[hk];simp
  have aq:=aa.files _ ae;rw[←aa.size] at aq;have hS:=Sort_u p.bw p.bd p.ba p.bs W cd ca cs hW f ts _ aq ay o ho once oM (by have:=aa.acts;omega) ax;have az:Ct AC 127 [pv p.bw,flv f,tv o,.bool once] [[Ab p.bw p.bd p.ba p.bs,cd,ca,cs].flatten] fun v H'=>∃g e au,v= .tuple #[flv g,Z9 Z8 e]∧H'=[au]∧
    ∃ac ad cs' W',au=[Ab p.bw p.bd p.ba p.bs,ac,ad,cs'].flatten∧Wc p.bd p.ba p.bs W' ac ad cs'∧Ev W W' (Qh f.blocks) (Cf f.blocks)∧W'.α.gs.Perm W.α.gs∧Ap (Au ((k1++k2).map (·.1)) p.L0) W W'∧
    ((e=0∧W'.live.Perm (Az g (Au ((k1++k2).map (·.1)) p.L0))∧g.width=f.width∧g.count≤f.count∧Be W'.δ.disk W.δ.size [g.ext] g (srt (ltO o) once ts))∨
     (e=6∧g=⟨0,0,0,0⟩∧W.δ.fault≠-1∧W'.live.Perm W.live∧Ap W.live W W')):=by
   refine Ct.convP hS oA19 ?_;rintro v H' ⟨ac,ad,cs',W',rfl,ah,ab,ai,aj,hc⟩;rcases hc with⟨g,out,rfl,h1,h2,h3,h4,h5,h6⟩|⟨rfl,h1,_⟩|⟨rfl,h1,h2,h3⟩
   ·rw[srt_is (Ee o) h5 h6] at h4;exact⟨[[Ab p.bw p.bd p.ba p.bs,ac,ad,cs'].flatten],⟨g,0,_,rfl,rfl,ac,ad,cs',W',rfl,ah,ab,ai,aj,.inl ⟨rfl,h1,h2,h3,h4⟩⟩,by simp⟩
   ·have:=aa.big hW he (an he);have:=hT he;omega
   ·exact⟨[[Ab p.bw p.bd p.ba p.bs,ac,ad,cs'].flatten],⟨⟨0,0,0,0⟩,6,_,rfl,rfl,ac,ad,cs',W',rfl,ah,ab,ai,aj,.inr ⟨rfl,rfl,h1,h2,h3⟩⟩,by simp⟩
  have hY:=uH p.bj p.bw ph cap held ch hV (by have:=aa.len;omega) f ts ae o once _ _ az;rw[he];refine Ct.convP hY Zz ?_;rintro v H' ⟨g,e,au,⟨ac,ad,cs',W',rfl,ah,ab,ai,aj,hc⟩,hv⟩;have ak:W'.δ.acts≤J.acts+A:=by have:=ab.acts.2;have:=aa.acts;have:=hA he;omega
  have av:p.b0≤big W'.σ.free+(J.took+T):=by have:=ab.big;have:=aa.tk;have:=hT he;omega
  have a0:Ap p.L0 W W':=aj.sub fun e he=>Ky he;have ag:∀x,inF p.L0 x→W'.δ.disk x=p.D0 x:=fun x hx=>(a0 x hx).trans (aa.keep x hx);rcases hv with⟨rfl,rfl,i,aw,us,hi,rfl,a1⟩|⟨a2,rfl,rfl⟩
  ·rcases hc with⟨_,c1,c2,c3,c4⟩|⟨h0,_⟩
   ·obtain⟨l1,l2,e1,e2⟩:=uI hi;obtain rfl:=aa.uniq hW e1 ae;have al:(k1++k2).Perm (l1++l2):=by
     have h1:(k1++(f,us)::k2).Perm (l1++(f,us)::l2):=by rw[←hk,←e1]
     exact((B4.symm.trans h1).trans B4).cons_inv
    have a3:g.blocks≤f.blocks:=by rw[c4.blk,aq.blk,c2];exact Da c3
    have a4:G'.Perm (l1++l2):=by
     have h1:=(ao.1.trans (hG he))
     rw[e1] at h1;exact(h1.symm.trans B4).cons_inv
    refine⟨[Bv p 0 ac ad cs' ph held.length cap aw],⟨g,_,0,rfl,rfl,⟨W',ac,ad,cs',held.set i (g,srt (ltO o) once us),ph,cap,aw,by rw[DS],ah,by rw[DS];exact a1 _,?_⟩,fun _=>⟨rfl,c2,c4.len.symm⟩,c3,a3⟩,Zz.symm⟩;rw[e2];refine⟨ai.trans aa.gs,ab.room.trans aa.room,ab.size.trans aa.size,ab.n.trans aa.n,?_,?_,?_,ag,fun hf=>ab.fault (aa.flt hf),ak,av,fun _=>⟨?_,ao.2⟩,fun h0=>absurd rfl h0⟩
    ·refine c1.trans ?_;have h1:((l1++(g,srt (ltO o) once us)::l2).map (·.1)).Perm (g::(k1++k2).map (·.1)):=by refine(List.perm_middle.map _).trans ?_;exact(al.symm.map _).cons _
     exact((Ot h1 _).trans (Np _ _ _)).symm
    ·intro x hx;have am:x=(g,srt (ltO o) once us)∨x∈l1++l2:=by
      simp only[AS,AM] at hx⊢;rcases hx with h|h|h
      ·exact .inr (.inl h)
      ·exact .inl h
      ·exact .inr (.inr h)
     rcases am with rfl|am
     ·rw[←aa.size];exact c4
     ·have h1:=aa.files x (by rw[e1];simp only[AS,AM] at am⊢;rcases am with h|h;exact .inl h;exact .inr (.inr h));exact h1.in_ (fun hb=>Ru (AN.2 ⟨x,al.mem_iff.2 am,rfl⟩) hb) aj
    ·have:=aa.len;rw[e1] at this;simpa using this
    ·exact B4.trans (a4.symm.cons _)
   ·omega
  ·rcases hc with⟨h0,_⟩|⟨rfl,rfl,c1,c2,c3⟩
   ·exact absurd h0 a2
   ·refine⟨[Bv p 6 ac ad cs' ph held.length cap ch],⟨⟨0,0,0,0⟩,_,6,rfl,rfl,⟨W',ac,ad,cs',held,ph,cap,ch,rfl,ah,hV,?_⟩,fun h0=>absurd h0 oA18,AU _,AU _⟩,Zz.symm⟩;refine⟨ai.trans aa.gs,ab.room.trans aa.room,ab.size.trans aa.size,ab.n.trans aa.n,c2.trans aa.live,?_,aa.len,ag,fun hf=>ab.fault (aa.flt hf),ak,av,fun h0=>absurd (show(6:Int)=0 from h0) oA18,fun _=> .inl ⟨rfl,?_⟩⟩
    ·intro x hx;exact(aa.files x hx).in_ (fun hb=>aa.live.mem_iff.2 (Ru (AN.2 ⟨x,hx,rfl⟩) hb)) c3
    ·by_cases hf:p.fl
     ·exact hf
     ·exact absurd (aa.flt hf) c1
 ·have a5:=Ct.wide (uG p.bj p.bw J.e he ph held.length cap f o once) [Ab p.bw p.bd p.ba p.bs,cd,ca,cs,ch];refine Ct.convP a5 (by unfold Bv;refine Cp fun z=>?_;simp only[AX,A4,AQ,A3,A8];omega) ?_;rintro v H' ⟨H1,⟨rfl,rfl⟩,rfl⟩;refine⟨[Bv p J.e cd ca cs ph held.length cap ch],⟨⟨0,0,0,0⟩,_,J.e,rfl,rfl,⟨W,cd,ca,cs,held,ph,cap,ch,rfl,hW,hV,?_⟩,fun h0=>absurd h0 he,AU _,AU _⟩,?_⟩
  ·have:=aa.idle he none ((⟨0,0,0,0⟩,srt (ltO o) once ts)::G') A T;have h2:J.er.or none=J.er:=by cases J.er<;>rfl
   rw[h2] at this;exact this
  ·unfold Bv;refine Cp fun z=>?_;simp only[AX,A4,AQ,A3,A8];omega
end Go.Proofs.YtaofijjjheiknaaGreat
