/-
  Parts of the proof, put together (13). No condition.
-/
import Derived.Test.YtaofijjjheiknaaGreatM12
set_option linter.unusedVariables false
set_option linter.unusedSimpArgs false
set_option linter.unnecessarySimpa false
set_option maxHeartbeats 4000000
open Bool renaming false_eq_true→CP
open Go.Proofs.Tryz renaming prog→AC
open List renaming cons_append→AA,nil_append→AB,getElem?_eq_getElem→AE,length_append→AF,mem_cons_self→AH,mem_cons_of_mem→AI,getElem?_eq_some_iff→AK,length_cons→AL,mem_cons→AM,mem_append→AO,append_nil→AQ,mem_singleton→AT,length_nil→AV,length_map→AY,map_cons→AZ,mem_of_getElem?→A3,take_of_length_le→A4,flatMap_cons→A8,getElem?_append_right→A9,pairwise_cons→BF,range→BH,pairwise_iff_getElem→BJ,length_take→BN,take_add_one→BP,drop_eq_getElem_cons→BQ,getElem?_drop→BR,pairwise_append→BS,getElem?_map→BU,take_append_drop→BV,getElem?_take→BW,replicate→BY,perm_middle→B4,not_mem_nil→B6,flatMap_append→CF,length_singleton→CO,getElem_of_mem→CU,getElem?_set_ne→DC,length_set→DS,getElem?_set_self→DV,eq_nil_or_concat→D3,set_append_right→D4,set_cons_zero→ED
open List.Pairwise renaming nil→CI
open Nat renaming reduceAdd→AD,le_refl→AG,zero_le→AS,succ_mul→BG,add_zero→CD,lt_trichotomy→CJ,sub_self→DP,not_lt_zero→D9
open Option.some renaming injEq→BA
namespace Go.Proofs.YtaofijjjheiknaaGreat
open Go.SL Go.Spc Go.Tup Go.Srt
theorem bCl (bw bd ba bs:Nat) (W:Wk) (cd ca cs:aAc) (h:Wc bd ba bs W cd ca cs) (lf of tf qf:Fl) (la to tr qs:List T5) (c8:aBm W (lf,la)) (c6:aBm W (of,to)) (c9:aBm W (tf,tr)) (c5:aBm W (qf,qs)) (av:lf.width=2) (b2:of.width=5) (au:tf.width=5) (b1:qf.width=3)
  (em:la.Pairwise fun a c=>a.c0<c.c0) (bz:tr.Pairwise fun a c=>a.c0<c.c0) (en:tr.Pairwise fun a c=>a.c2≠c.c2)
  (c m:Nat) (eo:qf.count≤c) (c7:lf.count+of.count≤2*c) (gy:tf.count≤2*c) (hc:c≤250) (g0:c≤m) (hT:aFb c≤m) (ep:3*c≤m)
  (b3:m*(W.live.length+10)+(9*c+aBg W.live)≤W.σ.n) (el:m*(W.live.length+12)+(2*c+(9*c+aBg W.live))≤W.σ.n) (gz:W.δ.acts≤350000000):
  Ct AC 21 [pv bw,flv lf,flv of,flv tf,flv qf] [aAi bw bd ba bs,cd,ca,cs] (bOt bw bd ba bs W cd cs aXc aXc (aZs la to tr qs lf.count) (aBw la to tr qs) 2):=by
 have aa:=eQ0
 have ac:=eQ2
 have hz:=eQ1
 have be:tv o1= .agg #[.int .i64 1,.int .i64 0,.int .i64 0,.int .i64 0,.int .i64 0]:=rfl
 have hB:=fun b=>bBx bw bd ba bs W cd ca cs h [(lf,la),(of,to),(tf,tr),(qf,qs)] (by simp only[AM,B6,or_false];rintro x (rfl|rfl|rfl|rfl);exact c8;exact c6;exact c9;exact c5) oA15 (some ⟨b,0,none⟩) 4 _ (vec4 b lf of tf qf)
 simp only[ac,AA,AB] at hB
 have ha:(lf.width:Int)=2:=by rw[av];rfl
 have hg:(of.width:Int)=5:=by rw[b2];rfl
 have hj:(tf.width:Int)=5:=by rw[au];rfl
 have f8:(qf.width:Int)=3:=by rw[b1];rfl
 rw[aa lf,aa of,aa tf,aa qf]
 refine Ct.go Tryz.func21 Tryz.ntmps21 fun w0=> ?_
 repeat(first|(refine st ?_;intros)|refine G.drawOrd (id:=11) [0,1,2,3,5,4,6,7] [(4,.eff [0,5])] (h:= ?_)|refine G.drawOrd (id:=12) [0,1,2,3,5,4,6,7] [(4,.eff [0,5])] (h:= ?_))
 refine R.call (hct:=hB _) (h:= ?_)
 rintro _ _ ⟨aw,α1,da,db,dc,⟨ad,bj,rfl,rfl⟩|⟨ax,rfl,rfl⟩⟩
 rotate_left
 ·dsimp only[AA,AB]
  repeat(first|(refine st ?_;intros)|refine G.drawOrd (id:=11) [0,1,2,3,5,4,6,7] [(4,.eff [0,5])] (h:= ?_)|refine G.drawOrd (id:=12) [0,1,2,3,5,4,6,7] [(4,.eff [0,5])] (h:= ?_))
  (refine Dn.post (Hr:=[aAi bw bd ba bs,cd,aw,cs]) Tryz.results21 (hR:= ?_);exact .inr ⟨ax,rfl,aw,α1,rfl,da,db,dc⟩)
 dsimp only[AA,AB]
 obtain⟨hp,hJ⟩:=aWt (bj:=bj) h da db dc ad
 have b6:In0 (aLs bw bd ba bs bj W) (lf,la):=aHc c8
 have dd:In0 (aLs bw bd ba bs bj W) (of,to):=aHc c6
 have ag:In0 (aLs bw bd ba bs bj W) (tf,tr):=aHc c9
 have de:In0 (aLs bw bd ba bs bj W) (qf,qs):=aHc c5
 have ab:(aLs bw bd ba bs bj W).bj=bj:=rfl
 have hk:(aLs bw bd ba bs bj W).bw=bw:=rfl
 have df:(aLs bw bd ba bs bj W).L0=W.live:=rfl
 have dg:(aLs bw bd ba bs bj W).n=W.σ.n:=rfl
 obtain⟨l1,l2,l3,l4,l5⟩:=aFn b6
 obtain⟨k1,k2,k3,k4,k5⟩:=aFn dd
 obtain⟨t1,t2,t3,t4,t5⟩:=aFn ag
 obtain⟨d1,d2,d3,d4,d5⟩:=aFn de
 dsimp only at l1 l2 l3 l4 l5 k1 k2 k3 k4 k5 t1 t2 t3 t4 t5 d1 d2 d3 d4 d5
 have et:tf.blocks≤tf.count:=by rw[t3];exact aAx (aAl hp.size.1 t4 t5)
 have dh:∀e,FB tf.count tf.count 5 tf.count e tf:=fun e=>⟨AG _,et,fun _=>⟨au,rfl⟩⟩
 rw[av] at l2
 rw[b2] at k2
 rw[au] at t2
 rw[b1] at d2
 have b7:=aTl l2 k2 t2
 have ho:=aOc la
 have eu:=aPt la to tr
 have di:(aBe la to tr).length≤1000000:=oM
 have ew:=bEp b7 di
 have ey:=bMz l2 d2
 have ez:=bJg l2 d2
 have e0:=aXd la qs
 have fa:=aSa la qs
 have bf:=bNa t2 ew ey
 have bg:=aXe tr (aCc (aBe la to tr)) (aFi la qs)
 have hR:Rm (aLs bw bd ba bs bj W) c m 9 W.δ.acts:=⟨hp,oM,oM,by
  rw[df,dg]
  have e:9+W.live.length+1=W.live.length+10:=oM
  rw[e];exact b3,oM,oM⟩
 have fb:aGh (aLs bw bd ba bs bj W) c 9 W.δ.acts 0 0 none [] _:=⟨hJ.weak rfl rfl rfl (AG _) (AG _),AS _,by simp⟩
 have ay:=aZp hR fb lf qf la qs b6 de av b1 c eo oM oM (AG _) hT em oA15 oM
 rw[aa lf,aa qf,ab] at ay
 have ay:=Ct.convP (H:=[aFg bj bw 0 none 0 0,aAi bw bd ba bs,cd,aw,cs]) ay (aWv (p:=aLs bw bd ba bs bj W) (e:=0) (cd:=cd) (ca:=aw) (cs:=cs)) (fun v H' hh=>⟨H',hh,.refl _⟩)
 repeat(first|(refine st ?_;intros)|refine G.drawOrd (id:=11) [0,1,2,3,5,4,6,7] [(4,.eff [0,5])] (h:= ?_)|refine G.drawOrd (id:=12) [0,1,2,3,5,4,6,7] [(4,.eff [0,5])] (h:= ?_))
 refine R.callX (hct:=ay) (h:= ?_)
 rintro _ _ ⟨g1,C1,e1,rfl,rfl,fc,az,hw⟩
 dsimp only[AA,AB]
 refine nx ?_
 try rw[aa]
 have ga:=az.cnt
 have gb:=az.blk
 have bh:=aZo l2 d2
 have gc:=aTo la qs
 have b9:=fun b=>bRr hR fc [] aUp 2 g1.count c 1 oM 53 inferInstance [] (okT 5) mtP (fun t _=>bCj t) oM g1 (aPu la qs) oA2 oM (fun _=>bh)
  (fun h=>by have:=fa;unfold aHg at this;have:=(az.ok h).2;omega) (.inl oM) (AG _) oA8 oM b
 simp only[ac,ab] at b9
 rw[show(aPu la qs).flatMap aUp=aHg la qs from rfl] at b9
 repeat(first|(refine st ?_;intros)|refine G.drawOrd (id:=11) [0,1,2,3,5,4,6,7] [(4,.eff [0,5])] (h:= ?_)|refine G.drawOrd (id:=12) [0,1,2,3,5,4,6,7] [(4,.eff [0,5])] (h:= ?_))
 refine R.callX (hct:=b9 _) (h:= ?_)
 rintro _ _ ⟨g2,C2,e2,rfl,rfl,fd,cg,fe⟩
 dsimp only[AA,AB]
 refine nx ?_
 try rw[aa]
 have gd:=cg.cnt
 have ge:=cg.blk
 have ci:=fun b=>bRr hR fd [] aUq 3 g1.count c 1 oM 54 inferInstance [] (okT 5) mtS (fun t _=>bCk t) oM g1 (aPu la qs) oA2 oM (fun _=>bh)
  (fun h=>by have:=e0;unfold aFi at this;have:=(az.ok (fe h)).2;omega) (.inl oM) (AG _) oA8 oM b
 simp only[ac,ab] at ci
 rw[show(aPu la qs).flatMap aUq=aFi la qs from rfl] at ci
 repeat(first|(refine st ?_;intros)|refine G.drawOrd (id:=11) [0,1,2,3,5,4,6,7] [(4,.eff [0,5])] (h:= ?_)|refine G.drawOrd (id:=12) [0,1,2,3,5,4,6,7] [(4,.eff [0,5])] (h:= ?_))
 refine R.callX (hct:=ci _) (h:= ?_)
 rintro _ _ ⟨g3,C3,e3,rfl,rfl,fg,cj,fh⟩
 dsimp only[AA,AB]
 refine nx ?_
 try rw[aa]
 have gf:=cj.cnt
 have gg:=cj.blk
 have dj:=bIy hR fg lf of tf la to tr b6 dd ag av b2 au c c7 oM oM (AG _) hT bz oA8 oM
 rw[aa lf,aa of,aa tf,ab] at dj
 repeat(first|(refine st ?_;intros)|refine G.drawOrd (id:=11) [0,1,2,3,5,4,6,7] [(4,.eff [0,5])] (h:= ?_)|refine G.drawOrd (id:=12) [0,1,2,3,5,4,6,7] [(4,.eff [0,5])] (h:= ?_))
 refine R.callX (hct:=dj) (h:= ?_)
 rintro _ _ ⟨g4,C4,e4,rfl,rfl,fi,a0,dk⟩
 dsimp only[AA,AB]
 refine nx ?_
 try rw[aa]
 have gh:=a0.cnt
 have gi:=a0.blk
 have dl:=bIz hR fi g4 (aBe la to tr) AH b7 di _ c a0 c7 oM (AG _) hT oA8 oM
 rw[aa g4,ab] at dl
 repeat(first|(refine st ?_;intros)|refine G.drawOrd (id:=11) [0,1,2,3,5,4,6,7] [(4,.eff [0,5])] (h:= ?_)|refine G.drawOrd (id:=12) [0,1,2,3,5,4,6,7] [(4,.eff [0,5])] (h:= ?_))
 refine R.callX (hct:=dl) (h:= ?_)
 rintro _ _ ⟨g5,C5,e5,rfl,rfl,fj,a5,cm⟩
 dsimp only[AA,AB]
 refine nx ?_
 try rw[aa]
 have gj:=a5.cnt
 have gk:=a5.blk
 have dm:(aCc (aBe la to tr)).Pairwise fun a c=>a.c0<c.c0:=aTh _
 have dp:=aKj hR fj g3 tf (aFi la qs) tr _ 1 oM (cj.mono fun h=>dk (cm h)) (dh e5) (.there (.there .here)) (.inr ag) oM oM oM (fun _=>bz) (fun _=>rfl) oM (.inl oM) (AG _) hT oA8 oM
 rw[aa g3,aa tf,ab] at dp
 repeat(first|(refine st ?_;intros)|refine G.drawOrd (id:=11) [0,1,2,3,5,4,6,7] [(4,.eff [0,5])] (h:= ?_)|refine G.drawOrd (id:=12) [0,1,2,3,5,4,6,7] [(4,.eff [0,5])] (h:= ?_))
 refine R.callX (hct:=dp) (h:= ?_)
 rintro _ _ ⟨g6,C6,e6,rfl,rfl,fk,dq,a6⟩
 dsimp only[AA,AB]
 refine nx ?_
 try rw[aa]
 have gl:=dq.cnt
 have dr:=aKk hR fk g6 g5 (aDo 2 1 tr (aFi la qs)) (aCc (aBe la to tr)) _ 1 oM dq (a5.mono a6) .here (.inl AH) oM oM oM (fun _=>dm) (fun _=>aCr _ _ _ _) oM (.inl oM) (AG _) hT oA8 oM
 rw[aa g6,aa g5,ab] at dr
 repeat(first|(refine st ?_;intros)|refine G.drawOrd (id:=11) [0,1,2,3,5,4,6,7] [(4,.eff [0,5])] (h:= ?_)|refine G.drawOrd (id:=12) [0,1,2,3,5,4,6,7] [(4,.eff [0,5])] (h:= ?_))
 refine R.callX (hct:=dr) (h:= ?_)
 rintro _ _ ⟨g7,C7,e7,rfl,rfl,fm,ds,cu⟩
 dsimp only[AA,AB]
 refine nx ?_
 try rw[aa]
 have gm:=ds.cnt
 have dt:=aKj hR fm g7 tf (aDo 1 1 (aCc (aBe la to tr)) (aDo 2 1 tr (aFi la qs))) tr _ 2 oM ds (dh e7) .here (.inr ag) oM oM oM (fun _=>bz) (fun _=>by rw[aCr,aCr]) oM (.inl oM) (AG _) hT oA8 oM
 rw[aa g7,aa tf,ab] at dt
 repeat(first|(refine st ?_;intros)|refine G.drawOrd (id:=11) [0,1,2,3,5,4,6,7] [(4,.eff [0,5])] (h:= ?_)|refine G.drawOrd (id:=12) [0,1,2,3,5,4,6,7] [(4,.eff [0,5])] (h:= ?_))
 refine R.callX (hct:=dt) (h:= ?_)
 rintro _ _ ⟨g8,C8,e8,rfl,rfl,fp,du,cv⟩
 dsimp only[AA,AB]
 refine nx ?_
 try rw[aa]
 have gp:=du.cnt
 have cw:=aKk hR fp g8 g5 (aDo 2 2 tr (aDo 1 1 (aCc (aBe la to tr)) (aDo 2 1 tr (aFi la qs)))) (aCc (aBe la to tr)) _ 2 oM du (a5.mono fun h=>a6 (cu (cv h))) .here (.inl AH) oM oM oM (fun _=>dm) (fun _=>by rw[aCr,aCr,aCr]) oM (.inl oM) (AG _) hT oA8 oM
 rw[aa g8,aa g5,ab] at cw
 rw[show aDo 1 2 (aCc (aBe la to tr)) (aDo 2 2 tr (aDo 1 1 (aCc (aBe la to tr)) (aDo 2 1 tr (aFi la qs))))=aPw tr (aCc (aBe la to tr)) (aFi la qs) from rfl] at cw
 repeat(first|(refine st ?_;intros)|refine G.drawOrd (id:=11) [0,1,2,3,5,4,6,7] [(4,.eff [0,5])] (h:= ?_)|refine G.drawOrd (id:=12) [0,1,2,3,5,4,6,7] [(4,.eff [0,5])] (h:= ?_))
 refine R.callX (hct:=cw) (h:= ?_)
 rintro _ _ ⟨g9,C9,e9,rfl,rfl,fq,cz,dw⟩
 dsimp only[AA,AB]
 refine nx ?_
 try rw[aa]
 have gq:=cz.cnt
 have gr:=cz.blk
 have ae:=fun b=>bRr hR fq [] bRy 3 g9.count c 1 oM 59 inferInstance [] (okT 3) mtQ (fun t _=>AG _) oM g9 (aPw tr (aCc (aBe la to tr)) (aFi la qs)) oA2 oM (fun _=>bf)
  (fun h=>by rw[aFh (f:=bRy) (g:=fun t=>⟨t.c0,min t.c1 t.c2,max t.c1 t.c2,0,0⟩) (fun _=>rfl),AY,bg,(cz.ok h).2];exact AG _) (.inl oM) (AG _) oA8 oM b
 simp only[ac,ab] at ae
 rw[aFh (f:=bRy) (g:=fun t=>⟨t.c0,min t.c1 t.c2,max t.c1 t.c2,0,0⟩) (fun _=>rfl)] at ae
 rw[show(aPw tr (aCc (aBe la to tr)) (aFi la qs)).map (fun t=>(⟨t.c0,min t.c1 t.c2,max t.c1 t.c2,0,0⟩:T5))=aMl la to tr qs from rfl] at ae
 repeat(first|(refine st ?_;intros)|refine G.drawOrd (id:=11) [0,1,2,3,5,4,6,7] [(4,.eff [0,5])] (h:= ?_)|refine G.drawOrd (id:=12) [0,1,2,3,5,4,6,7] [(4,.eff [0,5])] (h:= ?_))
 refine R.callX (hct:=ae _) (h:= ?_)
 rintro _ _ ⟨dx,h0,h1,rfl,rfl,ah,ai,bi⟩
 dsimp only[AA,AB]
 refine nx ?_
 try rw[aa]
 have fr:=ai.cnt
 have ft:=ai.blk
 have gt:(aMl la to tr qs).length=(aFi la qs).length:=by unfold aMl aZr;rw[AY,bg]
 have dy:∀t∈aMl la to tr qs,okT 3 t:=bNb bf
 have dz:∀t∈aCz (aBe la to tr) (aMl la to tr qs),okT 2 t:=bJf (fun t h=>(aBb (b7 t h)).1) (fun t h=>(aBb (dy t h)).1)
 have gu:=aRz (aBe la to tr) (aMl la to tr qs)
 have aj:=fun b8 b4 b5=>SRun hR ah 61 inferInstance [pv b8,pv b4,pv b5] (aHz bj b8 b4 b5 g4 dx) aHu aHu 206 (bEn (aBe la to tr).length (aMl la to tr qs)) (aCz (aBe la to tr) (aMl la to tr qs)) oA14 oA14 (b:=qf.count) (c:=c) (w:=2) (n:=(aCz (aBe la to tr) (aMl la to tr qs)).length) (fun he x y hx=>by
  subst he
  have h3:=a0.ok (cm (a6 (cu (cv (dw (bi rfl))))))
  have h2:=ai.ok rfl
  have hS:=aZt hR (er:=bMu lf.count qs) ah.len ah.blk g4 dx (aBe la to tr) (aMl la to tr qs) oA4 oA4 h3.1 h2.1 c m oM oM oM hT ep (by rw[df,dg,show 9+W.live.length+3=W.live.length+12 by omega];omega) x y oM b8 b4 b5
  refine aGm.mono hS ?_
  rintro g e' h4 ⟨a1,a2,a3,a4⟩
  exact⟨a1,oM,oM,a2⟩) (AG _) oA8
 simp only[aHz,ac,ab] at aj
 rw[show(bMu lf.count qs).or (bEn (aBe la to tr).length (aMl la to tr qs))=aZs la to tr qs lf.count from rfl] at aj
 repeat(first|(refine st ?_;intros)|refine G.drawOrd (id:=11) [0,1,2,3,5,4,6,7] [(4,.eff [0,5])] (h:= ?_)|refine G.drawOrd (id:=12) [0,1,2,3,5,4,6,7] [(4,.eff [0,5])] (h:= ?_))
 refine R.callX (hct:=aj _ _ _) (h:= ?_)
 rintro _ _ ⟨d0,h5,h6,rfl,rfl,d6,ak,d7⟩
 dsimp only[AA,AB]
 refine nx ?_
 try rw[aa]
 have fu:=ak.cnt
 have fv:=ak.blk
 have al:=fun b=>bRr hR d6 [] bRz 2 tf.count c 1 oM 63 inferInstance [] (okT 5) mtB (fun t _=>AG _) oM tf tr (.inr ag) oM (fun _=>t2)
  (fun h=>by rw[aFh (f:=bRz) (g:=fun t=>⟨t.c2,t.c0,0,0,0⟩) (fun _=>rfl),AY];omega) (.inr ⟨oM,oM⟩) (AG _) oA8 oM b
 simp only[ac,ab] at al
 rw[aFh (f:=bRz) (g:=fun t=>⟨t.c2,t.c0,0,0,0⟩) (fun _=>rfl)] at al
 repeat(first|(refine st ?_;intros)|refine G.drawOrd (id:=11) [0,1,2,3,5,4,6,7] [(4,.eff [0,5])] (h:= ?_)|refine G.drawOrd (id:=12) [0,1,2,3,5,4,6,7] [(4,.eff [0,5])] (h:= ?_))
 refine R.callX (hct:=al _) (h:= ?_)
 rintro _ _ ⟨fw,h7,h8,rfl,rfl,d8,bk,bo⟩
 dsimp only[AA,AB]
 refine nx ?_
 try rw[aa]
 have fx:=bk.cnt
 have am:=aLe hR d8 fw _ _ o1 rfl false bk .here oM (AG _) hT oM
 rw[aa,be,ab] at am
 rw[show srt (ltO o1) false (tr.map fun t=>(⟨t.c2,t.c0,0,0,0⟩:T5))=aLh tr from rfl] at am
 repeat(first|(refine st ?_;intros)|refine G.drawOrd (id:=11) [0,1,2,3,5,4,6,7] [(4,.eff [0,5])] (h:= ?_)|refine G.drawOrd (id:=12) [0,1,2,3,5,4,6,7] [(4,.eff [0,5])] (h:= ?_))
 refine R.callX (hct:=am) (h:= ?_)
 rintro _ _ ⟨d9,h9,ie,rfl,rfl,ea,an,bp⟩
 dsimp only[AA,AB]
 refine nx ?_
 try rw[aa]
 have fy:=an.cnt
 have f0:=an.blk
 have bq:=aKk hR ea d0 d9 (aCz (aBe la to tr) (aMl la to tr qs)) (aLh tr) _ 1 oM (ak.mono fun h=>bo (bp h)) an (.there .here) (.inl AH) oM oM oM (fun _=>aSb en) (fun _=>rfl) oM (.inl oM) (AG _) hT oA8 oM
 rw[aa d0,aa d9,ab] at bq
 repeat(first|(refine st ?_;intros)|refine G.drawOrd (id:=11) [0,1,2,3,5,4,6,7] [(4,.eff [0,5])] (h:= ?_)|refine G.drawOrd (id:=12) [0,1,2,3,5,4,6,7] [(4,.eff [0,5])] (h:= ?_))
 refine R.callX (hct:=bq) (h:= ?_)
 rintro _ _ ⟨a7,ig,ih,rfl,rfl,eb,ao,ec⟩
 dsimp only[AA,AB]
 refine nx ?_
 try rw[aa]
 have f1:=ao.cnt
 have f2:=ao.blk
 have ii:IntKind.wrap .i64 ((a7.count:Int)+(g2.count:Int))=((a7.count+g2.count:Nat):Int):=by rw[aAd oM];omega
 have bu:=fun b=>SMap2 hR eb (fun t=>t) 2 (a7.count+g2.count) c oM 65 inferInstance (okT 2) mtO (fun t h=>h) a7 g2 (aDo 1 1 (aLh tr) (aCz (aBe la to tr) (aMl la to tr qs))) (aHg la qs) oA2 oA2 oM oM
  (fun h t ht=>by
   rcases AO.1 ht with ht|ht
   ·exact aJj (bNc t2) dz 1 1 oM oM t ht
   ·exact ez t ht)
  (fun h=>by rw[aCr,(ao.ok h).2,(cg.ok (fh (dk (cm (a6 (cu (cv (dw (bi (d7 (bo (bp (ec h))))))))))))).2];exact AG _) (.inr ⟨oM,oM⟩) (AG _) oA8 oM b
 simp only[ac,ab,List.map_id',AA,AB] at bu
 repeat(first|(refine st ?_;intros)|refine G.drawOrd (id:=11) [0,1,2,3,5,4,6,7] [(4,.eff [0,5])] (h:= ?_)|refine G.drawOrd (id:=12) [0,1,2,3,5,4,6,7] [(4,.eff [0,5])] (h:= ?_))
 refine R.callX (hct:=bu _) (h:= ?_)
 rintro _ _ ⟨f6,ij,ik,rfl,rfl,ee,bv,gw⟩
 dsimp only[AA,AB]
 refine nx ?_
 try rw[aa]
 have f7:=bv.cnt
 have ap:=aLe hR ee f6 _ _ o1 rfl false bv .here oM (AG _) hT oM
 rw[aa,be,ab] at ap
 rw[show srt (ltO o1) false (aDo 1 1 (aLh tr) (aCz (aBe la to tr) (aMl la to tr qs))++aHg la qs)=aBw la to tr qs from rfl] at ap
 repeat(first|(refine st ?_;intros)|refine G.drawOrd (id:=11) [0,1,2,3,5,4,6,7] [(4,.eff [0,5])] (h:= ?_)|refine G.drawOrd (id:=12) [0,1,2,3,5,4,6,7] [(4,.eff [0,5])] (h:= ?_))
 refine R.callX (hct:=ap) (h:= ?_)
 rintro _ _ ⟨ef,im,eg,rfl,rfl,eh,ei,gx⟩
 dsimp only[AA,AB]
 refine nx ?_
 try rw[aa]
 have ej:=fun b=>bIl hR eh ef b
 simp only[ac,ab] at ej
 repeat(first|(refine st ?_;intros)|refine G.drawOrd (id:=11) [0,1,2,3,5,4,6,7] [(4,.eff [0,5])] (h:= ?_)|refine G.drawOrd (id:=12) [0,1,2,3,5,4,6,7] [(4,.eff [0,5])] (h:= ?_))
 refine R.call (hct:=ej _) (h:= ?_)
 rintro _ _ ⟨a8,a9,bc,W5,rfl,rfl,ek,hD⟩
 try dsimp only[AA,AB]
 have aq:=aNc (A:=aXc) (T:=aXc) hD rfl (by dsimp only;unfold aXc;omega) (by dsimp only;unfold aXc;omega)
 dsimp only at aq
 by_cases he:eg=0
 ·subst he
  rw[if_pos rfl] at aq
  repeat(first|(refine st ?_;intros)|refine G.drawOrd (id:=11) [0,1,2,3,5,4,6,7] [(4,.eff [0,5])] (h:= ?_)|refine G.drawOrd (id:=12) [0,1,2,3,5,4,6,7] [(4,.eff [0,5])] (h:= ?_))
  (refine Dn.post (Hr:=[aAi bw bd ba bs,a8,a9,bc]) Tryz.results21 (hR:= ?_);exact .inl ⟨ad,ef,0,a8,a9,bc,W5,rfl,rfl,ek,aq,fun _=>(ei.ok rfl).1⟩)
 ·rw[if_neg he] at aq
  repeat(first|(refine st ?_;intros)|refine G.drawOrd (id:=11) [0,1,2,3,5,4,6,7] [(4,.eff [0,5])] (h:= ?_)|refine G.drawOrd (id:=12) [0,1,2,3,5,4,6,7] [(4,.eff [0,5])] (h:= ?_))
  (refine Dn.post (Hr:=[aAi bw bd ba bs,a8,a9,bc]) Tryz.results21 (hR:= ?_);exact .inl ⟨ad,⟨0,0,0,0⟩,eg,a8,a9,bc,W5,rfl,rfl,ek,aq,fun h=>absurd h he⟩)
end Go.Proofs.YtaofijjjheiknaaGreat
namespace Go.Gr
abbrev Ed:=Nat×Nat
def Jn (g:Nat→Ed) (S:Nat→Prop) (x y:Nat):Prop:=∃i,S i∧((g i).1=x∧(g i).2=y∨(g i).1=y∧(g i).2=x)
inductive Cn (g:Nat→Ed) (S:Nat→Prop):Nat→Nat→Prop
 |refl (a:Nat):Cn g S a a
 |step {a b c:Nat}:Cn g S a b→Jn g S b c→Cn g S a c
variable {g:Nat→Ed} {S S':Nat→Prop}
theorem Jn.symm {x y:Nat} (h:Jn g S x y):Jn g S y x:=let ⟨i,h1,h2⟩:=h;⟨i,h1,h2.symm⟩
theorem Jn.mono {x y:Nat} (h:Jn g S x y) (hs:∀i,S i→S' i):Jn g S' x y:=let ⟨i,h1,h2⟩:=h;⟨i,hs i h1,h2⟩
theorem Cn.one {x y:Nat} (h:Jn g S x y):Cn g S x y:= .step (.refl x) h
theorem Cn.trans {a b c:Nat} (h:Cn g S a b) (h2:Cn g S b c):Cn g S a c:=by
 induction h2 with
 |refl=>exact h
 |step _ hj ih=>exact .step ih hj
theorem Cn.symm {a b:Nat} (h:Cn g S a b):Cn g S b a:=by
 induction h with
 |refl=>exact .refl _
 |step _ hj ih=>exact(Cn.one hj.symm).trans ih
theorem Cn.mono {a b:Nat} (h:Cn g S a b) (hs:∀i,S i→S' i):Cn g S' a b:=by
 induction h with
 |refl=>exact .refl _
 |step _ hj ih=>exact .step ih (hj.mono hs)
theorem Cn.edge {i:Nat} (h:S i):Cn g S (g i).1 (g i).2:= .one ⟨i,h,.inl ⟨rfl,rfl⟩⟩
theorem Cn.sub {a b:Nat} (h:Cn g S a b) (hs:∀i,S i→Cn g S' (g i).1 (g i).2):Cn g S' a b:=by
 induction h with
 |refl=>exact .refl _
 |step _ hj ih=>
  obtain⟨i,h1,⟨rfl,rfl⟩|⟨rfl,rfl⟩⟩:=hj
  ·exact ih.trans (hs i h1)
  ·exact ih.trans (hs i h1).symm
theorem Cn.congr {a b:Nat} (hs:∀i,S i↔S' i):Cn g S a b↔Cn g S' a b:=⟨fun h=>h.mono fun i=>(hs i).1,fun h=>h.mono fun i=>(hs i).2⟩
theorem Cn.stay {a b:Nat} (h:Cn g S a b) {X:Nat→Prop} (ha:X a) (hx:∀i,S i→(X (g i).1↔X (g i).2)):X b:=by
 induction h with
 |refl=>exact ha
 |step _ hj ih=>
  obtain⟨i,h1,⟨rfl,rfl⟩|⟨rfl,rfl⟩⟩:=hj
  ·exact(hx i h1).1 ih
  ·exact(hx i h1).2 ih
theorem Cn.add {i a b:Nat} (h:Cn g (fun j=>S j∨j=i) a b):Cn g S a b∨(Cn g S a (g i).1∧Cn g S (g i).2 b)∨(Cn g S a (g i).2∧Cn g S (g i).1 b):=by
 induction h with
 |refl=>exact .inl (.refl _)
 |step _ hj ih=>
  obtain⟨j,h1|rfl,h2⟩:=hj
  ·have hj:Cn g S _ _:= .one ⟨j,h1,h2⟩
   rcases ih with ih|⟨i1,i2⟩|⟨i1,i2⟩
   ·exact .inl (ih.trans hj)
   ·exact .inr (.inl ⟨i1,i2.trans hj⟩)
   ·exact .inr (.inr ⟨i1,i2.trans hj⟩)
  ·rcases h2 with⟨rfl,rfl⟩|⟨rfl,rfl⟩
   ·rcases ih with ih|⟨i1,i2⟩|⟨i1,i2⟩
    ·exact .inr (.inl ⟨ih,.refl _⟩)
    ·exact .inr (.inl ⟨i1,.refl _⟩)
    ·exact .inl i1
   ·rcases ih with ih|⟨i1,i2⟩|⟨i1,i2⟩
    ·exact .inr (.inr ⟨ih,.refl _⟩)
    ·exact .inl i1
    ·exact .inr (.inr ⟨i1,.refl _⟩)
theorem Cn.bound {a b:Nat} (h:Cn g S a b):∃n,Cn g (fun j=>S j∧j<n) a b:=by
 induction h with
 |refl=>exact⟨0,.refl _⟩
 |step _ hj ih=>
  obtain⟨n,ih⟩:=ih
  obtain⟨i,h1,h2⟩:=hj
  exact⟨max n (i+1),.step (ih.mono fun j ⟨a,b⟩=>⟨a,oM⟩) ⟨i,⟨h1,oM⟩,h2⟩⟩
def Kr (g:Nat→Ed) (S:Nat→Prop) (i:Nat):Prop:=S i∧¬Cn g (fun j=>S j∧j<i) (g i).1 (g i).2
theorem Kr.conn_lt:∀(n:Nat) {a b:Nat},Cn g (fun j=>S j∧j<n) a b↔Cn g (fun j=>Kr g S j∧j<n) a b
 |0,a,b=>Cn.congr fun i=>by simp
 |n+1,a,b=>by
  refine⟨fun h=> ?_,fun h=>h.mono fun i ⟨h1,h2⟩=>⟨h1.1,h2⟩⟩
  refine h.sub fun i ⟨h1,h2⟩=> ?_
  by_cases hk:Kr g S i
  ·exact Cn.edge ⟨hk,h2⟩
  ·have h3:Cn g (fun j=>S j∧j<i) (g i).1 (g i).2:=by
    by_cases h4:Cn g (fun j=>S j∧j<i) (g i).1 (g i).2
    ·exact h4
    ·exact absurd ⟨h1,h4⟩ hk
   have h5:Cn g (fun j=>S j∧j<n) (g i).1 (g i).2:=h3.mono fun j ⟨a,b⟩=>⟨a,oM⟩
   exact((Kr.conn_lt n).1 h5).mono fun j ⟨a,b⟩=>⟨a,oM⟩
theorem Kr.conn {a b:Nat}:Cn g S a b↔Cn g (Kr g S) a b:=by
 refine⟨fun h=> ?_,fun h=>h.mono fun i h=>h.1⟩
 obtain⟨n,h⟩:=h.bound
 exact((Kr.conn_lt n).1 h).mono fun i h=>h.1
theorem Kr.bridge_lt:∀(n i:Nat),i<n→Kr g S i→¬Cn g (fun j=>Kr g S j∧j<n∧j≠i) (g i).1 (g i).2
 |0,_,h,_=>by omega
 |n+1,i,h,hk=>by
  intro hc
  by_cases ad:i=n
  ·subst ad
   exact hk.2 (hc.mono fun j ⟨h1,h2,h3⟩=>⟨h1.1,oM⟩)
  ·have hi:i<n:=oM
   by_cases ab:Kr g S n
   ·have ae:Cn g (fun j=>(Kr g S j∧j<n∧j≠i)∨j=n) (g i).1 (g i).2:=hc.mono fun j ⟨h1,h2,h3⟩=>by
     by_cases hj:j=n
     ·exact .inr hj
     ·exact .inl ⟨h1,oM,h3⟩
    have aa:∀{x y:Nat},Cn g (fun j=>Kr g S j∧j<n∧j≠i) x y→Cn g (fun j=>S j∧j<n) x y:=fun h=>h.mono fun j ⟨h1,h2,_⟩=>⟨h1.1,h2⟩
    have ac:Cn g (fun j=>S j∧j<n) (g i).1 (g i).2:=Cn.edge ⟨hk.1,hi⟩
    rcases ae.add with h1|⟨h1,h2⟩|⟨h1,h2⟩
    ·exact Kr.bridge_lt n i hi hk h1
    ·exact ab.2 (((aa h1).symm.trans ac).trans (aa h2).symm)
    ·exact ab.2 (((aa h2).trans ac.symm).trans (aa h1))
   ·refine Kr.bridge_lt n i hi hk (hc.mono fun j ⟨h1,h2,h3⟩=>⟨h1,?_,h3⟩)
    have:j≠n:=fun e=>ab (e▸h1)
    omega
theorem Kr.bridge {i:Nat} (hk:Kr g S i):¬Cn g (fun j=>Kr g S j∧j≠i) (g i).1 (g i).2:=by
 intro h
 obtain⟨n,h⟩:=h.bound
 exact Kr.bridge_lt (max n (i+1)) i oM hk (h.mono fun j ⟨⟨a,b⟩,c⟩=>⟨a,oM,b⟩)
end Go.Gr
namespace Go.Proofs.YtaofijjjheiknaaGreat
open Go.Gr
inductive Fo where
 |nil
 |node (v:Nat) (s r:Fo)
def Fo.sz:Fo→Nat
 | .nil=>0
 | .node _ s r=>s.sz+1+r.sz
def Fo.vs:Fo→List Nat
 | .nil=>[]
 | .node v s r=>v::(s.vs++r.vs)
theorem Fo.vs_len:∀T:Fo,T.vs.length=T.sz
 | .nil=>rfl
 | .node v s r=>by simp only[Fo.vs,Fo.sz,AL,AF,s.vs_len,r.vs_len];omega
structure Tw (g:Nat→Ed) (F:Nat→Prop) (P:Nat) (vt ed bro:Nat→Nat):Prop where
 mem:∀k,k<P→F (ed k)
 ends:∀k,k<P→((g (ed k)).1=vt k∧(g (ed k)).2=vt (k+1)∨(g (ed k)).1=vt (k+1)∧(g (ed k)).2=vt k)
 round:vt P=vt 0
 bro_lt:∀k,k<P→bro k<P
 bro_ne:∀k,k<P→bro k≠k
 bro_bro:∀k,k<P→bro (bro k)=k
 bro_from:∀k,k<P→vt (bro k)=vt (k+1)
 bro_to:∀k,k<P→vt (bro k+1)=vt k
 uniq:∀j k,j<P→k<P→ed j=ed k→j=k∨j=bro k
 bridge:∀i,F i→¬Cn g (fun j=>F j∧j≠i) (g i).1 (g i).2
namespace Tw
variable {g:Nat→Ed} {F:Nat→Prop} {P:Nat} {vt ed bro:Nat→Nat}
theorem join (h:Tw g F P vt ed bro) {k:Nat} (hk:k<P) {e:Nat} (aa:ed k≠e):Cn g (fun j=>F j∧j≠e) (vt k) (vt (k+1)):= .one ⟨ed k,⟨h.mem k hk,aa⟩,h.ends k hk⟩
theorem walk (h:Tw g F P vt ed bro) {e j:Nat}:∀{k:Nat},j≤k→k≤P→(∀n,j≤n→n<k→ed n≠e)→Cn g (fun i=>F i∧i≠e) (vt j) (vt k)
 |0,hj,_,_=>by
  obtain rfl:j=0:=by omega
  exact .refl _
 |k+1,hj,hk,hn=>by
  rcases Nat.eq_or_lt_of_le hj with rfl|aa
  ·exact .refl _
  ·exact(h.walk (k:=k) oM oM fun n h1 h2=>hn n h1 oM).trans (h.join oM (hn k oM oM))
theorem apart (h:Tw g F P vt ed bro) {k:Nat} (hk:k<P):¬Cn g (fun j=>F j∧j≠ed k) (vt k) (vt (k+1)):=by
 intro hc
 rcases h.ends k hk with⟨h1,h2⟩|⟨h1,h2⟩
 ·exact h.bridge _ (h.mem k hk) (by rw[h1,h2];exact hc)
 ·exact h.bridge _ (h.mem k hk) (by rw[h1,h2];exact hc.symm)
theorem first (h:Tw g F P vt ed bro) {p j:Nat} (hp:p<P) (hd:p<bro p) (hj:j≤p):vt j≠vt (p+1):=by
 intro he
 refine h.apart hp ?_
 rw[←he]
 refine(h.walk hj oM ?_).symm
 intro n h1 h2 hq
 rcases h.uniq n p oM hp hq with h3|h3<;>omega
theorem again (h:Tw g F P vt ed bro) {p:Nat} (hp:p<P) (hu:¬p<bro p):∃j,j≤p∧vt j=vt (p+1):=⟨bro p,oM,h.bro_from p hp⟩
theorem down_inj (h:Tw g F P vt ed bro) {p q:Nat} (hp:p<P) (hq:q<P) (ab:p<bro p) (aa:q<bro q) (he:vt (p+1)=vt (q+1)):p=q:=by
 rcases CJ p q with h1|h1|h1
 ·exact(h.first hq aa (show p+1≤q by omega) he).elim
 ·exact h1
 ·exact(h.first hp ab (show q+1≤p by omega) he.symm).elim
theorem down_of (h:Tw g F P vt ed bro):∀{j:Nat},j≤P→vt j≠vt 0→∃p,p<j∧p<bro p∧vt (p+1)=vt j:=by
 intro j
 induction j using Nat.strongRecOn with
 |ind j ih=>
  intro hj aa
  match j,aa with
  |0,aa=>exact(aa rfl).elim
  |j+1,aa=>
   by_cases hd:j<bro j
   ·exact⟨j,oM,hd,rfl⟩
   ·have h1:=h.bro_ne j oM
    have h2:=h.bro_from j oM
    obtain⟨p,p1,p2,p3⟩:=ih (bro j) oM oM (by rw[h2];exact aa)
    exact⟨p,oM,p2,by rw[p3,h2]⟩
theorem nocross (h:Tw g F P vt ed bro) {p a:Nat} (hp:p<P) (h1:p<a) (h2:a<bro p):p<bro a∧bro a<bro p:=by
 have hb:=h.bro_lt p hp
 have ha:a<P:=oM
 have aa:∀n,n<P→n≠p→n≠bro p→ed n≠ed p:=fun n hn e1 e2 hq=>by
  rcases h.uniq n p hn hp hq with h3|h3
  ·exact e1 h3
  ·exact e2 h3
 have ac:bro a≠p:=fun hq=>by have:=h.bro_bro a ha;rw[hq] at this;omega
 have ab:bro a≠bro p:=fun hq=>by have:=h.bro_bro a ha;rw[hq,h.bro_bro p hp] at this;omega
 have hV:Cn g (fun i=>F i∧i≠ed p) (vt (p+1)) (vt a):=h.walk oM oM fun n h3 h4=>aa n oM oM oM
 have ad:=h.bro_lt a ha
 rcases CJ (bro a) p with h3|h3|h3
 ·exfalso
  refine h.apart hp (Cn.symm (hV.trans ?_))
  rw[←h.bro_to a ha]
  exact h.walk oM oM fun n h4 h5=>aa n oM oM oM
 ·exact(ac h3).elim
 rcases CJ (bro a) (bro p) with h4|h4|h4
 ·exact⟨h3,h4⟩
 ·exact(ab h4).elim
 ·exfalso
  refine h.apart hp (Cn.symm ((hV.trans (h.join ha (aa a ha oM oM))).trans ?_))
  rw[←h.bro_from a ha]
  have e1:Cn g (fun i=>F i∧i≠ed p) (vt (bro a)) (vt P):=h.walk oM oM fun n h5 h6=>aa n oM oM oM
  rw[h.round] at e1
  exact e1.trans (h.walk oM oM fun n h5 h6=>aa n oM oM oM)
end Tw
def aYc (P:Nat) (vt bro:Nat→Nat):Fo→Nat→Nat→Prop
 | .nil,p,q=>p=q
 | .node v s r,p,q=>p<P∧p<bro p∧bro p<P∧vt (p+1)=v∧bro (bro p)=p∧vt (bro p+1)=vt p∧aYc P vt bro s (p+1) (bro p)∧aYc P vt bro r (bro p+1) q
theorem Tw.build {g:Nat→Ed} {F:Nat→Prop} {P:Nat} {vt ed bro:Nat→Nat} (h:Tw g F P vt ed bro):∀(m p q:Nat),q=p+m→q≤P→(∀n,p≤n→n<q→p≤bro n∧bro n<q)→∃T,aYc P vt bro T p q:=by
 intro m
 induction m using Nat.strongRecOn with
 |ind m ih=>
  intro p q hq hP hc
  match m,ih with
  |0,_=>exact⟨.nil,by simpa[aYc] using hq.symm⟩
  |m+1,ih=>
   have hp:p<P:=oM
   have h1:=hc p oM oM
   have h2:=h.bro_ne p hp
   obtain⟨s,hs⟩:=ih (bro p-(p+1)) oM (p+1) (bro p) oM oM (fun n h3 h4=>by
    have:=h.nocross hp (show p<n by omega) h4
    omega)
   obtain⟨r,hr⟩:=ih (q-(bro p+1)) oM (bro p+1) q oM oM (fun n h3 h4=>by
    have h5:=hc n oM h4
    have hn:n<P:=oM
    refine⟨?_,h5.2⟩
    rcases Nat.lt_or_ge (bro p) (bro n) with h6|h6
    ·omega
    ·exfalso
     have e1:=h.bro_bro n hn
     by_cases h7:bro n=p
     ·rw[h7] at e1;omega
     ·by_cases h8:bro n=bro p
      ·rw[h8,h.bro_bro p hp] at e1;omega
      ·have:=h.nocross hp (a:=bro n) oM oM
       omega)
   exact⟨.node (vt (p+1)) s r,hp,oM,h.bro_lt p hp,rfl,h.bro_bro p hp,h.bro_to p hp,hs,hr⟩
theorem Tw.trees {g:Nat→Ed} {F:Nat→Prop} {P:Nat} {vt ed bro:Nat→Nat} (h:Tw g F P vt ed bro):∃T,aYc P vt bro T 0 P:=h.build P 0 P oM (AG _) fun n _ hn=>⟨oM,h.bro_lt n hn⟩
theorem aYc.len {P:Nat} {vt bro:Nat→Nat}:∀{T:Fo} {p q:Nat},aYc P vt bro T p q→q=p+2*T.sz
 | .nil,p,q,h=>by simp only[aYc] at h;simp[Fo.sz,h]
 | .node v s r,p,q,h=>by
  obtain⟨_,_,_,_,_,_,h1,h2⟩:=h
  have e1:=h1.len
  have e2:=h2.len
  simp only[Fo.sz];omega
theorem aYc.vs_mem {P:Nat} {vt bro:Nat→Nat}:∀{T:Fo} {p q:Nat},aYc P vt bro T p q→∀x,x∈T.vs↔∃k,p≤k∧k<q∧k<bro k∧vt (k+1)=x
 | .nil,p,q,h,x=>by
  simp only[aYc] at h
  simp only[Fo.vs,B6,false_iff]
  rintro⟨k,h1,h2,_⟩;omega
 | .node v s r,p,q,h,x=>by
  obtain⟨hp,hd,ab,hv,aa,_,h1,h2⟩:=h
  have e1:=h1.len
  have e2:=h2.len
  simp only[Fo.vs,AM,AO,h1.vs_mem x,h2.vs_mem x]
  constructor
  ·rintro(rfl|⟨k,k1,k2,k3,k4⟩|⟨k,k1,k2,k3,k4⟩)
   ·exact⟨p,oM,oM,hd,hv⟩
   ·exact⟨k,oM,oM,k3,k4⟩
   ·exact⟨k,oM,oM,k3,k4⟩
  ·rintro⟨k,k1,k2,k3,k4⟩
   by_cases h3:k=p
   ·subst h3;exact .inl (k4.symm.trans hv)
   ·by_cases h4:k<bro p
    ·exact .inr (.inl ⟨k,oM,h4,k3,k4⟩)
    ·by_cases h5:k=bro p
     ·subst h5;rw[aa] at k3;omega
     ·exact .inr (.inr ⟨k,oM,k2,k3,k4⟩)
theorem Tw.vs_nodup {g:Nat→Ed} {F:Nat→Prop} {P:Nat} {vt ed bro:Nat→Nat} (hT:Tw g F P vt ed bro):∀{T:Fo} {p q:Nat},q≤P→aYc P vt bro T p q→T.vs.Nodup
 | .nil,_,_,_,_=>by simp[Fo.vs]
 | .node v s r,p,q,hq,h=>by
  obtain⟨hp,hd,ab,hv,ac,_,h1,h2⟩:=h
  have e1:=h1.len
  have e2:=h2.len
  simp only[Fo.vs,List.nodup_cons,AO,List.nodup_append]
  refine⟨?_,hT.vs_nodup oM h1,hT.vs_nodup hq h2,?_⟩
  ·rw[h1.vs_mem,h2.vs_mem]
   rintro(⟨k,k1,k2,k3,k4⟩|⟨k,k1,k2,k3,k4⟩)
   ·have:=hT.down_inj hp oM hd k3 (hv.trans k4.symm);omega
   ·have:=hT.down_inj hp oM hd k3 (hv.trans k4.symm);omega
  ·intro x hx y hy aa
   subst aa
   obtain⟨k,k1,k2,k3,k4⟩:=(h1.vs_mem x).1 hx
   obtain⟨j,j1,j2,j3,j4⟩:=(h2.vs_mem x).1 hy
   have:=hT.down_inj oM oM k3 j3 (k4.trans j4.symm);omega
def Fo.Jo (J:Int→Nat→Prop):Int→Fo→Prop
 |_,.nil=>True
 |u,.node v s r=>J u v∧s.Jo J (v:Int)∧r.Jo J u
theorem aYc.jo {P:Nat} {vt bro:Nat→Nat} {J:Int→Nat→Prop} (hJ:∀k,k<P→J (vt k:Int) (vt (k+1))):∀{T:Fo} {p q:Nat},aYc P vt bro T p q→T.Jo J (vt p)
 | .nil,_,_,_=>trivial
 | .node v s r,p,q,h=>by
  obtain⟨hp,hd,ab,rfl,ac,aa,h1,h2⟩:=h
  refine⟨hJ p hp,h1.jo hJ,?_⟩
  have:=h2.jo hJ
  rwa[aa] at this
open Go.SL Go.Tup
section
variable {α:Type} {f:α→List Value} {k:Nat}
theorem aHv (hf:∀a,(f a).length=k):∀l:List α,(l.flatMap f).length=l.length*k
 |[]=>by simp
 |a::l=>by rw[A8,AF,hf,aHv hf l,AL,BG];omega
theorem bJh (hf:∀a,(f a).length=k):∀(l:List α) (i:Nat),(l.flatMap f).drop (i*k)=(l.drop i).flatMap f
 |[],i=>by simp
 |a::l,0=>by simp
 |a::l,i+1=>by
  rw[A8,List.drop_succ_cons,←bJh hf l i,show(i+1)*k=(f a).length+i*k by rw[hf,BG];omega,List.drop_append]
  simp
theorem bOy (hf:∀a,(f a).length=k) {l:List α} {i:Nat} {a:α} (h:l[i]? =some a):((l.flatMap f).drop (i*k)).take k=f a:=by
 obtain⟨hi,rfl⟩:=AK.1 h
 rw[bJh hf,BQ hi,A8,List.take_left' (hf _)]
theorem aZu (hf:∀a,(f a).length=k) {l:List α} {i:Nat} {a:α} (h:l[i]? =some a) (rest:List Value):((l.flatMap f++rest).drop (i*k)).take k=f a:=by
 obtain⟨hi,_⟩:=AK.1 h
 have hl:=aHv hf l
 have h1:(i+1)*k≤l.length*k:=Nat.mul_le_mul_right _ hi
 rw[BG] at h1
 rw[List.drop_append_of_le_length oM,List.take_append_of_le_length (by rw[List.length_drop];omega),bOy hf h]
theorem bOz (hf:∀a,(f a).length=k) {l:List α} {i j:Nat} {a:α} {v:Value} (h:l[i]? =some a) (hj:(f a)[j]? =some v) (rest:List Value):(l.flatMap f++rest)[i*k+j]? =some v:=by
 have h1:=aZu hf h rest
 have aa:j<k:=by have:=(AK.1 hj).1;rw[hf] at this;exact this
 have h2:=congrArg (fun l=>l[j]?) h1
 simp only[BW,if_pos aa,BR] at h2
 rw[h2,hj]
theorem bJi (hf:∀a,(f a).length=k) (l:List α) (i:Nat) (b:α) (rest:List Value) (h:i<l.length):aFm (l.flatMap f++rest) (i*k) (f b)=(l.set i b).flatMap f++rest:=by
 obtain⟨l1,a,l2,rfl,aa⟩:∃l1 a l2,l=l1++a::l2∧l1.length=i:=⟨l.take i,l[i],l.drop (i+1),by rw[←BQ h,BV],by simp;omega⟩
 subst aa
 have h1:=aHv hf l1
 rw[aGb _ _ _ (by simp only[CF,A8,AF,aHv hf,hf];omega)]
 rw[D4 _ _ (AG _),DP,ED]
 simp only[CF,A8,List.append_assoc]
 rw[←h1,List.take_left,hf]
 congr 2
 rw[←List.drop_drop,List.drop_left,←hf a,List.drop_left]
theorem bNd {cs xs:List Value} {off m i:Nat} {v:Value} (h:(cs.drop off).take m=xs) (hv:xs[i]? =some v):cs[off+i]? =some v:=by
 rw[←h,BW] at hv
 split at hv
 ·rwa[BR] at hv
 ·cases hv
theorem bNe {cs xs vs:List Value} {off m i q:Nat} (h:(cs.drop off).take m=xs) (hv:(xs.drop i).take q=vs) (hq:vs.length=q):(cs.drop (off+i)).take q=vs:=by
 rw[←h,List.drop_take,List.drop_drop,List.take_take] at hv
 have h1:(vs.length:Nat)≤m-i:=by
  rw[←hv,BN];omega
 rw[show min q (m-i)=q by omega] at hv
 exact hv
def Rw (f:α→List Value) (k:Nat) (p:Option Addr) (m:Nat) (xs:List α) (c:aAc):Prop:=
 xs.length=m∧((m=0∧c=[])∨∃b off cs T fz,p=some ⟨b,off,none⟩∧c=[(b,aBs cs T fz)]∧(cs.drop off).take (m*k)=xs.flatMap f)
theorem Rw.pos (hf:∀a,(f a).length=k) {p:Option Addr} {m:Nat} {xs:List α} {c:aAc} (h:Rw f k p m xs c) (hm:0<m):∃b off cs T fz,p=some ⟨b,off,none⟩∧c=[(b,aBs cs T fz)]∧
  (∀i a,xs[i]? =some a→(cs.drop (off+i*k)).take k=f a)∧∀i j a v,xs[i]? =some a→(f a)[j]? =some v→cs[off+i*k+j]? =some v:=by
 obtain⟨hl,⟨h0,_⟩|⟨b,off,cs,T,fz,rfl,rfl,h⟩⟩:=h
 ·omega
 ·refine⟨b,off,cs,T,fz,rfl,rfl,fun i a hi=>bNe h (bOy hf hi) (hf a),fun i j a v hi hj=> ?_⟩
  have:=bOz hf hi hj []
  rw[AQ] at this
  rw[Nat.add_assoc]
  exact bNd h this
theorem Rw.ofVec (hf:∀a,(f a).length=k) {E:Nat} {p:Option Addr} {m cap:Nat} {xs:List α} {c:aAc} (h:Vec E k p m cap (xs.flatMap f) c) (hk:0<k):Rw f k p m xs c:=by
 have hl:xs.length=m:=by have:=h.1;rw[aHv hf] at this;exact Nat.eq_of_mul_eq_mul_right hk this
 rcases h.2 with⟨_,h0,_,hc⟩|⟨b,rest,hp,hc,_,_,_⟩
 ·exact⟨hl,.inl ⟨h0,hc⟩⟩
 ·refine⟨hl,.inr ⟨b,0,xs.flatMap f++rest,E,(0,0),hp,hc,?_⟩⟩
  rw[List.drop_zero,←h.1,List.take_left]
end
abbrev IE:=Int×Int
def ecl (e:IE):List Value:=[.int .i64 e.1,.int .i64 e.2]
def bcl (x:Bool):List Value:=[.bool x]
theorem aIo (e:IE):(ecl e).length=2:=rfl
theorem bSh (e:Bool):(bcl e).length=1:=rfl
theorem aGs:∀ts:List T5,flat ts=ts.flatMap aAk
 |[]=>rfl
 |t::ts=>by rw[A8,←aGs ts];rfl
theorem aAr (t:T5):(aAk t).length=5:=rfl
theorem RV.rw {p:Option Addr} {n:Nat} {ts:List T5} {c:aAc} (h:RV p n ts c):Rw aAk 5 p n ts c:=by
 obtain⟨h1,h2⟩:=h
 rw[aGs] at h2
 exact⟨h1,h2⟩
theorem Rw.rv {p:Option Addr} {n:Nat} {ts:List T5} {c:aAc} (h:Rw aAk 5 p n ts c):RV p n ts c:=by
 obtain⟨h1,h2⟩:=h
 rw[←aGs] at h2
 exact⟨h1,h2⟩
def gv (n:Int) (p:Option Addr) (m cap:Nat):Value:= .agg #[.int .i64 n,.slice p m cap]
def inE (n:Int) (e:IE):Prop:=0≤e.1∧e.1<n∧0≤e.2∧e.2<n
instance (n:Int) (e:IE):Decidable (inE n e):=by unfold inE;infer_instance
def aDp (n:Int) (es:List IE):Bool:=decide (0≤n∧n≤1073741824∧es.length≤1073741824)&&es.all fun e=>decide (inE n e)
theorem aJk (n:Int) (p:Option Addr) (m cap:Nat) (es:List IE) (c:aAc) (hv:Rw ecl 2 p m es c) (hm:m≤maxLen):
  CtQ AC 16 [gv n p m cap] [c] (.bool (aDp n es)):=by
 have hl:=hv.1
 simp only[maxLen] at hm
 have ad:∀i e,es[i]? =some e→¬inE n e→aDp n es=false:=fun i e hi he=>by
  unfold aDp
  rw[Bool.and_eq_false_iff]
  exact .inr (by simp only[List.all_eq_false,decide_eq_true_eq];exact⟨e,A3 hi,he⟩)
 unfold gv
 by_cases h1:n<0
 ·have hb:aDp n es=false:=by unfold aDp;rw[decide_eq_false oM];rfl
  rw[hb]
  refine Ct.go Tryz.func16 Tryz.ntmps16 fun w0=> ?_
  repeat(refine st ?_;intros)
  (refine Dn.post (Hr:=[c]) Tryz.results16 (hR:= ?_);exact⟨rfl,rfl⟩)
 by_cases h2:1073741824<n
 ·have hb:aDp n es=false:=by unfold aDp;rw[decide_eq_false oM];rfl
  rw[hb]
  refine Ct.go Tryz.func16 Tryz.ntmps16 fun w0=> ?_
  repeat(refine st ?_;intros)
  (refine Dn.post (Hr:=[c]) Tryz.results16 (hR:= ?_);exact⟨rfl,rfl⟩)
 by_cases h3:1073741824<m
 ·have hb:aDp n es=false:=by unfold aDp;rw[decide_eq_false oM];rfl
  rw[hb]
  refine Ct.go Tryz.func16 Tryz.ntmps16 fun w0=> ?_
  repeat(refine st ?_;intros)
  (refine Dn.post (Hr:=[c]) Tryz.results16 (hR:= ?_);exact⟨rfl,rfl⟩)
 refine Ct.go Tryz.func16 Tryz.ntmps16 fun w0=> ?_
 repeat(refine st ?_;intros)
 rename_i b1
 refine G.loop (X:=Nat) (fun i=>i≤m∧∀j e,j<i→es[j]? =some e→inE n e)
  (fun i=>[(3,.int .i64 (i:Int)),(1,pv b1)])
  (fun _=>[[(b1,row [.int .i64 n,.slice p m cap] 24)],c]) (fun i=>m-i) 0 ⟨AS _,fun j e h=>by omega⟩ (body:= ?_)
 rintro i ⟨hi,ae⟩
 by_cases aj:i<m
 ·obtain⟨b,off,cs,T,fz,rfl,rfl,ag,ai⟩:=hv.pos aIo oM
  have ac:es[i]? =some es[i]:=AE oM
  have hc:=ag i _ ac
  have aa:=ad i _ ac
  generalize he:es[i]=e at*
  obtain⟨u,v⟩:=e
  have ak:(cs.drop (off+i*2)).take 2=[.int .i64 u,.int .i64 v]:=hc
  by_cases g1:u<0
  ·rw[aa (by unfold inE;dsimp only;omega)]
   repeat(refine st ?_;intros)
   (refine Dn.post (Hr:=[[(b,aBs cs T fz)]]) Tryz.results16 (hR:= ?_);exact⟨rfl,rfl⟩)
  by_cases g2:n≤u
  ·rw[aa (by unfold inE;dsimp only;omega)]
   repeat(refine st ?_;intros)
   (refine Dn.post (Hr:=[[(b,aBs cs T fz)]]) Tryz.results16 (hR:= ?_);exact⟨rfl,rfl⟩)
  by_cases g3:v<0
  ·rw[aa (by unfold inE;dsimp only;omega)]
   repeat(refine st ?_;intros)
   (refine Dn.post (Hr:=[[(b,aBs cs T fz)]]) Tryz.results16 (hR:= ?_);exact⟨rfl,rfl⟩)
  by_cases g4:n≤v
  ·rw[aa (by unfold inE;dsimp only;omega)]
   repeat(refine st ?_;intros)
   (refine Dn.post (Hr:=[[(b,aBs cs T fz)]]) Tryz.results16 (hR:= ?_);exact⟨rfl,rfl⟩)
  repeat(refine st ?_;intros)
  refine Dn.round (i+1) ⟨oM,fun j e hj ab=> ?_⟩ oM
  by_cases ah:j=i
  ·subst ah
   rw[ac] at ab
   simp only[BA] at ab
   subst ab
   exact⟨oD,oD,oD,oD⟩
  ·exact ae j e oM ab
 ·obtain rfl:i=m:=by omega
  have hb:aDp n es=true:=by
   unfold aDp
   rw[decide_eq_true oM,Bool.true_and,List.all_eq_true]
   intro e he
   obtain⟨j,hj,rfl⟩:=CU he
   exact decide_eq_true (ae j _ oM (AE hj))
  rw[hb]
  repeat(refine st ?_;intros)
  (refine Dn.post (Hr:=[c]) Tryz.results16 (hR:= ?_);exact⟨rfl,rfl⟩)
theorem aTp (n:Int) (p:Option Addr) (m cap:Nat) (a b:Int) (hm:m≤maxLen):CtQ AC 17 [gv n p m cap,.int .i64 a,.int .i64 b] [] (.bool (dec (n≤a∧(m:Int)≤b))):=by
 simp only[maxLen] at hm
 unfold gv
 by_cases h1:n≤a
 ·by_cases h2:(m:Int)≤b
  ·rw[aBf ⟨h1,h2⟩]
   refine Ct.go Tryz.func17 Tryz.ntmps17 fun w0=> ?_
   repeat(refine st ?_;intros)
   (refine Dn.post (Hr:=[]) Tryz.results17 (hR:= ?_);exact⟨congrArg Value.bool (aBf h2),rfl⟩)
  ·rw[aBu oM]
   refine Ct.go Tryz.func17 Tryz.ntmps17 fun w0=> ?_
   repeat(refine st ?_;intros)
   (refine Dn.post (Hr:=[]) Tryz.results17 (hR:= ?_);exact⟨congrArg Value.bool (aBu h2),rfl⟩)
 ·rw[aBu oM]
  refine Ct.go Tryz.func17 Tryz.ntmps17 fun w0=> ?_
  repeat(refine st ?_;intros)
  (refine Dn.post (Hr:=[]) Tryz.results17 (hR:= ?_);exact⟨rfl,rfl⟩)
def gE (es:List IE) (i:Nat):Ed:=match es[i]? with
 |some e=>(e.1.toNat,e.2.toNat)
 |none=>(0,0)
def aZv (es:List IE) (ob:List Bool) (w:Int) (i:Nat):Prop:=∃e,es[i]? =some e∧e.1≠w∧e.2≠w∧ob[i]?≠some true
def aAu (l:List Int):List Value:=l.map (Value.int .i64)
theorem aEm {l:List Int} {i:Nat} {x:Int} (h:l[i]? =some x):(aAu l)[i]? =some (.int .i64 x):=by unfold aAu;rw[BU,h];rfl
theorem aDb (l:List Int) (i:Nat) (x:Int):(aAu l).set i (.int .i64 x)=aAu (l.set i x):=by unfold aAu;rw[List.map_set]
structure aPx (g:Nat→Ed) (S:Nat→Prop) (N:Nat) (w:Int) (l:List Int):Prop where
 len:l.length=N
 at_:∀v,v<N→(v:Int)≠w→∃x:Nat,l[v]? =some (x:Int)∧Cn g S v x∧x≤v∧(x:Int)≠w
 out:∀v,v<N→(v:Int)=w→l[v]? =some (-1)
structure aKl (g:Nat→Ed) (S:Nat→Prop) (N:Nat) (w:Int) (l:List Int):Prop where
 len:l.length=N
 at_:∀v,v<N→(v:Int)≠w→∃x:Nat,l[v]? =some (x:Int)∧Cn g S v x∧x≤v∧∀u,Cn g S v u→x≤u
 out:∀v,v<N→(v:Int)=w→l[v]? =some (-1)
def bFn (l:List Int):Nat:=(l.map Int.toNat).sum
theorem aOd {l:List Int} {i:Nat} {x y:Int} (h:l[i]? =some x) (hy:y.toNat<x.toNat):bFn (l.set i y)<bFn l:=by
 obtain⟨hi,rfl⟩:=AK.1 h
 unfold bFn
 have e1:l=l.take i++l[i]::l.drop (i+1):=by rw[←BQ hi,BV]
 have e2:l.set i y=l.take i++y::l.drop (i+1):=by rw[List.set_eq_take_append_cons_drop,if_pos hi]
 rw[e2]
 conv=>rhs;rw[e1]
 simp only[List.map_append,AZ,List.sum_append_nat,List.sum_cons]
 omega
theorem aPx.done {g:Nat→Ed} {S:Nat→Prop} {N:Nat} {w:Int} {l:List Int} (h:aPx g S N w l) (hs:∀i,S i→l[(g i).1]? =l[(g i).2]?):aKl g S N w l:=by
 refine⟨h.len,fun v hv hw=> ?_,h.out⟩
 obtain⟨x,h1,h2,h3,_⟩:=h.at_ v hv hw
 refine⟨x,h1,h2,h3,fun u hu=> ?_⟩
 have h4:l[u]? =l[v]? :=hu.stay (X:=fun y=>l[y]? =l[v]?) rfl fun i hi=>by rw[hs i hi]
 rw[h1] at h4
 have aa:u<N:=by rw[←h.len];exact(AK.1 h4).1
 by_cases ab:(u:Int)=w
 ·have:=h.out u aa ab;rw[h4] at this;simp only[BA] at this;omega
 ·obtain⟨y,h5,_,h6,_⟩:=h.at_ u aa ab
  rw[h4] at h5;simp only[BA] at h5;omega
theorem aPx.put {g:Nat→Ed} {S:Nat→Prop} {N:Nat} {w:Int} {l:List Int} (h:aPx g S N w l) {a b:Nat} {x y:Nat} (ha:l[a]? =some (x:Int)) (hb:l[b]? =some (y:Int)) (hj:Cn g S b a) (ae:x≤y) (ac:(a:Int)≠w) (ab:(b:Int)≠w):aPx g S N w (l.set b (x:Int)):=by
 have ag:b<N:=by rw[←h.len];exact(AK.1 hb).1
 have ad:a<N:=by rw[←h.len];exact(AK.1 ha).1
 refine⟨by rw[DS];exact h.len,fun v hv hw=> ?_,fun v hv hw=> ?_⟩
 ·by_cases aa:v=b
  ·subst aa
   obtain⟨x',h1,h2,h3,h4⟩:=h.at_ a ad ac
   obtain⟨y',g1,g2,g3,g4⟩:=h.at_ v hv hw
   rw[ha] at h1;rw[hb] at g1
   simp only[BA] at h1 g1
   obtain rfl:x=x':=by omega
   exact⟨x,by rw[DV (by rw[h.len];exact hv)],hj.trans h2,oM,h4⟩
  ·obtain⟨x',h1,h2,h3⟩:=h.at_ v hv hw
   exact⟨x',by rw[DC (Ne.symm aa)];exact h1,h2,h3⟩
 ·have aa:v≠b:=fun e=>ab (e▸hw)
  rw[DC (Ne.symm aa)]
  exact h.out v hv hw
structure LabX where
 i:Nat
 l:List Int
 ch:Bool
theorem aPy {l:List Int} {i:Nat} {x:Int} (h:l[i]? =some x):l.set i x=l:=by
 obtain⟨hi,rfl⟩:=AK.1 h
 exact List.set_getElem_self hi
def n0 (N:Nat):List Int:=(BH N).map fun (v:Nat)=>(v:Int)
theorem aXf (N:Nat):(n0 N).length=N:=by simp[n0]
theorem bEq {N v:Nat} (h:v<N):(n0 N)[v]? =some (v:Int):=by simp[n0,h]
def nf (N i:Nat):List Int:=(n0 N).take i++BY (N-i) 0
theorem bPa (N i:Nat) (h:i≤N):(nf N i).length=N:=by simp[nf,aXf];omega
theorem bPb (N i:Nat) (h:i<N):(nf N i).set i (i:Int)=nf N (i+1):=by
 unfold nf
 have hl:((n0 N).take i).length=i:=by simp[aXf];omega
 rw[D4 _ _ oM,hl,DP,show N-i=(N-(i+1))+1 by omega,List.replicate_succ,ED,BP,bEq h]
 simp
theorem bPc (N:Nat):nf N N=n0 N:=by simp[nf,aXf,A4]
theorem aZw:∀N,aEu N [Value.int .i64 0]=aAu (nf N 0)
 |0=>rfl
 |N+1=>by
  have:=aZw N
  unfold nf aAu at this⊢
  simp only[List.take_zero,AB,Nat.sub_zero] at this⊢
  rw[List.replicate_succ,AZ,←this];rfl
theorem n0in (g:Nat→Ed) (S:Nat→Prop) (N:Nat) (w:Int) (hw:¬(0≤w∧w<N)):aPx g S N w (n0 N):=
 ⟨aXf N,fun v hv aa=>⟨v,bEq hv,.refl _,AG _,aa⟩,fun v hv h=>absurd ⟨oM,oM⟩ hw⟩
theorem n0inW (g:Nat→Ed) (S:Nat→Prop) (N w:Nat) (hw:w<N):aPx g S N w ((n0 N).set w (-1)):=
 ⟨by rw[DS];exact aXf N,fun v hv aa=>⟨v,by rw[DC oM];exact bEq hv,.refl _,AG _,aa⟩,
  fun v hv h=>by
   obtain rfl:v=w:=by omega
   rw[DV (by rw[aXf];exact hv)]⟩
theorem bJj (N:Nat) (hN:N≤1000000) (p:Option Addr) (m cap:Nat) (es:List IE) (c:aAc) (hv:Rw ecl 2 p m es c) (hm:m≤1000000) (hf:∀e∈es,inE N e) (po:Option Addr) (ko ae:Nat) (ob:List Bool) (co:aAc) (ax:Rw bcl 1 po ko ob co) (bg:ko≤1000000) (w:Int):
  Ct AC 98 [gv N p m cap,.slice po ko ae,.int .i64 w] [c,co] fun v H'=>∃bl l,v= .slice (some ⟨bl,0,none⟩) N N∧H'=[c,co,[(bl,row (aAu l) 3)]]∧aKl (gE es) (aZv es ob w) N w l:=by
 have hl:=hv.1
 have bh:=ax.1
 have bi:∀x:Nat,x≤1000000→(x:Int)≤9223372036854775807:=fun x h=>by omega
 unfold gv
 refine Ct.go Tryz.func98 Tryz.ntmps98 fun w0=> ?_
 repeat(refine sv ?_;intros)
 rename_i b3 bl
 rw[aZw]
 refine G.loop (X:=Nat) (fun i=>i≤N) (fun i=>[(8,.int .i64 (i:Int)),(7,.slice (some ⟨bl,0,none⟩) N N),(3,pv b3),(1,.slice po ko ae),(2,.int .i64 w)])
  (fun i=>[[(bl,row (aAu (nf N i)) 3)],[(b3,row [.int .i64 (N:Int),.slice p m cap] 24)],c,co]) (fun i=>N-i) 0 (AS _) (body:= ?_)
 intro i hi
 by_cases ab:i<N
 ·have ac:(aAu (nf N i)).set i (.int .i64 (i:Int))=aAu (nf N (i+1)):=by rw[aDb,bPb N i ab]
  have ay:i<(aAu (nf N i)).length:=by simp only[aAu,AY,bPa N i hi];exact ab
  repeat(refine sv ?_;intros)
  refine Dn.round (i+1) oM oM
 obtain rfl:i=N:=by omega
 rw[bPc]
 clear hi ab
 apply G.seq
 repeat(first|(refine stn ?_;intros)|refine G.draw [] (h:= ?_))
 apply G.seq
 repeat(first|(refine stn ?_;intros)|refine G.draw [] (h:= ?_))
 refine G.cut (D':=[]) (X:=List Int) (fun l=>aPx (gE es) (aZv es ob w) i w l) (fun _=>[(7,.slice (some ⟨bl,0,none⟩) i i),(3,pv b3),(1,.slice po ko ae),(2,.int .i64 w)]) (fun l=>[[(bl,row (aAu l) 3)],[(b3,row [.int .i64 (i:Int),.slice p m cap] 24)],c,co]) ?_ ?_
 ·by_cases hw:0≤w∧w<i
  ·obtain⟨w',rfl⟩:∃w':Nat,w=(w':Int):=⟨w.toNat,oM⟩
   have ac:(aAu (n0 i)).set w' (.int .i64 (-1))=aAu ((n0 i).set w' (-1)):=aDb _ _ _
   have ay:w'<(aAu (n0 i)).length:=by simp only[aAu,AY,aXf];omega
   repeat(refine sv ?_;intros)
   exact Dn.meet ((n0 i).set w' (-1)) (n0inW _ _ i w' oM)
  ·have aj:=n0in (gE es) (aZv es ob w) i w hw
   by_cases bk:0≤w
   ·repeat(refine sv ?_;intros)
    exact Dn.meet (n0 i) aj
   ·repeat(refine sv ?_;intros)
    exact Dn.meet (n0 i) aj
 intro l0 az
 repeat(refine sv ?_;intros)
 refine G.loop (X:=List Int×Bool) (fun x=>aPx (gE es) (aZv es ob w) i w x.1∧(x.2=false→∀j,aZv es ob w j→x.1[(gE es j).1]? =x.1[(gE es j).2]?))
  (fun x=>[(9,.bool x.2),(7,.slice (some ⟨bl,0,none⟩) i i),(3,pv b3),(1,.slice po ko ae),(2,.int .i64 w)]) (fun x=>[[(bl,row (aAu x.1) 3)],[(b3,row [.int .i64 (i:Int),.slice p m cap] 24)],c,co]) (fun x=>2*bFn x.1+(if x.2 then 1 else 0)) (l0,true) ⟨az,fun h=>by cases h⟩ (body:= ?_)
 rintro⟨l,ch⟩ ⟨aj,a0⟩
 dsimp only at aj a0⊢
 cases ch with
 |false=>
  repeat(refine sv ?_;intros)
  (refine Dn.post (Hr:=[c,co,[(bl,row (aAu l) 3)]]) Tryz.results98 (hR:= ?_);exact⟨bl,l,rfl,rfl,aj.done (a0 rfl)⟩)
 |true=>
 repeat(refine sv ?_;intros)
 refine G.loop (X:=LabX) (fun x=>x.i≤m∧aPx (gE es) (aZv es ob w) i w x.l∧bFn x.l≤bFn l∧(x.ch=true→bFn x.l<bFn l)∧(x.ch=false→∀j,j<x.i→aZv es ob w j→x.l[(gE es j).1]? =x.l[(gE es j).2]?))
  (fun x=>[(10,.int .i64 (x.i:Int)),(9,.bool x.ch),(7,.slice (some ⟨bl,0,none⟩) i i),(3,pv b3),(1,.slice po ko ae),(2,.int .i64 w)]) (fun x=>[[(bl,row (aAu x.l) 3)],[(b3,row [.int .i64 (i:Int),.slice p m cap] 24)],c,co]) (fun x=>m-x.i) ⟨0,l,false⟩ ⟨AS _,aj,AG _,fun h=>(by cases h),fun _ j h=>absurd h (D9 j)⟩ (body:= ?_)
 rintro⟨k,l2,ch⟩ ⟨hk,aa,ap,ak,al⟩
 dsimp only at hk aa ap ak al⊢
 by_cases ab:k<m
 rotate_left
 ·obtain rfl:k=m:=by omega
  repeat(refine sv ?_;intros)
  refine Dn.round (l2,ch) ⟨aa,fun h j hj=>al h j ?_ hj⟩ ?_
  ·obtain⟨e,h1,_⟩:=hj
   rw[←hl];exact(AK.1 h1).1
  ·dsimp only
   cases ch with
   |true=>have:=ak rfl;simp only[if_true];omega
   |false=>simp only[CP,if_false,if_true];omega
 obtain⟨b,off,cs,T,fz,rfl,rfl,a1,be⟩:=hv.pos aIo oM
 have ah:es[k]? =some es[k]:=AE oM
 have hc:=a1 k _ ah
 have a3:=hf _ (A3 ah)
 generalize he:es[k]=e at*
 obtain⟨u,v⟩:=e
 obtain⟨f1,f2,f3,f4⟩:=a3
 dsimp only at f1 f2 f3 f4
 obtain⟨u,rfl⟩:∃u':Nat,u=(u':Int):=⟨u.toNat,oM⟩
 obtain⟨v,rfl⟩:∃v':Nat,v=(v':Int):=⟨v.toNat,oM⟩
 have bo:(cs.drop (off+k*2)).take 2=[.int .i64 (u:Int),.int .i64 (v:Int)]:=hc
 have aq:gE es k=(u,v):=by unfold gE;rw[ah];simp
 have ai:¬aZv es ob w k→aPx (gE es) (aZv es ob w) i w l2∧bFn l2≤bFn l∧(ch=true→bFn l2<bFn l)∧(ch=false→∀j,j<k+1→aZv es ob w j→l2[(gE es j).1]? =l2[(gE es j).2]?):=fun a4=>
  ⟨aa,ap,ak,fun h j hj ha=>by
   by_cases am:j=k
   ·subst am;exact absurd ha a4
   ·exact al h j oM ha⟩
 by_cases g1:(u:Int)=w
 ·obtain⟨q1,q2,q3,q4⟩:=ai fun ⟨e,h1,h2,_⟩=>by rw[ah] at h1;simp only[BA] at h1;subst h1;exact h2 g1
  repeat(refine sv ?_;intros)
  refine Dn.round ⟨k+1,l2,ch⟩ ⟨ab,q1,q2,q3,q4⟩ oD
 by_cases g2:(v:Int)=w
 ·obtain⟨q1,q2,q3,q4⟩:=ai fun ⟨e,h1,_,h2,_⟩=>by rw[ah] at h1;simp only[BA] at h1;subst h1;exact h2 g2
  repeat(refine sv ?_;intros)
  refine Dn.round ⟨k+1,l2,ch⟩ ⟨ab,q1,q2,q3,q4⟩ oD
 by_cases g3:k<ko
 ·obtain⟨bp,bf,bq,To,bu,rfl,rfl,a5,au⟩:=ax.pos bSh oM
  have av:ob[k]? =some ob[k]:=AE oM
  have a6:=au k 0 _ _ av rfl
  rw[Nat.mul_one,CD] at a6
  generalize bv:ob[k]=o at*
  cases o with
  |true=>
   obtain⟨q1,q2,q3,q4⟩:=ai fun ⟨e,h1,_,_,h2⟩=>h2 av
   repeat(refine sv ?_;intros)
   refine Dn.round ⟨k+1,l2,ch⟩ ⟨ab,q1,q2,q3,q4⟩ oD
  |false=>
  have an:aZv es ob w k:=⟨_,ah,g1,g2,by rw[av];decide⟩
  obtain⟨x,x1,x2,x3,x4⟩:=aa.at_ u oM g1
  obtain⟨y,y1,y2,y3,y4⟩:=aa.at_ v oM g2
  have a7:=aEm x1
  have a8:=aEm y1
  have ag:Cn (gE es) (aZv es ob w) u v:=by
   have:=Cn.edge (g:=gE es) an
   rw[aq] at this;exact this
  have a9:u<(aAu l2).length:=by simp only[aAu,AY,aa.len];omega
  have bc:v<(aAu l2).length:=by simp only[aAu,AY,aa.len];omega
  by_cases aw:x=y
  ·subst aw
   have ac:(aAu l2).set u (.int .i64 (x:Int))=aAu l2:=by
    rw[aDb];congr 1
    exact aPy x1
   repeat(refine sv ?_;intros)
   refine Dn.round ⟨k+1,l2,ch⟩ ⟨ab,aa,ap,ak,fun h j hj ha=> ?_⟩ oD
   by_cases am:j=k
   ·subst am;rw[aq];exact x1.trans y1.symm
   ·exact al h j (by dsimp only at hj;omega) ha
  ·by_cases a2:x<y
   ·have ac:(aAu l2).set v (.int .i64 (x:Int))=aAu (l2.set v (x:Int)):=aDb _ _ _
    have ao:=aOd (y:=(x:Int)) y1 oM
    have ad:=aa.put x1 y1 ag.symm oM g1 g2
    repeat(refine sv ?_;intros)
    refine Dn.round ⟨k+1,l2.set v (x:Int),true⟩ ⟨ab,ad,oD,fun _=>by dsimp only;omega,fun h=>(by cases h)⟩ oD
   ·have ac:(aAu l2).set u (.int .i64 (y:Int))=aAu (l2.set u (y:Int)):=aDb _ _ _
    have ao:=aOd (y:=(y:Int)) x1 oM
    have ad:=aa.put y1 x1 ag oM g2 g1
    repeat(refine sv ?_;intros)
    refine Dn.round ⟨k+1,l2.set u (y:Int),true⟩ ⟨ab,ad,oD,fun _=>by dsimp only;omega,fun h=>(by cases h)⟩ oD
 ·have an:aZv es ob w k:=⟨_,ah,g1,g2,by rw[List.getElem?_eq_none oM];decide⟩
  obtain⟨x,x1,x2,x3,x4⟩:=aa.at_ u oM g1
  obtain⟨y,y1,y2,y3,y4⟩:=aa.at_ v oM g2
  have a7:=aEm x1
  have a8:=aEm y1
  have ag:Cn (gE es) (aZv es ob w) u v:=by
   have:=Cn.edge (g:=gE es) an
   rw[aq] at this;exact this
  have a9:u<(aAu l2).length:=by simp only[aAu,AY,aa.len];omega
  have bc:v<(aAu l2).length:=by simp only[aAu,AY,aa.len];omega
  by_cases aw:x=y
  ·subst aw
   have ac:(aAu l2).set u (.int .i64 (x:Int))=aAu l2:=by
    rw[aDb];congr 1
    exact aPy x1
   repeat(refine sv ?_;intros)
   refine Dn.round ⟨k+1,l2,ch⟩ ⟨ab,aa,ap,ak,fun h j hj ha=> ?_⟩ oD
   by_cases am:j=k
   ·subst am;rw[aq];exact x1.trans y1.symm
   ·exact al h j (by dsimp only at hj;omega) ha
  ·by_cases a2:x<y
   ·have ac:(aAu l2).set v (.int .i64 (x:Int))=aAu (l2.set v (x:Int)):=aDb _ _ _
    have ao:=aOd (y:=(x:Int)) y1 oM
    have ad:=aa.put x1 y1 ag.symm oM g1 g2
    repeat(refine sv ?_;intros)
    refine Dn.round ⟨k+1,l2.set v (x:Int),true⟩ ⟨ab,ad,oD,fun _=>by dsimp only;omega,fun h=>(by cases h)⟩ oD
   ·have ac:(aAu l2).set u (.int .i64 (y:Int))=aAu (l2.set u (y:Int)):=aDb _ _ _
    have ao:=aOd (y:=(y:Int)) x1 oM
    have ad:=aa.put y1 x1 ag oM g2 g1
    repeat(refine sv ?_;intros)
    refine Dn.round ⟨k+1,l2.set u (y:Int),true⟩ ⟨ab,ad,oD,fun _=>by dsimp only;omega,fun h=>(by cases h)⟩ oD
def aIp (n:Int) (t:T5):Prop:=0≤t.c0∧0≤t.c1∧0≤t.c2∧t.c1<n∧t.c2<n
instance (n:Int) (t:T5):Decidable (aIp n t):=by unfold aIp;infer_instance
def aIq (n:Int) (ts:List T5):Prop:=(∀t∈ts,aIp n t)∧ts.Pairwise fun a b=>a.c0≠b.c0
instance (n:Int) (ts:List T5):Decidable (aIq n ts):=by unfold aIq;infer_instance
theorem bJk (n:Nat) (hn:n≤1073741824) (p:Option Addr) (m cap:Nat) (ts:List T5) (c:aAc) (hv:RV p m ts c) (hm:m≤1000000):
  CtQ AC 99 [.int .i64 (n:Int),.slice p m cap] [c] (.bool (dec (aIq n ts))):=by
 have hl:=hv.1
 have ah:∀i t,ts[i]? =some t→¬aIp n t→dec (aIq n ts)=false:=fun i t hi ht=>aBu fun h=>ht (h.1 t (A3 hi))
 refine Ct.go Tryz.func99 Tryz.ntmps99 fun w0=> ?_
 repeat(refine sv ?_;intros)
 refine G.loop (X:=Nat) (fun i=>i≤m∧(∀j t,j<i→ts[j]? =some t→aIp n t)∧∀j k t u,j<k→k<i→ts[j]? =some t→ts[k]? =some u→t.c0≠u.c0)
  (fun i=>[(5,.int .i64 (i:Int)),(1,.slice p m cap),(0,.int .i64 (n:Int))]) (fun _=>[c]) (fun i=>m-i) 0 ⟨AS _,fun j t h=>absurd h (D9 j),fun j k t u _ h=>absurd h (D9 k)⟩ (body:= ?_)
 rintro i ⟨hi,ai,aj⟩
 by_cases an:i<m
 ·obtain⟨b,off,cs,T,fz,rfl,rfl,_,ab⟩:=(RV.rw hv).pos aAr oM
  have hit:ts[i]? =some ts[i]:=AE oM
  have q0:=ab i 0 _ _ hit rfl
  have q1:=ab i 1 _ _ hit rfl
  have q2:=ab i 2 _ _ hit rfl
  rw[CD] at q0
  have ac:=ah i _ hit
  generalize ht:ts[i]=t at*
  by_cases g0:t.c0<0
  ·rw[ac (by unfold aIp;omega)]
   repeat(refine sv ?_;intros)
   (refine Dn.post (Hr:=[[(b,aBs cs T fz)]]) Tryz.results99 (hR:= ?_);exact⟨rfl,rfl⟩)
  by_cases g1:t.c1<0
  ·rw[ac (by unfold aIp;omega)]
   repeat(refine sv ?_;intros)
   (refine Dn.post (Hr:=[[(b,aBs cs T fz)]]) Tryz.results99 (hR:= ?_);exact⟨rfl,rfl⟩)
  by_cases g2:t.c2<0
  ·rw[ac (by unfold aIp;omega)]
   repeat(refine sv ?_;intros)
   (refine Dn.post (Hr:=[[(b,aBs cs T fz)]]) Tryz.results99 (hR:= ?_);exact⟨rfl,rfl⟩)
  by_cases g3:(n:Int)≤t.c1
  ·rw[ac (by unfold aIp;omega)]
   repeat(refine sv ?_;intros)
   (refine Dn.post (Hr:=[[(b,aBs cs T fz)]]) Tryz.results99 (hR:= ?_);exact⟨rfl,rfl⟩)
  by_cases g4:(n:Int)≤t.c2
  ·rw[ac (by unfold aIp;omega)]
   repeat(refine sv ?_;intros)
   (refine Dn.post (Hr:=[[(b,aBs cs T fz)]]) Tryz.results99 (hR:= ?_);exact⟨rfl,rfl⟩)
  repeat(refine sv ?_;intros)
  refine G.loop (X:=Nat) (fun k=>k≤i∧∀j u,j<k→ts[j]? =some u→u.c0≠t.c0)
   (fun k=>[(6,.int .i64 (k:Int)),(5,.int .i64 (i:Int)),(1,.slice (some ⟨b,off,none⟩) m cap),(0,.int .i64 (n:Int))]) (fun _=>[[(b,aBs cs T fz)]]) (fun k=>i-k) 0 ⟨AS _,fun j u h=>absurd h (D9 j)⟩ (body:= ?_)
  rintro k ⟨hk,ak⟩
  by_cases ag:k<i
  ·have al:ts[k]? =some ts[k]:=AE oM
   have r0:=ab k 0 _ _ al rfl
   rw[CD] at r0
   generalize hu:ts[k]=u at*
   by_cases he:u.c0=t.c0
   ·have hb:dec (aIq n ts)=false:=aBu fun h=>by
     have:=BJ.1 h.2 k i oM oM ag
     rw[hu,ht] at this
     exact this he
    rw[hb]
    repeat(refine sv ?_;intros)
    (refine Dn.post (Hr:=[[(b,aBs cs T fz)]]) Tryz.results99 (hR:= ?_);exact⟨rfl,rfl⟩)
   ·repeat(refine sv ?_;intros)
    refine Dn.round (k+1) ⟨ag,fun j u' hj aa=> ?_⟩ oM
    by_cases ad:j=k
    ·subst ad;rw[al] at aa;simp only[BA] at aa;subst aa;exact he
    ·exact ak j u' oM aa
  ·obtain rfl:k=i:=by omega
   repeat(refine sv ?_;intros)
   refine Dn.round (k+1) ⟨an,fun j u hj aa=> ?_,fun j l u v am ap aa ae=> ?_⟩ oM
   ·by_cases ad:j=k
    ·subst ad;rw[hit] at aa;simp only[BA] at aa;subst aa;exact⟨oM,oM,oM,oM,oM⟩
    ·exact ai j u oM aa
   ·by_cases ao:l=k
    ·subst ao;rw[hit] at ae;simp only[BA] at ae;subst ae;exact ak j u am aa
    ·exact aj j l u v am oM aa ae
 ·obtain rfl:i=m:=by omega
  have hb:dec (aIq n ts)=true:=aBf ⟨fun t ht=>by
   obtain⟨j,hj,rfl⟩:=CU ht
   exact ai j _ oM (AE hj),BJ.2 fun j k hj hk ad=>aj j k _ _ ad oM (AE hj) (AE hk)⟩
  rw[hb]
  repeat(refine sv ?_;intros)
  (refine Dn.post (Hr:=[c]) Tryz.results99 (hR:= ?_);exact⟨rfl,rfl⟩)
theorem bEr {E sz:Nat} {p:Option Addr} {m cap:Nat} {xs:List Value} {c:aAc} (h:Vec E sz p m cap xs c) (hm:0<m):∃b rest,p=some ⟨b,0,none⟩∧c=[(b,row (xs++rest) E)]∧cap*sz≤xs.length+rest.length∧m≤cap∧cap≤maxLen:=by
 rcases h.2 with⟨_,e,_⟩|hh
 ·omega
 ·exact hh
theorem bNf (A B:List T5) (t:T5) (r:List Value) {k:Nat} (hk:A.length=k):((flat (A++t::B)++r).drop (k*5)).take 5=[.int .i64 t.c0,.int .i64 t.c1,.int .i64 t.c2,.int .i64 t.c3,.int .i64 t.c4]:=by
 rw[aGs]
 exact aZu (k:=5) aAr (l:=A++t::B) (i:=k) (a:=t) (by subst hk;simp) r
theorem bNg (A B:List T5) (t u:T5) (r:List Value) {k:Nat} (hk:A.length=k):aFm (flat (A++t::B)++r) (k*5) [.int .i64 u.c0,.int .i64 u.c1,.int .i64 u.c2,.int .i64 u.c3,.int .i64 u.c4]=flat (A++u::B)++r:=by
 rw[aGs,aGs]
 have h:=bJi (k:=5) aAr (A++t::B) k u r (by subst hk;simp)
 have h2:(A++t::B).set k u=A++u::B:=by subst hk;simp
 rw[h2] at h
 exact h
theorem aDq (a:List T5):(flat a).length=a.length*5:=by rw[aGs,aHv aAr]
def eOf (t:T5):IE:=(t.c1,t.c2)
def aCf (l:List T5):List Value:=(l.map eOf).flatMap ecl
def aEf (l:List T5):List Value:=aAu (l.map (·.c0))
theorem bEs (a b:List T5):aCf (a++b)=aCf a++aCf b:=by simp[aCf]
theorem bEt (a b:List T5):aEf (a++b)=aEf a++aEf b:=by simp[aEf,aAu]
theorem aHh (a:List T5):(aCf a).length=a.length*2:=by unfold aCf;rw[aHv aIo,AY]
theorem aHi (a:List T5):(aEf a).length=a.length:=by simp[aEf,aAu]
theorem bSi (A B:List T5) (t:T5) (r:List Value) {k:Nat} (hk:A.length=k):((aCf (A++t::B)++r).drop (k*2)).take 2=[.int .i64 t.c1,.int .i64 t.c2]:=by
 have h:=aZu (k:=2) aIo (l:=(A++t::B).map eOf) (i:=k) (a:=eOf t) (by subst hk;simp) r
 exact h
theorem e_set (A B:List T5) (t u:T5) (r:List Value) {k:Nat} (hk:A.length=k):aFm (aCf (A++t::B)++r) (k*2) [.int .i64 u.c1,.int .i64 u.c2]=aCf (A++u::B)++r:=by
 have h:=bJi (k:=2) aIo ((A++t::B).map eOf) k (eOf u) r (by subst hk;simp)
 rw[←List.map_set] at h
 have h2:(A++t::B).set k u=A++u::B:=by subst hk;simp
 rw[h2] at h
 exact h
theorem bSj (A B:List T5) (t:T5) (r:List Value) {k:Nat} (hk:A.length=k):(aEf (A++t::B)++r)[k]? =some (.int .i64 t.c0):=by
 subst hk;simp[aEf,aAu,List.getElem?_append]
theorem n_set (A B:List T5) (t u:T5) (r:List Value) {k:Nat} (hk:A.length=k):(aEf (A++t::B)++r).set k (.int .i64 u.c0)=aEf (A++u::B)++r:=by
 subst hk;simp[aEf,aAu,List.set_append]
def Sn (l:List T5):Prop:=l.Pairwise fun a b=>a.c0≤b.c0
structure GrX where
 i:Nat
 sl:List T5
 pe:Option Addr
 ce:Nat
 he:aAc
 pn:Option Addr
 cn:Nat
 hn:aAc
structure GrY where
 kz:Int
 A:List T5
 B:List T5
theorem bJl (n:Nat) (p:Option Addr) (m cap:Nat) (ts:List T5) (c:aAc) (hv:RV p m ts c) (hm:m≤1000000):
  Ct AC 100 [.int .i64 (n:Int),.slice p m cap] [c] fun v H'=>∃sl pe ce he pn cn hn,v= .tuple #[gv n pe m ce,.slice pn m cn]∧H'=[c,he,hn]∧
   Vec 53 2 pe m ce (aCf sl) he∧Vec 2 1 pn m cn (aEf sl) hn∧sl.Perm ts∧Sn sl:=by
 have hl:=hv.1
 unfold gv
 refine Ct.go Tryz.func100 Tryz.ntmps100 fun w0=> ?_
 repeat(first|(refine sv ?_;intros)|refine G.draw (id:=11) [(10,.eff [8])] (h:= ?_))
 rename_i b4 b6
 refine G.loop (X:=GrX) (fun x=>x.i≤m∧x.sl.Perm (ts.take x.i)∧Sn x.sl∧Vec 53 2 x.pe x.i x.ce (aCf x.sl) x.he∧Vec 2 1 x.pn x.i x.cn (aEf x.sl) x.hn)
  (fun x=>[(8,.int .i64 (x.i:Int)),(7,.slice x.pn x.i x.cn),(6,pv b6),(4,pv b4),(1,.slice p m cap)])
  (fun x=>[[(b6,row [.int .i64 (n:Int),.slice x.pe x.i x.ce] 24)],[(b4,row [.int .i64 0,.slice none 0 0] 24)],c,x.he,x.hn]) (fun x=>m-x.i) ⟨0,[],none,0,[],none,0,[]⟩
  ⟨AS _,by simp,CI,Vec.nil _ _,Vec.nil _ _⟩ oA3 oA0 ?_
 rintro⟨i,sl,pe,ce,he,pn,cn,hn⟩ ⟨hi,hp,hs,aj,ak⟩
 dsimp only at hi hp hs aj ak⊢
 by_cases an:i<m
 ·obtain⟨b,off,cs,T,fz,rfl,rfl,_,ac⟩:=(RV.rw hv).pos aAr oM
  have hit:ts[i]? =some ts[i]:=AE oM
  have q0:=ac i 0 _ _ hit rfl
  have q1:=ac i 1 _ _ hit rfl
  have q2:=ac i 2 _ _ hit rfl
  rw[CD] at q0
  generalize ht:ts[i]=t at*
  have a6:i+1≤maxLen:=by simp only[maxLen];omega
  have al:sl.length=i:=by have:=hp.length_eq;rw[BN] at this;omega
  repeat(first|(refine sv ?_;intros)|refine G.draw (id:=11) [(10,.eff [8])] (h:= ?_))
  rename_i a7 av ad aw ag a8 ax ae ay ah
  have ao:Vec 53 2 av (i+1) ad (aCf (sl++[t])) aw:=by rw[bEs];exact ag
  have ap:Vec 2 1 ax (i+1) ae (aEf (sl++[t])) ay:=by rw[bEt];exact ah
  obtain⟨eb,re,rfl,rfl,az,a0,a1⟩:=bEr ao (Nat.succ_pos _)
  obtain⟨nb,rn,rfl,rfl,a2,a3,aq⟩:=bEr ap (Nat.succ_pos _)
  clear aj ak ag ah
  rw[aHh,AF,CO,al] at az
  rw[aHi,AF,CO,al] at a2
  refine G.loop (X:=GrY) (fun x=>x.A++x.B=sl∧x.kz=(x.A.length:Int)∧∀u∈x.B,t.c0<u.c0)
   (fun x=>[(9,.int .i64 x.kz),(8,.int .i64 (i:Int)),(7,.slice (some ⟨nb,0,none⟩) (i+1) ae),(6,pv b6),(4,pv b4),(1,.slice (some ⟨b,off,none⟩) m cap)])
   (fun x=>[[(b6,row [.int .i64 (n:Int),.slice (some ⟨eb,0,none⟩) (i+1) ad] 24)],[(b4,row [.int .i64 0,.slice none 0 0] 24)],[(b,aBs cs T fz)],[(eb,row (aCf (x.A++t::x.B)++re) 53)],[(nb,row (aEf (x.A++t::x.B)++rn) 2)]]) (fun x=>x.A.length) ⟨(i:Int),sl,[]⟩ ⟨by simp,oD,by simp⟩ (body:= ?_)
  rintro⟨kz,A,B⟩ ⟨ab,am,hB⟩
  dsimp only at ab am hB⊢
  have au:A.length+B.length=i:=by rw[←al,←ab,AF]
  have ai:(∀u∈A,u.c0≤t.c0)→(A++t::B).Perm (ts.take (i+1))∧Sn (A++t::B)∧Vec 53 2 (some ⟨eb,0,none⟩) (i+1) ad (aCf (A++t::B)) [(eb,row (aCf (A++t::B)++re) 53)]∧
    Vec 2 1 (some ⟨nb,0,none⟩) (i+1) ae (aEf (A++t::B)) [(nb,row (aEf (A++t::B)++rn) 2)]:=by
   intro hA
   refine⟨?_,?_,Vec.mk' rfl (by rw[aHh];simp;omega) (by rw[AF,aHh];simp;omega) a0 a1,Vec.mk' rfl (by rw[aHi];simp;omega) (by rw[AF,aHi];simp;omega) a3 aq⟩
   ·rw[BP,hit]
    refine(B4.trans ?_)
    rw[ab]
    exact(hp.cons t).trans (List.perm_append_comm (l₁:=[t]))
   ·unfold Sn at hs⊢
    rw[←ab,BS] at hs
    rw[BS,BF]
    exact⟨hs.1,⟨fun u hu=>Int.le_of_lt (hB u hu),hs.2.1⟩,fun x hx y hy=>by
     rcases AM.1 hy with rfl|hy
     ·exact hA x hx
     ·exact hs.2.2 x hx y hy⟩
  rcases D3 A with rfl|⟨A',x,rfl⟩
  ·obtain⟨e1,e2,e3,e4⟩:=ai oA15
   have a9:kz=0:=by simpa using am
   repeat(first|(refine sv ?_;intros)|refine G.draw (id:=11) [(10,.eff [8])] (h:= ?_))
   refine Dn.round ⟨i+1,[]++t::B,_,ad,_,_,ae,_⟩ ⟨an,e1,e2,e3,e4⟩ oD
  ·have bc:kz=((A'.length+1:Nat):Int):=by simpa using am
   have ek:kz.toNat=A'.length+1:=oM
   have be:(kz-1).toNat=A'.length:=oM
   have bf:A'.length+1+B.length=i:=by simpa using au
   have aa:∀u v:T5,(A'++[u])++v::B=A'++u::v::B:=fun u v=>by simp
   rw[List.concat_eq_append] at*
   rw[aa]
   have c1:=bSi (A'++[x]) B t re (k:=A'.length+1) oA15
   have c2:=bSi A' (t::B) x re rfl
   have s1:=e_set (A'++[x]) B t x re (k:=A'.length+1) oA15
   have s2:=e_set A' (x::B) x t re rfl
   have d1:=bSj (A'++[x]) B t rn (k:=A'.length+1) oA15
   have d2:=bSj A' (t::B) x rn rfl
   have u1:=n_set (A'++[x]) B t x rn (k:=A'.length+1) oA15
   have u2:=n_set A' (x::B) x t rn rfl
   simp only[aa] at c1 s1 d1 u1
   have l1:(A'.length+1)*2+2≤(aCf (A'++x::t::B)++re).length:=by rw[AF,aHh];simp;omega
   have l2:(A'.length+1)*2+2≤(aCf (A'++x::x::B)++re).length:=by rw[AF,aHh];simp;omega
   have l3:A'.length+1<(aEf (A'++x::t::B)++rn).length:=by rw[AF,aHi];simp;omega
   have l4:A'.length+1<(aEf (A'++x::x::B)++rn).length:=by rw[AF,aHi];simp;omega
   by_cases a4:t.c0<x.c0
   ·have a5:∀r:List Value,aCf (A'++t::x::B)++re=r→True:=fun _ _=>trivial
    generalize bg:aCf (A'++x::t::B)++re=r0 at*
    generalize bh:aCf (A'++x::x::B)++re=r1 at*
    generalize bi:aEf (A'++x::t::B)++rn=m0 at*
    generalize bk:aEf (A'++x::x::B)++rn=m1 at*
    repeat(first|(refine sv ?_;intros)|refine G.draw (id:=11) [(10,.eff [8])] (h:= ?_))
    refine Dn.round ⟨kz-1,A',x::B⟩ ⟨by rw[←ab];simp,oD,fun u hu=> ?_⟩ oA15
    rcases AM.1 hu with rfl|hu
    ·exact a4
    ·exact hB u hu
   ·obtain⟨e1,e2,e3,e4⟩:=ai (fun u hu=>by
     unfold Sn at hs
     rw[←ab,BS,BS] at hs
     rcases AO.1 hu with hu|hu
     ·have:=hs.1.2.2 u hu x oA15;omega
     ·simp only[AT] at hu;subst hu;omega)
    simp only[aa] at e1 e2 e3 e4
    repeat(first|(refine sv ?_;intros)|refine G.draw (id:=11) [(10,.eff [8])] (h:= ?_))
    refine Dn.round ⟨i+1,A'++x::t::B,_,ad,_,_,ae,_⟩ ⟨an,e1,e2,e3,e4⟩ oD
 ·obtain rfl:i=m:=by omega
  rw[A4 oM] at hp
  repeat(first|(refine sv ?_;intros)|refine G.draw (id:=11) [(10,.eff [8])] (h:= ?_))
  (refine Dn.post (Hr:=[c,he,hn]) Tryz.results100 (hR:= ?_);exact⟨sl,pe,ce,he,pn,cn,hn,rfl,rfl,aj,ak,hp,hs⟩)
def aFj (l:List Bool):List Value:=l.map Value.bool
theorem bEu (l:List Bool) (i:Nat) (x:Bool):(aFj l).set i (.bool x)=aFj (l.set i x):=by unfold aFj;rw[List.map_set]
theorem bPd:∀N,aEu N [Value.bool false]=aFj (BY N false)
 |0=>rfl
 |N+1=>by
  have:=bPd N
  unfold aFj at this⊢
  rw[List.replicate_succ,AZ,←this];rfl
structure bNh (g:Nat→Ed) (i N:Nat) (l:List Int):Prop where
 len:l.length=N
 nat:∀v,v<N→∃x:Nat,l[v]? =some (x:Int)
 eq:∀a b,a<N→b<N→(l[a]? =l[b]?↔Cn g (fun j=>j<i) a b)
def aFu (la lb:Int) (l:List Int):List Int:=l.map fun y=>if y=lb then la else y
theorem bNh.step {g:Nat→Ed} {i N:Nat} {l:List Int} (h:bNh g i N l) {la lb:Int} (hu:(g i).1<N) (hv:(g i).2<N) (ha:l[(g i).1]? =some la) (hb:l[(g i).2]? =some lb):bNh g (i+1) N (aFu la lb l):=by
 refine⟨by unfold aFu;rw[AY];exact h.len,fun v ad=> ?_,fun a b aa ab=> ?_⟩
 ·obtain⟨x,hx⟩:=h.nat v ad
  obtain⟨y,hy⟩:=h.nat _ hu
  rw[ha] at hy;simp only[BA] at hy
  unfold aFu
  rw[BU,hx]
  by_cases ac:(x:Int)=lb
  ·exact⟨y,by simp[ac,hy]⟩
  ·exact⟨x,by simp[ac]⟩
 ·have hc:Cn g (fun j=>j<i+1) a b↔Cn g (fun j=>j<i) a b∨(Cn g (fun j=>j<i) a (g i).1∧Cn g (fun j=>j<i) (g i).2 b)∨(Cn g (fun j=>j<i) a (g i).2∧Cn g (fun j=>j<i) (g i).1 b):=by
   constructor
   ·intro hc
    exact Cn.add (hc.mono fun j hj=>by omega)
   ·have hm:∀{x y},Cn g (fun j=>j<i) x y→Cn g (fun j=>j<i+1) x y:=fun hc=>hc.mono fun j hj=>Nat.lt_succ_of_lt hj
    have he:Cn g (fun j=>j<i+1) (g i).1 (g i).2:=Cn.edge (Nat.lt_succ_self i)
    rintro(h1|⟨h1,h2⟩|⟨h1,h2⟩)
    ·exact hm h1
    ·exact((hm h1).trans he).trans (hm h2)
    ·exact((hm h1).trans he.symm).trans (hm h2)
  rw[hc,←h.eq a b aa ab,←h.eq a _ aa hu,←h.eq _ b hv ab,←h.eq a _ aa hv,←h.eq _ b hu ab,ha,hb]
  obtain⟨x,hx⟩:=h.nat a aa
  obtain⟨y,hy⟩:=h.nat b ab
  unfold aFu
  rw[BU,BU,hx,hy]
  simp only[Option.map_some,BA]
  by_cases h1:(x:Int)=lb<;>by_cases h2:(y:Int)=lb<;>simp only[h1,h2,if_true,if_false]<;>constructor<;>intro h3<;>first|omega|(simp[h1,h2] at h3⊢;omega)|(simp_all)
theorem bEv (la lb:Int) (l:List Int) (k:Nat) {y:Int} (h:l[k]? =some y):((aFu la lb l).take k++l.drop k).set k (if y=lb then la else y)=(aFu la lb l).take (k+1)++l.drop (k+1):=by
 obtain⟨hk,rfl⟩:=AK.1 h
 have hl:((aFu la lb l).take k).length=k:=by unfold aFu;simp;omega
 rw[D4 _ _ oM,hl,DP,BQ hk,ED,BP]
 unfold aFu
 rw[BU,AE hk]
 simp
def aJl (es:List IE) (fl:List Bool):Prop:=fl.length=es.length∧∀i b,fl[i]? =some b→(b=true↔Kr (gE es) (fun j=>j<es.length) i)
structure FoX where
 i:Nat
 l:List Int
 f:List Bool
theorem bEw (N:Nat) (hN:N≤1000000) (p:Option Addr) (m cap:Nat) (es:List IE) (c:aAc) (hv:Rw ecl 2 p m es c) (hm:m≤1000000) (hf:∀e∈es,inE N e):
  Ct AC 101 [gv N p m cap] [c] fun v H'=>∃bi fl,v= .slice (some ⟨bi,0,none⟩) m m∧H'=[c,[(bi,row (aFj fl) 4)]]∧aJl es fl:=by
 have hl:=hv.1
 unfold gv
 refine Ct.go Tryz.func101 Tryz.ntmps101 fun w0=> ?_
 repeat(refine sv ?_;intros)
 rename_i b1 bi bl
 rw[aZw,bPd]
 refine G.loop (X:=Nat) (fun i=>i≤N) (fun i=>[(5,.int .i64 (i:Int)),(4,.slice (some ⟨bl,0,none⟩) N N),(3,.slice (some ⟨bi,0,none⟩) m m),(1,pv b1)])
  (fun i=>[[(bl,row (aAu (nf N i)) 3)],[(bi,row (aFj (BY m false)) 4)],[(b1,row [.int .i64 (N:Int),.slice p m cap] 24)],c]) (fun i=>N-i) 0 (AS _) (body:= ?_)
 intro i hi
 by_cases ab:i<N
 ·have an:(aAu (nf N i)).set i (.int .i64 (i:Int))=aAu (nf N (i+1)):=by rw[aDb,bPb N i ab]
  have ao:i<(aAu (nf N i)).length:=by simp only[aAu,AY,bPa N i hi];exact ab
  repeat(refine sv ?_;intros)
  refine Dn.round (i+1) oM oM
 obtain rfl:i=N:=by omega
 rw[bPc]
 clear hi ab
 repeat(refine sv ?_;intros)
 refine G.loop (X:=FoX) (fun x=>x.i≤m∧bNh (gE es) x.i i x.l∧x.f.length=m∧∀j b,j<x.i→x.f[j]? =some b→(b=true↔Kr (gE es) (fun j=>j<es.length) j))
  (fun x=>[(6,.int .i64 (x.i:Int)),(4,.slice (some ⟨bl,0,none⟩) i i),(3,.slice (some ⟨bi,0,none⟩) m m),(1,pv b1)]) (fun x=>[[(bl,row (aAu (x.l)) 3)],[(bi,row (aFj (x.f)) 4)],[(b1,row [.int .i64 (i:Int),.slice p m cap] 24)],c]) (fun x=>m-x.i) ⟨0,n0 i,BY m false⟩
  ⟨AS _,⟨aXf i,fun v hv=>⟨v,bEq hv⟩,fun a b ha hb=>by
   rw[bEq ha,bEq hb]
   constructor
   ·intro h;obtain rfl:a=b:=by simp only[BA] at h;omega
    exact .refl _
   ·intro h
    have:a=b:=h.stay (X:=fun y=>a=y) rfl (fun j hj=>absurd hj (D9 j))
    rw[this]⟩,by simp,fun j b h=>absurd h (D9 j)⟩ (body:= ?_)
 rintro⟨k,l,f⟩ ⟨hk,hL,ah,ai⟩
 dsimp only at hk hL ah ai⊢
 by_cases ab:k<m
 rotate_left
 ·obtain rfl:k=m:=by omega
  repeat(refine sv ?_;intros)
  (refine Dn.post (Hr:=[c,[(bi,row (aFj f) 4)]]) Tryz.results101 (hR:= ?_);exact⟨bi,f,rfl,rfl,oM,fun j b hj=>ai j b (by rw[←ah];exact(AK.1 hj).1) hj⟩)
 obtain⟨b,off,cs,T,fz,rfl,rfl,a0,ag⟩:=hv.pos aIo oM
 have ad:es[k]? =some es[k]:=AE oM
 have q0:=ag k 0 _ _ ad rfl
 have q1:=ag k 1 _ _ ad rfl
 rw[CD] at q0
 have au:=hf _ (A3 ad)
 generalize he:es[k]=e at*
 obtain⟨u,v⟩:=e
 obtain⟨f1,f2,f3,f4⟩:=au
 dsimp only at f1 f2 f3 f4 q0 q1
 obtain⟨u,rfl⟩:∃u':Nat,u=(u':Int):=⟨u.toNat,oM⟩
 obtain⟨v,rfl⟩:∃v':Nat,v=(v':Int):=⟨v.toNat,oM⟩
 have ac:gE es k=(u,v):=by unfold gE;rw[ad];simp
 obtain⟨la,x1⟩:=hL.nat u oM
 obtain⟨lb,y1⟩:=hL.nat v oM
 have a1:=aEm x1
 have a2:=aEm y1
 have aj:=hL.step (la:=la) (lb:=lb) (by rw[ac];dsimp only;omega) (by rw[ac];dsimp only;omega) (by rw[ac];exact x1) (by rw[ac];exact y1)
 have av:dec ((la:Int)≠(lb:Int))=true↔Kr (gE es) (fun j=>j<es.length) k:=by
  have h1:=hL.eq u v oM oM
  rw[x1,y1,BA] at h1
  rw[aSl]
  unfold Kr
  rw[ac]
  have h2:Cn (gE es) (fun j=>j<es.length∧j<k) u v↔Cn (gE es) (fun j=>j<k) u v:=Cn.congr fun j=>⟨fun h=>h.2,fun h=>⟨oM,h⟩⟩
  rw[h2,←h1]
  exact⟨fun h=>⟨oM,h⟩,fun h=>h.2⟩
 have aw:(aFj f).set k (.bool (dec ((la:Int)≠(lb:Int))))=aFj (f.set k (dec ((la:Int)≠(lb:Int)))):=bEu _ _ _
 have ax:k<(aFj f).length:=by simp only[aFj,AY];omega
 repeat(refine sv ?_;intros)
 refine G.loop (X:=Nat) (fun j=>j≤i) (fun j=>[(9,.int .i64 (j:Int)),(8,.int .i64 (lb:Int)),(7,.int .i64 (la:Int)),(6,.int .i64 (k:Int)),(4,.slice (some ⟨bl,0,none⟩) i i),(3,.slice (some ⟨bi,0,none⟩) m m),(1,pv b1)])
  (fun j=>[[(bl,row (aAu ((aFu la lb l).take j++l.drop j)) 3)],[(bi,row (aFj (f.set k (dec ((la:Int)≠(lb:Int))))) 4)],[(b1,row [.int .i64 (i:Int),.slice (some ⟨b,off,none⟩) m cap] 24)],[(b,aBs cs T fz)]]) (fun j=>i-j) 0 (AS _) (body:= ?_)
 intro j hj
 by_cases ap:j<i
 ·obtain⟨y,hy⟩:=hL.nat j ap
  have ay:(aAu ((aFu la lb l).take j++l.drop j))[j]? =some (.int .i64 (y:Int)):=by
   refine aEm ?_
   have ak:((aFu la lb l).take j).length=j:=by unfold aFu;simp[hL.len];omega
   rw[A9 oM,ak,DP,BR]
   exact hy
  have ae:=bEv la lb l j hy
  by_cases aq:(y:Int)=lb
  ·have an:(aAu ((aFu la lb l).take j++l.drop j)).set j (.int .i64 (la:Int))=aAu ((aFu la lb l).take (j+1)++l.drop (j+1)):=by
    rw[aDb];rw[if_pos aq] at ae;rw[ae]
   have ao:j<(aAu ((aFu la lb l).take j++l.drop j)).length:=(AK.1 ay).1
   repeat(refine sv ?_;intros)
   refine Dn.round (j+1) oM oM
  ·have al:(aFu la lb l).take j++l.drop j=(aFu la lb l).take (j+1)++l.drop (j+1):=by
    rw[if_neg aq] at ae;rw[←ae]
    refine(aPy ?_).symm
    have ak:((aFu la lb l).take j).length=j:=by unfold aFu;simp[hL.len];omega
    rw[A9 oM,ak,DP,BR]
    exact hy
   repeat(refine sv ?_;intros)
   rw[al]
   refine Dn.round (j+1) oM oM
 ·obtain rfl:j=i:=by omega
  have am:(aFu la lb l).take j++l.drop j=aFu la lb l:=by
   rw[List.drop_eq_nil_of_le (by rw[hL.len];exact AG _),AQ,A4 (by unfold aFu;rw[AY,hL.len];exact AG _)]
  rw[am]
  repeat(refine sv ?_;intros)
  refine Dn.round ⟨k+1,aFu la lb l,f.set k (dec ((la:Int)≠(lb:Int)))⟩ ⟨ab,aj,by rw[DS];exact ah,fun q bq hq aa=> ?_⟩ oD
  dsimp only at hq aa
  by_cases az:q=k
  ·subst az
   rw[DV oM] at aa
   simp only[BA] at aa
   subst aa;exact av
  ·rw[DC oM] at aa
   exact ai q bq oM aa
def aAy (l:List Int):List T5:=(BH l.length).map fun (v:Nat)=>⟨(v:Int),l.getD v 0,0,0,0⟩
def aHw (sl:List T5) (fl:List Bool):List T5:=(sl.zip fl).filterMap fun x=>if x.2 then some ⟨x.1.c0,x.1.c1,x.1.c2,0,0⟩ else none
def aTq (N:Nat) (ts a b:List T5):Prop:=∃sl fl lab,sl.Perm ts∧Sn sl∧aKl (gE (sl.map eOf)) (fun i=>i<sl.length) N (-1) lab∧aJl (sl.map eOf) fl∧a=aAy lab∧b=aHw sl fl
theorem bJm {l:List Int} {v:Nat} {x:Int} (h:l[v]? =some x):(aAy l).take (v+1)=(aAy l).take v++[⟨(v:Int),x,0,0,0⟩]:=by
 obtain⟨hv,rfl⟩:=AK.1 h
 unfold aAy
 rw[BP,BU,List.getElem?_range hv]
 simp[hv]
theorem bJn {sl:List T5} {fl:List Bool} {i:Nat} {t:T5} {b:Bool} (h1:sl[i]? =some t) (h2:fl[i]? =some b):
  aHw (sl.take (i+1)) (fl.take (i+1))=aHw (sl.take i) (fl.take i)++(if b then[⟨t.c0,t.c1,t.c2,0,0⟩] else[]):=by
 obtain⟨ha,rfl⟩:=AK.1 h1
 obtain⟨hb,rfl⟩:=AK.1 h2
 unfold aHw
 rw[BP,BP,AE ha,AE hb,List.zip_append oA12,List.filterMap_append]
 congr 1
 simp only[Option.toList_some,List.zip_cons_cons,List.zip_nil_left,List.filterMap_cons,List.filterMap_nil]
 cases fl[i]<;>rfl
theorem flat_append (a b:List T5):flat (a++b)=flat a++flat b:=by rw[aGs,aGs,aGs,CF]
structure CoX where
 i:Nat
 p:Option Addr
 k:Nat
 cap:Nat
 ch:aAc
theorem bNi (N:Nat) (hN:N≤1000000) (p:Option Addr) (m cap:Nat) (ts:List T5) (c:aAc) (hv:RV p m ts c) (hm:m≤1000000) (ho:aIq N ts):
  Ct AC 43 [.int .i64 (N:Int),.slice p m cap] [c] fun v H'=>∃pa na ka ca pb nb kb cb a b,v= .tuple #[.slice pa na ka,.slice pb nb kb,.bool true]∧H'=[c,ca,cb]∧RV pa na a ca∧RV pb nb b cb∧nb≤m∧aTq N ts a b:=by
 have hE:=bJk N oM p m cap ts c hv hm
 rw[aBf ho] at hE
 have hG:=bJl N p m cap ts c hv hm
 refine Ct.go Tryz.func43 Tryz.ntmps43 fun w0=> ?_
 repeat(first|(refine sv ?_;intros)|refine cq hE ?_)
 refine R.call (hct:=hG) (h:= ?_)
 rintro _ _ ⟨sl,pe,ce,he,pn,cn,hn,rfl,rfl,ak,av,hp,hs⟩
 try dsimp only[AA,AB]
 have a7:sl.length=m:=hp.length_eq.trans hv.1
 have hR:Rw ecl 2 pe m (sl.map eOf) he:=Rw.ofVec aIo ak oM
 have ag:∀e∈sl.map eOf,inE N e:=by
  intro e he
  obtain⟨t,ht,rfl⟩:=List.mem_map.1 he
  obtain⟨_,h1,h2,h3,h4⟩:=ho.1 t (hp.mem_iff.1 ht)
  exact⟨h1,h3,h2,h4⟩
 have al:=bJj N hN pe m ce (sl.map eOf) he hR hm ag none 0 0 [] [] ⟨rfl,.inl ⟨rfl,rfl⟩⟩ oM (-1)
 have am:=bEw N hN pe m ce (sl.map eOf) he hR hm ag
 unfold gv at al am⊢
 repeat(first|(refine sv ?_;intros)|refine cq hE ?_)
 refine R.call (hct:=al) (h:= ?_)
 rintro _ _ ⟨bl,lab,rfl,rfl,hL⟩
 try dsimp only[AA,AB]
 repeat(first|(refine sv ?_;intros)|refine cq hE ?_)
 rename_i b7
 have aw:=hL.len
 have ax:aKl (gE (sl.map eOf)) (fun i=>i<sl.length) N (-1) lab:=by
  have ae:∀i,aZv (sl.map eOf) [] (-1) i↔i<sl.length:=fun i=>by
   constructor
   ·rintro⟨e,h1,_⟩
    have:=(AK.1 h1).1
    rwa[AY] at this
   ·intro hi
    have h1:(sl.map eOf)[i]? =some (eOf sl[i]):=by simp[hi]
    have h2:=ag _ (A3 h1)
    unfold inE at h2
    exact⟨_,h1,oM,oM,by simp⟩
  refine⟨hL.len,fun v hv ay=> ?_,hL.out⟩
  obtain⟨x,a1,a2,a3,a4⟩:=hL.at_ v hv ay
  exact⟨x,a1,(Cn.congr ae).1 a2,a3,fun u hu=>a4 u ((Cn.congr ae).2 hu)⟩
 have an:∀x:Nat,x≤1000000→x+1≤maxLen:=fun x hx=>by simp only[maxLen];omega
 refine G.loop (X:=CoX) (fun x=>x.i≤N∧Vec 33 5 x.p x.i x.cap (flat ((aAy lab).take x.i)) x.ch)
  (fun x=>[(12,.int .i64 (x.i:Int)),(11,.slice (some ⟨bl,0,none⟩) N N),(10,.slice none 0 0),(9,.slice x.p x.i x.cap),(8,.slice pn m cn),(7,pv b7),(0,.int .i64 (N:Int))])
  (fun x=>[[(b7,row [.int .i64 (N:Int),.slice pe m ce] 24)],[(bl,row (aAu lab) 3)],c,he,hn,x.ch]) (fun x=>N-x.i) ⟨0,none,0,0,[]⟩ ⟨AS _,Vec.nil _ _⟩ oA3 oA0 ?_
 rintro⟨i,p1,_,c1,ch⟩ ⟨hi,hV⟩
 dsimp only at hi hV⊢
 by_cases ab:i<N
 ·obtain⟨x,hx⟩:∃x,lab[i]? =some x:=⟨lab[i]' oM,AE oM⟩
  have a8:=aEm hx
  have az:=an i oM
  repeat(first|(refine sv ?_;intros)|refine cq hE ?_)
  rename_i p' ac ah ai
  refine Dn.round ⟨i+1,p',0,ac,ah⟩ ⟨ab,by rw[bJm hx,flat_append];exact ai⟩ oD
 obtain rfl:i=N:=by omega
 have a9:(aAy lab).length=i:=by simp[aAy,aw]
 rw[A4 oM] at hV
 clear ab
 repeat(first|(refine sv ?_;intros)|refine cq hE ?_)
 refine R.call (hct:=am) (h:= ?_)
 rintro _ _ ⟨bi,fl,rfl,rfl,hF⟩
 try dsimp only[AA,AB]
 have a0:=hF.1
 rw[AY] at a0
 repeat(first|(refine sv ?_;intros)|refine cq hE ?_)
 refine G.loop (X:=CoX) (fun x=>x.i≤m∧x.k=(aHw (sl.take x.i) (fl.take x.i)).length∧x.k≤x.i∧Vec 33 5 x.p x.k x.cap (flat (aHw (sl.take x.i) (fl.take x.i))) x.ch)
  (fun x=>[(14,.int .i64 (x.i:Int)),(13,.slice (some ⟨bi,0,none⟩) m m),(10,.slice x.p x.k x.cap),(9,.slice p1 i c1),(8,.slice pn m cn),(7,pv b7)])
  (fun x=>[[(b7,row [.int .i64 (i:Int),.slice pe m ce] 24)],[(bi,row (aFj fl) 4)],c,he,hn,ch,x.ch]) (fun x=>m-x.i) ⟨0,none,0,0,[]⟩ ⟨AS _,by simp[aHw],AG _,by simpa[aHw,flat] using Vec.nil 33 5⟩ oA3 oA0 ?_
 rintro⟨j,p2,k,c2,aj⟩ ⟨hj,hk,ao,ad⟩
 dsimp only at hj hk ao ad⊢
 by_cases ab:j<m
 ·have a5:sl[j]? =some sl[j]:=AE oM
  have ap:fl[j]? =some fl[j]:=AE oM
  have aa:=bJn a5 ap
  have bc:(aFj fl)[j]? =some (.bool fl[j]):=by unfold aFj;rw[BU,ap];rfl
  obtain⟨eb,re,rfl,rfl,be,bf,bg⟩:=bEr ak oM
  obtain⟨nb,rn,rfl,rfl,bh,bk,a6⟩:=bEr av oM
  obtain⟨l1,l2,aq,au⟩:∃l1 l2,sl=l1++sl[j]::l2∧l1.length=j:=⟨sl.take j,sl.drop (j+1),by rw[←BQ oM,BV],by simp;omega⟩
  have g0:=bSj l1 l2 sl[j] rn au
  have g1:=bSi l1 l2 sl[j] re au
  rw[←aq] at g0 g1
  generalize sl[j]' oM=t at*
  generalize fl[j]' oM=o at*
  have ga:(aCf sl++re)[j*2]? =some (.int .i64 t.c1):=by have:=congrArg (fun l=>l[0]?) g1;simpa[BW,BR] using this
  have gb:(aCf sl++re)[j*2+1]? =some (.int .i64 t.c2):=by have:=congrArg (fun l=>l[1]?) g1;simpa[BW,BR] using this
  have az:=an k oM
  cases o with
  |true=>
   simp only[if_true] at aa
   repeat(first|(refine sv ?_;intros)|refine cq hE ?_)
   rename_i p' ac ah ai
   refine Dn.round ⟨j+1,p',k+1,ac,ah⟩ ⟨ab,by rw[aa,AF,←hk];rfl,oD,by rw[aa,flat_append];exact ai⟩ oD
  |false=>
   simp only[CP,if_false,AQ] at aa
   repeat(first|(refine sv ?_;intros)|refine cq hE ?_)
   refine Dn.round ⟨j+1,p2,k,c2,aj⟩ ⟨ab,by rw[aa];exact hk,oD,by rw[aa];exact ad⟩ oD
 ·obtain rfl:j=m:=by omega
  rw[A4 oM,A4 oM] at ad
  repeat(first|(refine sv ?_;intros)|refine cq hE ?_)
  (refine Dn.post (Hr:=[c,ch,aj]) Tryz.results43 (hR:= ?_);exact⟨p1,i,c1,ch,p2,k,c2,aj,_,_,rfl,rfl,RV.vec hV,RV.vec ad,ao,sl,fl,lab,hp,hs,ax,hF,rfl,rfl⟩)
def aFv (a b:T5):Bool:=decide (a.c1<b.c1∨a.c1=b.c1∧(a.c2<b.c2∨a.c2=b.c2∧a.c0<b.c0))
theorem aIr {a b:T5}:aFv a b=true↔a.c1<b.c1∨a.c1=b.c1∧(a.c2<b.c2∨a.c2=b.c2∧a.c0<b.c0):=decide_eq_true_iff
theorem aXg:Go.Srt.Swo aFv where
 asym a b h:=by
  rw[aIr] at h
  cases hb:aFv b a with
  |false=>rfl
  |true=>rw[aIr] at hb;omega
 ntrans a b c h1 h2:=by
  cases hc:aFv a c with
  |false=>rfl
  |true=>
   have n1:¬(aFv a b=true):=by rw[h1];decide
   have n2:¬(aFv b c=true):=by rw[h2];decide
   rw[aIr] at n1 n2 hc
   omega
theorem eQ3:∀t:T5,tv t= .agg #[.int .i64 t.c0,.int .i64 t.c1,.int .i64 t.c2,.int .i64 t.c3,.int .i64 t.c4]:=fun _=>rfl
theorem bNj (a b:T5):CtQ AC 212 [tv a,tv b] [] (.bool (aFv a b)):=by
 have aa:=eQ3
 rw[aa,aa]
 by_cases h1:a.c1=b.c1
 ·by_cases h2:a.c2=b.c2
  ·have e:dec (a.c0<b.c0)=aFv a b:=by rw[aDy];unfold aFv;exact decide_eq_decide.2 oM
   refine Ct.go Tryz.func212 Tryz.ntmps212 fun w0=> ?_
   repeat(refine st ?_;intros)
   (refine Dn.post (Hr:=[]) Tryz.results212 (hR:= ?_);exact⟨congrArg Value.bool e,rfl⟩)
  ·have e:dec (a.c2<b.c2)=aFv a b:=by rw[aDy];unfold aFv;exact decide_eq_decide.2 oM
   refine Ct.go Tryz.func212 Tryz.ntmps212 fun w0=> ?_
   repeat(refine st ?_;intros)
   (refine Dn.post (Hr:=[]) Tryz.results212 (hR:= ?_);exact⟨congrArg Value.bool e,rfl⟩)
 ·have e:dec (a.c1<b.c1)=aFv a b:=by rw[aDy];unfold aFv;exact decide_eq_decide.2 oM
  refine Ct.go Tryz.func212 Tryz.ntmps212 fun w0=> ?_
  repeat(refine st ?_;intros)
  (refine Dn.post (Hr:=[]) Tryz.results212 (hR:= ?_);exact⟨congrArg Value.bool e,rfl⟩)
def PutR (l:List T5) (t:T5) (r:List T5):Prop:=∃A B,l=A++B∧r=A++t::B∧(∀b∈B,aFv t b=true)∧∀x,A.getLast? =some x→aFv t x=false
def Sa (l:List T5):Prop:=l.Pairwise fun a b=>aFv b a=false
theorem PutR.perm {l r:List T5} {t:T5} (h:PutR l t r):r.Perm (t::l):=by
 obtain⟨A,B,rfl,rfl,_⟩:=h
 exact B4
theorem PutR.sa {l r:List T5} {t:T5} (h:PutR l t r) (hs:Sa l):Sa r:=by
 obtain⟨A,B,rfl,rfl,hB,hA⟩:=h
 unfold Sa at hs⊢
 rw[BS] at hs⊢
 have aa:∀a∈A,aFv t a=false:=by
  intro a ha
  rcases D3 A with rfl|⟨A',x,rfl⟩
  ·simp at ha
  ·rw[List.concat_eq_append] at*
   have hx:=hA x oA15
   rcases AO.1 ha with h|h
   ·have h1:=(BS.1 hs.1).2.2 a h x oA15
    exact aXg.ntrans _ _ _ hx h1
   ·simp only[AT] at h;subst h;exact hx
 rw[BF]
 exact⟨hs.1,⟨fun b hb=>aXg.asym _ _ (hB b hb),hs.2.1⟩,fun a ha b hb=>by
  rcases AM.1 hb with rfl|hb
  ·exact aa a ha
  ·exact hs.2.2 a ha b hb⟩
structure PutX where
 kz:Int
 A:List T5
 B:List T5
theorem bJo (p:Option Addr) (m cap:Nat) (l:List T5) (c:aAc) (hV:Vec 33 5 p m cap (flat l) c) (hm:m≤1000000) (t:T5):
  Ct AC 166 [.slice p m cap,tv t] [c] fun v H'=>∃p' cap' c' r,v= .slice p' (m+1) cap'∧H'=[c']∧Vec 33 5 p' (m+1) cap' (flat r) c'∧PutR l t r:=by
 have ae:=eQ3
 have ag:=fun a b=>bNj a b
 have hl:l.length=m:=by have:=hV.1;rw[aDq] at this;omega
 have ao:m+1≤maxLen:=by simp only[maxLen];omega
 simp only[ae] at ag
 rw[ae]
 refine Ct.go Tryz.func166 Tryz.ntmps166 fun w0=> ?_
 repeat(first|(refine st ?_;intros)|refine G.draw (id:=3) [(12,.quiet)] (h:= ?_)|refine cq hL ?_)
 rename_i b3 b9 p' cap' c' ah
 have aj:Vec 33 5 p' (m+1) cap' (flat (l++[t])) c':=by rw[flat_append];exact ah
 obtain⟨rb,re,rfl,rfl,ak,al,am⟩:=bEr aj (Nat.succ_pos _)
 clear hV ah
 rw[aDq,AF,CO,hl] at ak
 have hw:((m+1:Nat):Int)-1=(m:Int):=oM
 refine G.loop (X:=PutX) (fun x=>x.A++x.B=l∧x.kz=(x.A.length:Int)∧∀u∈x.B,aFv t u=true)
  (fun x=>[(5,.int .i64 x.kz),(0,.slice (some ⟨rb,0,none⟩) (m+1) cap')])
  (fun x=>[[(rb,row (flat (x.A++t::x.B)++re) 33)]]) (fun x=>x.A.length) ⟨((m+1:Nat):Int)-1,l,[]⟩ ⟨by simp,oD,by simp⟩ (body:= ?_)
 rintro⟨kz,A,B⟩ ⟨aa,ad,hB⟩
 dsimp only at aa ad hB⊢
 have ai:A.length+B.length=m:=by rw[←hl,←aa,AF]
 have ab:Vec 33 5 (some ⟨rb,0,none⟩) (m+1) cap' (flat (A++t::B)) [(rb,row (flat (A++t::B)++re) 33)]:=
  Vec.mk' rfl (by rw[aDq];simp;omega) (by rw[AF,aDq];simp;omega) al am
 rcases D3 A with rfl|⟨A',x,rfl⟩
 ·have ap:kz=0:=by simpa using ad
  repeat(first|(refine st ?_;intros)|refine G.draw (id:=3) [(12,.quiet)] (h:= ?_)|refine cq hL ?_)
  (refine Dn.post (Hr:=[[(rb,row (flat ([]++t::B)++re) 33)]]) Tryz.results166 (hR:= ?_);exact⟨_,cap',_,_,rfl,rfl,ab,[],B,aa.symm,rfl,hB,by simp⟩)
 ·have aq:kz=((A'.length+1:Nat):Int):=by simpa using ad
  have ek:kz.toNat=A'.length+1:=oM
  have au:(kz-1).toNat=A'.length:=oM
  have av:A'.length+1+B.length=m:=by simpa using ai
  have ac:∀u v:T5,(A'++[u])++v::B=A'++u::v::B:=fun u v=>by simp
  rw[List.concat_eq_append] at*
  rw[ac] at ab⊢
  have c1:=bNf (A'++[x]) B t re (k:=A'.length+1) oA15
  have c2:=bNf A' (t::B) x re rfl
  have s1:=bNg (A'++[x]) B t x re (k:=A'.length+1) oA15
  have s2:=bNg A' (x::B) x t re rfl
  simp only[ac] at c1 s1
  have l1:(A'.length+1)*5+5≤(flat (A'++x::t::B)++re).length:=by rw[AF,aDq];simp;omega
  have l2:(A'.length+1)*5+5≤(flat (A'++x::x::B)++re).length:=by rw[AF,aDq];simp;omega
  have hL:=ag t x
  cases hxt:aFv t x with
  |true=>
   rw[hxt] at hL
   generalize an:flat (A'++x::t::B)++re=r0 at*
   generalize aw:flat (A'++x::x::B)++re=r1 at*
   repeat(first|(refine st ?_;intros)|refine G.draw (id:=3) [(12,.quiet)] (h:= ?_)|refine cq hL ?_)
   refine Dn.round ⟨kz-1,A',x::B⟩ ⟨by rw[←aa];simp,oD,fun u hu=> ?_⟩ oA15
   rcases AM.1 hu with rfl|hu
   ·exact hxt
   ·exact hB u hu
  |false=>
   rw[hxt] at hL
   generalize an:flat (A'++x::t::B)++re=r0 at*
   repeat(first|(refine st ?_;intros)|refine G.draw (id:=3) [(12,.quiet)] (h:= ?_)|refine cq hL ?_)
   (refine Dn.post (Hr:=[[(rb,row r0 33)]]) Tryz.results166 (hR:= ?_);exact⟨_,cap',_,A'++x::t::B,rfl,rfl,ab,A'++[x],B,aa.symm,by simp,hB,fun y hy=>by simp at hy;subst hy;exact hxt⟩)
end Go.Proofs.YtaofijjjheiknaaGreat
