/-
  Parts of the proof, put together (15). No condition.
-/
import Derived.Test.YtaofijjjheiknaaGreatQ14
set_option linter.unusedVariables false
set_option linter.unusedSimpArgs false
set_option linter.unnecessarySimpa false
set_option maxHeartbeats 4000000
open Classical renaming byContradiction→BX
open Go.IntKind renaming wrap→AL
open Go.Proofs.Tryz renaming prog→AC
open Int renaming toNat_natCast→AV
open List renaming cons_append→AA,nil_append→AB,mem_cons_self→AE,mem_cons_of_mem→AF,getElem?_eq_getElem→AG,length_append→AH,length_cons→AJ,getElem?_eq_some_iff→AK,mem_cons→AM,mem_map→AN,length_nil→AO,length_map→AR,mem_singleton→AW,mem_of_getElem?→AY,map_cons→AZ,take_of_length_le→A6,pairwise_iff_getElem→A9,pairwise_map→BA,range→BE,getElem?_map→BM,mem_append_left→BN,take_add_one→BP,replicate→BT,getElem?_eq_none→BY,mem_flatMap→BZ,getElem_mem→B6,map_map→CH,getElem?_range→CO,pairwise_lt_range→D7
open List.Pairwise renaming nil→DH
open List.Perm renaming of_eq→DD
open Nat renaming reduceAdd→AD,le_refl→AI,zero_le→AU,mul_le_mul_right→BB,add_zero→B7
open Option.some renaming inj→BC,injEq→BG
open Go.Proofs.Tryz
open Go.Value renaming int→Z9
open Go.IntKind renaming i64→Z8
namespace Go.Proofs.YtaofijjjheiknaaGreat
open Go.SL Go.Spc Go.Tup Go.Srt
def Ks (tt fl ed lo:List T5):List T5:=jnF 0 (Jg (Ip tt fl ed) (upF tt)++Jj (upF tt) lo)
def Fi (tt ed:List T5):List T5:=(Ck 2 2 tt (Ck 2 1 tt (ed.flatMap Ex))).map fun t=>⟨t.c0,max t.c1 t.c2,0,0,0⟩
def Fj (tt ed la:List T5):List T5:=Nu (Ck 1 1 la (Fi tt ed))
abbrev Po:Nat:=190000000
theorem mL (t:T5):(Ex t).length≤1:=by unfold Ex;split<;>simp
theorem Xm (ed:List T5):(ed.flatMap Ex).length≤ed.length:=by have h:=Sf (f:=Ex) (n:=1) ed fun t _=>mL t;omega
theorem mM {ed:List T5} (h:∀t∈ed,okT 3 t):∀t∈ed.flatMap Ex,okT 3 t:=by
 intro t ht;obtain⟨u,hu,ht⟩:=BZ.1 ht;unfold Ex at ht;split at ht
 ·cases ht
 ·rw[AW] at ht;subst ht;exact h _ hu
theorem Xn (tt ed:List T5):(Fi tt ed).length=(ed.flatMap Ex).length:=by unfold Fi;rw[AR,Ib,Ib]
theorem zR {tt ed:List T5} (h:∀t∈tt,okT 5 t) (h2:∀t∈ed,okT 3 t):∀t∈Fi tt ed,okT 2 t:=by intro t ht;unfold Fi at ht;obtain⟨u,hu,rfl⟩:=AN.1 ht;have ti:=Dp (Oy h (Oy h (mM h2) 2 1 oM oM) 2 2 oM oM u hu);exact Hk ti.1 (lD ti.2.1 ti.2.2.1)
theorem mN (bw bd ba bs:Nat) (W:Wk) (cd ca cs:Aa) (h:Wc bd ba bs W cd ca cs) (tf ff ef lf:Fl) (tt fl ed lo:List T5) (bz:Ce W (tf,tt)) (bu:Ce W (ff,fl)) (b7:Ce W (ef,ed)) (cg:Ce W (lf,lo)) (ah:tf.width=5) (a9:ff.width=3) (a6:ef.width=3) (a8:lf.width=3) (am:tt.Pairwise fun a c=>a.c0<c.c0) (bv:(upF tt).Pairwise fun a c=>a.c0<c.c0) (dz:fl.Pairwise fun a c=>a.c0<c.c0) (du:ed.Pairwise fun a c=>a.c0≤c.c0) (dx:lo.Pairwise fun a c=>a.c0<c.c0) (c q m m2:Nat) (f7:tf.count≤c) (ga:ef.count≤c) (f9:ff.count≤c) (f8:lf.count≤c) (hc:c≤85) (f0:c≤m) (hT:Cf c≤m) (fy:tf.count≤q) (gb:(Ks tt fl ed lo).length≤q) (hq:q≤85) (b6:2*q≤m2) (dw:Cf q≤m2) (dy:Ic tf.count (Ks tt fl ed lo)) (la:List T5) (dt:∀a b,My tf.count (Ks tt fl ed lo) a b→a=la) (b9:la.length=tf.count) (b2:la.Pairwise fun a c=>a.c0<c.c0) (b3:∀t∈la,okT 2 t) (a7:m*(W.live.length+12)+(11*c+Bc W.live)≤W.σ.n) (an:m2*(W.live.length+14)+(16*q+(5*c+Bc W.live))≤W.σ.n) (f6:W.δ.acts≤200000000):Ct AC 38 [pv bw,flv tf,flv ff,flv ef,flv lf] [Ab bw bd ba bs,cd,ca,cs] (iT bw bd ba bs W cd cs Po Po none (Fj tt ed la) 2):=by
 have aa:=eQ0;have ae:=eQ2;have hz:=eQ1;have hB:=fun b=>aA bw bd ba bs W cd ca cs h [(tf,tt),(ff,fl),(ef,ed),(lf,lo)] (by simp only[AM,List.not_mem_nil,or_false];rintro x (rfl|rfl|rfl|rfl);exact bz;exact bu;exact b7;exact cg) oA19 (some ⟨b,0,none⟩) 4 _ (vec4 b tf ff ef lf);simp only[ae,AA,AB] at hB;have gc:(tf.width:Int)=5:=by rw[ah];rfl
 have gd:(ff.width:Int)=3:=by rw[a9];rfl
 have ge:(ef.width:Int)=3:=by rw[a6];rfl
 have gf:(lf.width:Int)=3:=by rw[a8];rfl
 rw[aa tf,aa ff,aa ef,aa lf];refine cG func38 fun _=>?_;repeat(refine sA ?_;intros)
 refine cL (hB _) ?_;rintro _ _ ⟨ao,α1,ci,cj,cm,⟨ad,bj,rfl,rfl⟩|⟨aq,rfl,rfl⟩⟩;rotate_left
 ·dsimp only[AA,AB];repeat(refine sA ?_;intros)
  (refine dP [Ab bw bd ba bs,cd,ao,cs] ?_;exact .inr ⟨aq,rfl,ao,α1,rfl,ci,cj,cm⟩)
 dsimp only[AA,AB];obtain⟨hp,hJ⟩:=aB (bj:=bj) h ci cj cm ad;have ai:In0 (Bu bw bd ba bs bj W) (tf,tt):=Sc bz;have cu:In0 (Bu bw bd ba bs bj W) (ff,fl):=Sc bu;have bc:In0 (Bu bw bd ba bs bj W) (ef,ed):=Sc b7;have cv:In0 (Bu bw bd ba bs bj W) (lf,lo):=Sc cg;have ab:(Bu bw bd ba bs bj W).bj=bj:=rfl;have gg:(Bu bw bd ba bs bj W).bw=bw:=rfl;have cw:(Bu bw bd ba bs bj W).L0=W.live:=rfl;have cz:(Bu bw bd ba bs bj W).n=W.σ.n:=rfl;obtain⟨t1,t2,t3,t4,t5⟩:=Kk ai;obtain⟨f1,f2,f3,f4,f5⟩:=Kk cu;obtain⟨d1,d2,d3,d4,d5⟩:=Kk bc;obtain⟨l1,l2,l3,l4,l5⟩:=Kk cv;dsimp only at t1 t2 t3 t4 t5 f1 f2 f3 f4 f5 d1 d2 d3 d4 d5 l1 l2 l3 l4 l5;have d0:tf.blocks≤tf.count:=by rw[t3];exact Dl (Bh hp.size.1 t4 t5)
 have gh:ef.blocks≤ef.count:=by rw[d3];exact Dl (Bh hp.size.1 d4 d5)
 have c5:∀e,FB tf.count tf.count 5 tf.count e tf:=fun e=>⟨AI _,d0,fun _=>⟨ah,rfl⟩⟩
 rw[ah] at t2;rw[a9] at f2;rw[a6] at d2;rw[a8] at l2;have hR:Rm (Bu bw bd ba bs bj W) c m 11 W.δ.acts:=⟨hp,oM,oM,by
  rw[cw,cz];have e:11+W.live.length+1=W.live.length+12:=oM;rw[e];exact a7,oM,oM⟩
 have d6:Ao (Bu bw bd ba bs bj W) c 11 W.δ.acts 0 0 none [] _:=⟨hJ.weak rfl rfl rfl (AI _) (AI _),AU _,by simp⟩
 have au:=upF_ok t2;have d7:=Xe tt;have c6:=vO t2 f2 d2;have gi:=jF tt fl ed;have d8:=xW c6 au;have gj:=bQ (Ip tt fl ed) (upF tt);have d9:=yC au l2;have gk:=bS (upF tt) lo;have gl:=bR (upF tt) lo;have av:=xT hR d6 tf tt ai ah c oM oM (AI _) hT am oA19 oM;rw[aa tf,ab] at av;have av:=Ct.convP (H:=[Bp bj bw 0 none 0 0,Ab bw bd ba bs,cd,ao,cs]) av (aE (p:=Bu bw bd ba bs bj W) (e:=0) (cd:=cd) (ca:=ao) (cs:=cs)) (fun v H' hh=>⟨H',hh,.refl _⟩);repeat(refine sA ?_;intros)
 refine cX av ?_;rintro _ _ ⟨g1,C1,e1,rfl,rfl,ea,aw,gm⟩;dsimp only[AA,AB];refine nx ?_;try rw[aa]
 have e0:=aw.cnt;have fa:=aw.blk;have c7:=vP hR ea tf ff ef tt fl ed ai cu bc ah a9 a6 c oM oM oM oM (AI _) hT am dz du oM oA12 oM;rw[aa tf,aa ff,aa ef,ab] at c7;repeat(refine sA ?_;intros)
 refine cX c7 ?_;rintro _ _ ⟨g2,C2,e2,rfl,rfl,eb,be,c8⟩;dsimp only[AA,AB];refine nx ?_;try rw[aa]
 have fb:=be.cnt;have fc:=be.blk;have c9:=xX hR eb g2 g1 _ _ AE (AF _ AE) c6 au be (aw.mono c8) (c:=c) oM oM (AI _) hT (fun _=>bv) oA12 oM;rw[aa g2,aa g1,ab] at c9;repeat(refine sA ?_;intros)
 refine cX c9 ?_;rintro _ _ ⟨g3,C3,e3,rfl,rfl,ec,bf,ee⟩;dsimp only[AA,AB];refine nx ?_;try rw[aa]
 have fd:=bf.cnt;have fg:=bf.blk;have da:=yD hR ec g1 lf _ lo (AF _ (AF _ AE)) cv a8 au (aw.mono fun h=>c8 (ee h)) d7.symm (c:=c) oM oM oM (AI _) hT (fun _=>bv) dx oA12 oM;rw[aa g1,aa lf,ab] at da;repeat(refine sA ?_;intros)
 refine cX da ?_;rintro _ _ ⟨g4,C4,e4,rfl,rfl,eg,bg,eh⟩;dsimp only[AA,AB];refine nx ?_;try rw[aa]
 have fh:=bg.cnt;have fi:=bg.blk;have bh:=yF hR eg g3 g4 _ _ (AF _ AE) AE d8 d9 oM (bf.mono eh) bg (c:=c) oM oM (AI _) oA12 oM;rw[aa g3,aa g4,ab] at bh;rw[show jnF 0 (Jg (Ip tt fl ed) (upF tt)++Jj (upF tt) lo)=Ks tt fl ed lo from rfl] at bh;repeat(refine sA ?_;intros)
 refine cX bh ?_;rintro _ _ ⟨g5,C5,e5,rfl,rfl,db,bi,gp⟩;dsimp only[AA,AB];refine nx ?_;try rw[aa]
 have fj:=bi.cnt;have fk:=bi.blk;have dc:=fun b8 b4 b5=>SRun hR db 80 inferInstance [pv b8,pv b4,pv b5] (Cu bj b8 b4 b5 tf g5) 183000000 183000000 6100 none la oA18 oA18 (b:=tf.count) (c:=c) (w:=2) (n:=tf.count) (fun he x y hx=>by
  subst he;have h3:=bi.ok rfl;have ei:g5.count≤q:=by
   have h4:=h3.2;have h5:(Ks tt fl ed lo).length=(Jg (Ip tt fl ed) (upF tt)).length+(Jj (upF tt) lo).length:=by unfold Ks;rw[Sv,AH]
   omega
  have hS:=zQ hR (er:=none) 5 oA19 db.blk tf g5 (Ks tt fl ed lo) AE h3.1 q m2 ei oM oM b6 dw (by rw[cw,cz,show 5+W.live.length+9=W.live.length+14 by omega,show 8*(2*q)=16*q by omega];exact an) dy la dt b9 x y oM b8 b4 b5 183000000 oM;refine Er.mono hS ?_;rintro g e' gq ⟨a1,a2,a3,a4⟩;exact⟨a1,a3,oM,a2⟩) (AI _) oA12
 simp only[Cu,ae,ab,show∀x:Option Nat,(none:Option Nat).or x=x from fun _=>rfl] at dc;repeat(refine sA ?_;intros)
 refine cX (dc _ _ _) ?_;rintro _ _ ⟨g6,C6,e6,rfl,rfl,ej,bk,gr⟩;dsimp only[AA,AB];refine nx ?_;try rw[aa]
 have fm:=bk.cnt;have fp:=bk.blk;have gt:=Xm ed;have dd:=fun b1=>Fy hR ej [] Ex 3 ef.count c 1 oM 83 inferInstance [] (okT 3) bcD (fun t _=>mL t) oM ef ed (.inr bc) oM (fun _=>d2)
  (fun h=>by omega) (.inl oM) (AI _) oA12 oM b1
 simp only[ae,ab] at dd;repeat(refine sA ?_;intros)
 refine cX (dd _) ?_;rintro _ _ ⟨g7,C7,e7,rfl,rfl,ek,bp,el⟩;dsimp only[AA,AB];refine nx ?_;try rw[aa]
 have fq:=bp.cnt;have fr:=bp.blk;have de:=Tx hR ek g7 tf (ed.flatMap Ex) tt _ 1 oM bp (c5 e7) .here (.inr ai) oM oM oM (fun _=>am) (fun _=>rfl) oM (.inl oM) (AI _) hT oA12 oM;rw[aa g7,aa tf,ab] at de;repeat(refine sA ?_;intros)
 refine cX de ?_;rintro _ _ ⟨g8,C8,e8,rfl,rfl,em,df,en⟩;dsimp only[AA,AB];refine nx ?_;try rw[aa]
 have ft:=df.cnt;have dg:=Tx hR em g8 tf (Ck 2 1 tt (ed.flatMap Ex)) tt _ 2 oM df (c5 e8) .here (.inr ai) oM oM oM (fun _=>am) (fun _=>Ib _ _ _ _) oM (.inl oM) (AI _) hT oA12 oM;rw[aa g8,aa tf,ab] at dg;repeat(refine sA ?_;intros)
 refine cX dg ?_;rintro _ _ ⟨g9,C9,e9,rfl,rfl,eo,bq,ep⟩;dsimp only[AA,AB];refine nx ?_;try rw[aa]
 have fu:=bq.cnt;have fv:=bq.blk;have ag:=fun b1=>Fy hR eo [] bcMF 2 g9.count c 1 oM 84 inferInstance [] (okT 3) bcM (fun t _=>AI _) oM g9 (Ck 2 2 tt (Ck 2 1 tt (ed.flatMap Ex))) oA5 oM (fun _=>Oy t2 (Oy t2 (mM d2) 2 1 oM oM) 2 2 oM oM)
  (fun h=>by rw[El (f:=bcMF) (g:=fun t=>⟨t.c0,max t.c1 t.c2,0,0,0⟩) (fun _=>rfl),AR,(bq.ok h).2,Ib,Ib];exact AI _) (.inl oM) (AI _) oA12 oM b1
 simp only[ae,ab] at ag;rw[El (f:=bcMF) (g:=fun t=>⟨t.c0,max t.c1 t.c2,0,0,0⟩) (fun _=>rfl)] at ag;rw[show(Ck 2 2 tt (Ck 2 1 tt (ed.flatMap Ex))).map (fun t=>(⟨t.c0,max t.c1 t.c2,0,0,0⟩:T5))=Fi tt ed from rfl] at ag;repeat(refine sA ?_;intros)
 refine cX (ag _) ?_;rintro _ _ ⟨dh,gu,gw,rfl,rfl,di,aj,dj⟩;dsimp only[AA,AB];refine nx ?_;try rw[aa]
 have et:=aj.cnt;have eu:=aj.blk;have a0:=jC hR di dh g6 (Fi tt ed) la _ 1 oM aj (bk.mono fun h=>el (en (ep (dj h)))) .here (.inl oA8) oM oM oM (fun _=>b2) (fun _=>rfl) oM (.inl oM) (AI _) hT oA12 oM;rw[aa dh,aa g6,ab] at a0;repeat(refine sA ?_;intros)
 refine cX a0 ?_;rintro _ _ ⟨dk,gx,gy,rfl,rfl,dl,ac,fw⟩;dsimp only[AA,AB];refine nx ?_;try rw[aa]
 have ew:=ac.cnt;have ey:=ac.blk;have ak:=yG hR dk (Ck 1 1 la (Fi tt ed)) dl (Oy b3 (zR t2 d2) 1 1 oM oM) (b:=g9.count) (c:=c) ⟨ac.cnt,ac.blk,fun h=>⟨(ac.ok h).1,by rw[(ac.ok h).2,Ib]⟩⟩ oM oM (AI _) hT oA12 oM;rw[aa dk,ab] at ak;rw[show Nu (Ck 1 1 la (Fi tt ed))=Fj tt ed la from rfl] at ak;repeat(refine sA ?_;intros)
 refine cX ak ?_;rintro _ _ ⟨dm,gz,dp,rfl,rfl,dq,a5,fx⟩;dsimp only[AA,AB];refine nx ?_;try rw[aa]
 have ez:=a5.cnt;have dr:=fun b1=>iW hR dq dm b1;simp only[ae,ab] at dr;repeat(refine sA ?_;intros)
 refine cL (dr _) ?_;rintro _ _ ⟨ax,ay,az,W5,rfl,rfl,ds,hD⟩;try dsimp only[AA,AB]
 have al:=iU (A:=Po) (T:=Po) hD rfl (by dsimp only;unfold Po;omega) (by dsimp only;unfold Po;omega);dsimp only at al;by_cases he:dp=0
 ·subst he;rw[if_pos rfl] at al;repeat(refine sA ?_;intros)
  (refine dP [Ab bw bd ba bs,ax,ay,az] ?_;exact .inl ⟨ad,dm,0,ax,ay,az,W5,rfl,rfl,ds,al,fun _=>(a5.ok rfl).1⟩)
 ·rw[if_neg he] at al;repeat(refine sA ?_;intros)
  (refine dP [Ab bw bd ba bs,ax,ay,az] ?_;exact .inl ⟨ad,⟨0,0,0,0⟩,dp,ax,ay,az,W5,rfl,rfl,ds,al,fun h=>absurd h he⟩)
open Go.Gr
section
variable {N:Nat} {es:List IE} {lab:List Int} {fl:List Bool} {r b:List T5} {tl:List (Nat×Fo)} {l:List T5}
end
section
variable {N:Nat} {es:List IE} {lab:List Int} {fl:List Bool} {r b:List T5} {tl:List (Nat×Fo)} {l:List T5}
end
theorem Qx {v col:Nat} {hts ts:List T5} {z:T5}:z∈Ck v col hts ts↔∃t∈ts,z=Bf hts col v col t:=by rw[(Wn _ _ _ _).mem_iff,AN];exact⟨fun ⟨t,h,e⟩=>⟨t,h,e.symm⟩,fun ⟨t,h,e⟩=>⟨t,h,e.symm⟩⟩
theorem Uj {v col:Nat} (hc:col=1∨col=2) (hts ts:List T5):((Ck v col hts ts).map (·.c0)).Perm (ts.map (·.c0)):=by refine((Wn _ _ _ _).map _).trans (DD ?_);rw[CH];refine List.map_congr_left fun t _=>?_;rcases hc with rfl|rfl<;>rfl
section
variable {N:Nat} {es:List IE} {lab:List Int} {fl:List Bool} {r b:List T5} {tl:List (Nat×Fo)} {l:List T5} {qs:List T5}
theorem mO (lab:List Int):(Ay lab).Pairwise fun a c=>a.c0<c.c0:=by unfold Ay;rw[BA];exact D7.imp fun h=>by dsimp only;omega
theorem zV {u:Nat} {x:Int} (h:lab[u]? =some x):lkV (Ay lab) (u:Int) 1=x:=by have hu:=(AK.1 h).1;refine Ix (t:=⟨(u:Int),x,0,0,0⟩) (mO lab) ?_ rfl;unfold Ay;refine AN.2 ⟨u,List.mem_range.2 hu,?_⟩;rw[List.getD_eq_getElem?_getD,h];rfl
theorem zW (hT:Am N es lab b tl l):l.Pairwise fun a c=>a.c2≠c.c2:=by rw[A9];intro i j hi hj aa hc;have e1:=Dx (r:=l) hi;have e2:=Dx (r:=l) hj;rw[AG hi] at e1;rw[AG hj] at e2;rw[BC e1,BC e2] at hc;have:=hT.num_inj (by rw[←hT.len];exact hi) (by rw[←hT.len];exact hj) hc;omega
end
theorem mP {a b:List T5} (ha:a.Pairwise fun x y=>x.c0<y.c0) (hb:b.Pairwise fun x y=>x.c0<y.c0) (h:∀z,z∈a↔z∈b):a=b:=by
 have aa:∀{l:List T5},l.Pairwise (fun x y=>x.c0<y.c0)→l.Nodup:=fun h=>h.imp fun ab he=>by rw[he] at ab;omega
 exact((List.perm_ext_iff_of_nodup (aa ha) (aa hb)).2 h).eq_of_pairwise (le:=fun x y=>x.c0<y.c0) (fun x y _ _ h1 h2=>absurd h1 oM) ha hb
theorem mQ {m:List T5} (h:m.Pairwise fun a c=>a.c0≠c.c0):(srt (ltO o1) false m).Pairwise fun a c=>a.c0<c.c0:=by have h1:((srt (ltO o1) false m).map fun t:T5=>t.c0).Nodup:=((Bs m).map fun t:T5=>t.c0).nodup_iff.2 (BA.2 h);have h2:(srt (ltO o1) false m).Pairwise fun x y=>x.c0≠y.c0:=BA.1 h1;exact((Sh m).and h2).imp fun {x y} ⟨h3,h4⟩=>by omega
section
variable {N:Nat} {es:List IE} {lab:List Int} {fl:List Bool} {r b:List T5} {tl:List (Nat×Fo)} {l:List T5} {qs:List T5}
end
section
variable {N:Nat} {es:List IE} {lab:List Int} {fl:List Bool} {b:List T5} {tl:List (Nat×Fo)} {l o:List T5}
def pnB (l:List T5) (v:Nat):Int:=lkV l (at5 l v).c1 2
theorem mR (hT:Am N es lab b tl l) {v:Nat} (h:(at5 l v).c1= -1):pnB l v= -1:=by unfold pnB;refine Se fun u hu=>?_;obtain⟨w,hw,rfl⟩:=hT.mem_l.1 hu;rw[hT.at_ w hw];omega
theorem Xo (hT:Am N es lab b tl l) {v p:Nat} (hp:p<N) (h:(at5 l v).c1=(p:Int)):pnB l v=(at5 l p).c2:=by unfold pnB;rw[h,hT.look hp];rfl
theorem Uk (hT:Am N es lab b tl l) {z:T5}:z∈upF l↔∃v,v<N∧z=⟨(at5 l v).c2,pnB l v,(at5 l v).c3,0,0⟩:=by
 unfold upF;rw[(Bs _).mem_iff,Qx];constructor
 ·rintro⟨t,ht,rfl⟩;obtain⟨u,hu,rfl⟩:=AN.1 ht;obtain⟨v,hv,rfl⟩:=hT.mem_l.1 hu;exact⟨v,hv,rfl⟩
 ·rintro⟨v,hv,rfl⟩;exact⟨_,AN.2 ⟨_,hT.mem_l.2 ⟨v,hv,rfl⟩,rfl⟩,rfl⟩
theorem cJ (hT:Am N es lab b tl l):(upF l).Pairwise fun a c=>a.c0<c.c0:=by
 unfold upF;refine mQ ?_;have h1:((l.map fun t=>(⟨t.c2,t.c1,t.c3,0,0⟩:T5)).map (·.c0)).Nodup:=by rw[CH,List.Nodup,BA];exact(zW hT).imp fun h=>h
 have h2:=(Uj (v:=2) (.inl rfl) l (l.map fun t=>(⟨t.c2,t.c1,t.c3,0,0⟩:T5))).nodup_iff.2 h1;rwa[List.Nodup,BA] at h2
theorem Ul (hT:Am N es lab b tl l) {v:Nat} (hv:v<N):lkV (upF l) (at5 l v).c2 1=pnB l v∧lkV (upF l) (at5 l v).c2 2=(at5 l v).c3:=
 ⟨Ix (cJ hT) ((Uk hT).2 ⟨v,hv,rfl⟩) rfl,Ix (cJ hT) ((Uk hT).2 ⟨v,hv,rfl⟩) rfl⟩
theorem up_no (hT:Am N es lab b tl l) (c:Nat):lkV (upF l) (-1) c= -1:=by refine Se fun u hu=>?_;obtain⟨v,hv,rfl⟩:=(Uk hT).1 hu;have:=hT.bnd hv;dsimp only;omega
theorem mS {u w:Nat} (h:(at5 l u).c2<(at5 l w).c2):¬Sub l u w↔(at5 l u).c2+(at5 l u).c3≤(at5 l w).c2:=
 ⟨fun hn=>BX fun h2=>hn ⟨oM,oM⟩,fun h2 hn=>by have:=hn.2;omega⟩
theorem cK (hT:Am N es lab b tl l) (hf:∀e∈es,inE N e) (ah:fl.length=es.length) (hN:N≤1000000) {z:T5}:z∈Jg (Ip l (Ba (edT es) fl) (edT es)) (upF l)↔∃u w,u<N∧w<N∧Adj es fl u w∧(at5 l u).c2<(at5 l w).c2∧¬Sub l u w∧z=⟨(at5 l u).c2,(at5 l w).c2,0,0,0⟩:=by
 have ae:∀{i:Nat} {e:IE},es[i]? =some e→fl[i]? =some false→e.1≠e.2→∃u w,u<N∧w<N∧Adj es fl u w∧(at5 l u).c2<(at5 l w).c2∧min (at5 l e.1.toNat).c2 (at5 l e.2.toNat).c2=(at5 l u).c2∧max (at5 l e.1.toNat).c2 (at5 l e.2.toNat).c2=(at5 l w).c2:=by
  intro i e he hb aa;have h1:=hf e (AY he);unfold inE at h1;have hx:(at5 l e.1.toNat).c2≠(at5 l e.2.toNat).c2:=fun h=>aa (by have:=hT.num_inj (u:=e.1.toNat) (v:=e.2.toNat) oM oM h;omega);by_cases ab:(at5 l e.1.toNat).c2<(at5 l e.2.toNat).c2
  ·exact⟨e.1.toNat,e.2.toNat,oM,oM,⟨i,e,he,hb,.inl ⟨oM,oM⟩⟩,ab,oM,oM⟩
  ·exact⟨e.2.toNat,e.1.toNat,oM,oM,⟨i,e,he,hb,.inr ⟨oM,oM⟩⟩,oM,oM,oM⟩
 have hA:∀{u w:Nat},u<N→w<N→Lh ⟨(at5 l u).c2,(at5 l w).c2,(at5 l u).c3,0,0⟩=if(at5 l w).c2<(at5 l u).c2+(at5 l u).c3 then[] else[⟨(at5 l u).c2,(at5 l w).c2,0,0,0⟩]:=by intro u w hu hw;have h1:=hT.bnd hu;unfold Lh;dsimp only;rw[Ah oM]
 unfold Jg;rw[BZ];unfold Li;constructor
 ·rintro⟨t,ht,hz⟩;obtain⟨s,hs,rfl⟩:=AN.1 ht;obtain⟨q,hq,rfl⟩:=AN.1 ((Bs _).mem_iff.1 hs);obtain⟨i,e,he,hb,aa,rfl⟩:=(kS hT hf ah).1 hq;obtain⟨u,w,hu,hw,ha,ab,h1,h2⟩:=ae he hb aa;rw[show Bf (upF l) 0 2 2 ⟨min (at5 l e.1.toNat).c2 (at5 l e.2.toNat).c2,max (at5 l e.1.toNat).c2 (at5 l e.2.toNat).c2,0,0,0⟩=⟨min (at5 l e.1.toNat).c2 (at5 l e.2.toNat).c2,max (at5 l e.1.toNat).c2 (at5 l e.2.toNat).c2,lkV (upF l) (min (at5 l e.1.toNat).c2 (at5 l e.2.toNat).c2) 2,0,0⟩ from rfl,h1,h2,(Ul hT hu).2,hA hu hw] at hz;split at hz
  ·cases hz
  ·rw[AW] at hz;exact⟨u,w,hu,hw,ha,ab,(mS ab).2 oM,hz⟩
 ·rintro⟨u,w,hu,hw,⟨i,e,he,hb,ac⟩,ab,hn,rfl⟩;have aa:e.1≠e.2:=fun h=>by rcases ac with⟨a,c⟩|⟨a,c⟩<;>(have:u=w:=by omega)<;>(subst this;omega)
  obtain⟨u',w',ad,ag,_,ai,h1,h2⟩:=ae he hb aa;have aj:u'=u∧w'=w:=by
   rcases ac with⟨a,c⟩|⟨a,c⟩
   ·rw[a,c,AV,AV] at h1 h2;exact⟨hT.num_inj ad hu oM,hT.num_inj ag hw oM⟩
   ·rw[a,c,AV,AV] at h1 h2;exact⟨hT.num_inj ad hu oM,hT.num_inj ag hw oM⟩
  obtain⟨rfl,rfl⟩:=aj;refine⟨_,AN.2 ⟨_,(Bs _).mem_iff.2 (AN.2 ⟨_,(kS hT hf ah).2 ⟨i,e,he,hb,aa,rfl⟩,rfl⟩),rfl⟩,?_⟩;rw[show Bf (upF l) 0 2 2 ⟨min (at5 l e.1.toNat).c2 (at5 l e.2.toNat).c2,max (at5 l e.1.toNat).c2 (at5 l e.2.toNat).c2,0,0,0⟩=⟨min (at5 l e.1.toNat).c2 (at5 l e.2.toNat).c2,max (at5 l e.1.toNat).c2 (at5 l e.2.toNat).c2,lkV (upF l) (min (at5 l e.1.toNat).c2 (at5 l e.2.toNat).c2) 2,0,0⟩ from rfl,h1,h2,(Ul hT ad).2,hA ad ag,if_neg (by have:=(mS ai).1 hn;omega)];exact AE
theorem mT (hT:Am N es lab b tl l) (h:Jd N es fl l o):o.Pairwise fun a c=>a.c0<c.c0:=by
 have key:∀{k:Nat} {z:T5},o[k]? =some z→z.c0=(k:Int):=by
  intro k z hk;have aa:k<N:=by rw[←h.len];exact(AK.1 hk).1
  obtain⟨v,hv,hn⟩:=hT.surj aa;obtain⟨lo,hi,h1,_⟩:=h.at_ v hv;rw[hn,AV,hk] at h1;rw[BC h1]
 rw[A9];intro i j hi hj ab;rw[key (AG hi),key (AG hj)];omega
theorem mU (hT:Am N es lab b tl l) (hL:Jd N es fl l o) (hN:N≤1000000) {z:T5}:z∈Jj (upF l) o↔∃v p,v<N∧p<N∧(at5 l v).c1=(p:Int)∧(at5 l p).c1≠-1∧(∃a w,a<N∧w<N∧Sub l v a∧Adj es fl a w∧¬Sub l p w)∧z=⟨(at5 l v).c2,(at5 l p).c2,0,0,0⟩:=by
 have ag:=mT hT hL;have ac:∀v,v<N→∃lo hi,Sr N es fl l v lo∧Ss N es fl l v hi∧Bf (upF l) 1 1 4 (Bf o 0 2 3 (Bf o 0 1 2 ⟨(at5 l v).c2,pnB l v,(at5 l v).c3,0,0⟩))=⟨(at5 l v).c2,pnB l v,lo,hi,lkV (upF l) (pnB l v) 1⟩:=by intro v hv;obtain⟨lo,hi,h1,h2,h3⟩:=hL.at_ v hv;have hm:=AY h1;refine⟨lo,hi,h2,h3,?_⟩;have e1:lkV o (at5 l v).c2 1=lo:=Ix ag hm rfl;have e2:lkV o (at5 l v).c2 2=hi:=Ix ag hm rfl;show(⟨(at5 l v).c2,pnB l v,lkV o (at5 l v).c2 1,lkV o (at5 l v).c2 2,lkV (upF l) (pnB l v) 1⟩:T5)=_;rw[e1,e2]
 have ah:∀{t:T5},t∈Jh (upF l) o↔∃v,v<N∧t=Bf (upF l) 1 1 4 (Bf o 0 2 3 (Bf o 0 1 2 ⟨(at5 l v).c2,pnB l v,(at5 l v).c3,0,0⟩)):=by
  intro t;unfold Jh Nt;rw[AN];constructor
  ·rintro⟨s,hs,rfl⟩;rw[(Bs _).mem_iff,CH] at hs;obtain⟨q,hq,rfl⟩:=AN.1 hs;obtain⟨v,hv,rfl⟩:=(Uk hT).1 hq;exact⟨v,hv,rfl⟩
  ·rintro⟨v,hv,rfl⟩;refine⟨_,?_,rfl⟩;rw[(Bs _).mem_iff,CH];exact AN.2 ⟨_,(Uk hT).2 ⟨v,hv,rfl⟩,rfl⟩
 have ai:∀v,v<N→(lkV (upF l) (pnB l v) 1≠-1↔∃p,p<N∧(at5 l v).c1=(p:Int)∧(at5 l p).c1≠-1):=by
  intro v hv;rcases hT.par hv with⟨h,_⟩|⟨p,hp,h,_⟩
  ·rw[mR hT h,up_no hT];exact⟨fun h=>absurd rfl h,fun ⟨p,_,h2,_⟩=>by omega⟩
  ·rw[Xo hT hp h,(Ul hT hp).1];rcases hT.par hp with⟨h2,_⟩|⟨g,hg,h2,_⟩
   ·rw[mR hT h2];refine⟨fun h=>absurd rfl h,fun ⟨p',_,h3,h4⟩=>?_⟩;obtain rfl:p=p':=by omega
    exact absurd h2 h4
   ·rw[Xo hT hg h2];have:=hT.bnd hg;exact⟨fun _=>⟨p,hp,h,oM⟩,fun _=>by omega⟩
 have hO:∀{v p:Nat} {lo hi:Int},p<N→Kq ⟨(at5 l v).c2,(at5 l p).c2,lo,hi,(at5 l p).c3⟩=if(at5 l p).c2≤lo∧hi<(at5 l p).c2+(at5 l p).c3 then[] else[⟨(at5 l v).c2,(at5 l p).c2,0,0,0⟩]:=by
  intro v p lo hi hp;have h1:=hT.bnd hp;unfold Kq;dsimp only;rw[Ah oM];by_cases h2:(at5 l p).c2≤lo
  ·by_cases h3:hi<(at5 l p).c2+(at5 l p).c3
   ·rw[if_pos h2,if_pos h3,if_pos ⟨h2,h3⟩]
   ·rw[if_pos h2,if_neg h3,if_neg fun h=>h3 h.2]
  ·rw[if_neg h2,if_neg fun h=>h2 h.1]
 have aa:∀{v p:Nat} {lo hi:Int},v<N→p<N→(at5 l v).c1=(p:Int)→Sr N es fl l v lo→Ss N es fl l v hi→(¬((at5 l p).c2≤lo∧hi<(at5 l p).c2+(at5 l p).c3)↔∃a w,a<N∧w<N∧Sub l v a∧Adj es fl a w∧¬Sub l p w):=by
  intro v p lo hi hv hp aj h1 h2;constructor
  ·intro hn;have ad:∀{x:Int},Out N es fl l v x→¬((at5 l p).c2≤x∧x<(at5 l p).c2+(at5 l p).c3)→∃a w,a<N∧w<N∧Sub l v a∧Adj es fl a w∧¬Sub l p w:=by
    rintro x ⟨a,ha,hs,rfl|⟨w,hw,ab,rfl⟩⟩ hx
    ·have h3:=bO hT hv aj hs;exact absurd ⟨h3.1,h3.2⟩ hx
    ·exact⟨a,w,ha,hw,hs,ab,fun h3=>hx ⟨h3.1,h3.2⟩⟩
   by_cases h3:(at5 l p).c2≤lo∧lo<(at5 l p).c2+(at5 l p).c3
   ·refine ad h2.1 fun h4=>hn ⟨h3.1,h4.2⟩
   ·exact ad h1.1 h3
  ·rintro⟨a,w,ha,hw,hs,ab,ak⟩ ⟨h3,h4⟩;have ho:Out N es fl l v (at5 l w).c2:=⟨a,ha,hs,.inr ⟨w,hw,ab,rfl⟩⟩
   have h5:=h1.2 _ ho;have h6:=h2.2 _ ho;exact ak ⟨oM,oM⟩
 unfold Jj Mc Ji;rw[BZ];constructor
 ·rintro⟨t,ht,hz⟩;obtain⟨s,hs,rfl⟩:=AN.1 ht;obtain⟨q,hq,hs⟩:=BZ.1 hs;obtain⟨v,hv,rfl⟩:=ah.1 hq;obtain⟨lo,hi,h1,h2,h3⟩:=ac v hv;rw[h3] at hs;unfold Ka at hs;split at hs
  ·cases hs
  ·rename_i ae;rw[AW] at hs;subst hs;obtain⟨p,hp,p1,p2⟩:=(ai v hv).1 ae;rw[show Bf (upF l) 1 2 4 ⟨(at5 l v).c2,pnB l v,lo,hi,0⟩=⟨(at5 l v).c2,pnB l v,lo,hi,lkV (upF l) (pnB l v) 2⟩ from rfl,Xo hT hp p1,(Ul hT hp).2,hO hp] at hz;split at hz
   ·cases hz
   ·rename_i hn;rw[AW] at hz;exact⟨v,p,hv,hp,p1,p2,(aa hv hp p1 h1 h2).1 hn,hz⟩
 ·rintro⟨v,p,hv,hp,p1,p2,al,rfl⟩;obtain⟨lo,hi,h1,h2,h3⟩:=ac v hv;have ae:lkV (upF l) (pnB l v) 1≠-1:=(ai v hv).2 ⟨p,hp,p1,p2⟩;refine⟨_,AN.2 ⟨⟨(at5 l v).c2,pnB l v,lo,hi,0⟩,BZ.2 ⟨_,ah.2 ⟨v,hv,rfl⟩,?_⟩,rfl⟩,?_⟩
  ·rw[h3];unfold Ka;rw[if_neg ae];exact AE
  ·rw[show Bf (upF l) 1 2 4 ⟨(at5 l v).c2,pnB l v,lo,hi,0⟩=⟨(at5 l v).c2,pnB l v,lo,hi,lkV (upF l) (pnB l v) 2⟩ from rfl,Xo hT hp p1,(Ul hT hp).2,hO hp,if_neg ((aa hv hp p1 h1 h2).2 al)];exact AE
end
theorem mV:∀(ts:List T5) (i:Nat),(jnF i ts).map Cw=ts.map fun t=>(t.c0,t.c1)
 |[],_=>rfl
 |t::ts,i=>by rw[jnF,AZ,AZ,mV ts];rfl
theorem cM:∀(ts:List T5) (i:Nat),(jnF i ts).Pairwise (fun a c=>a.c0<c.c0)∧∀z∈jnF i ts,((i+1:Nat):Int)≤z.c0
 |[],_=>⟨DH,fun z hz=>by cases hz⟩
 |t::ts,i=>by
  obtain⟨h1,h2⟩:=cM ts (i+1);rw[jnF];refine⟨List.pairwise_cons.2 ⟨fun z hz=>by have:=h2 z hz;dsimp only;omega,h1⟩,fun z hz=>?_⟩;rcases AM.1 hz with rfl|hz
  ·exact Int.le_refl _
  ·have:=h2 z hz;omega
theorem mW:∀{ts:List T5} {i:Nat} {z:T5},z∈jnF i ts→∃t∈ts,z.c1=t.c0∧z.c2=t.c1
 |[],_,_,h=>by cases h
 |t::ts,i,z,h=>by
  rw[jnF] at h;rcases AM.1 h with rfl|h
  ·exact⟨t,AE,rfl,rfl⟩
  ·obtain⟨u,hu,h1,h2⟩:=mW h;exact⟨u,AF _ hu,h1,h2⟩
def prB (es:List IE) (fl:List Bool) (l o:List T5):List T5:=Jg (Ip l (Ba (edT es) fl) (edT es)) (upF l)++Jj (upF l) o
def peB (es:List IE) (fl:List Bool) (l o:List T5):List IE:=(prB es fl l o).map fun t=>(t.c0,t.c1)
def EB (es:List IE) (fl:List Bool) (l o:List T5) (u v:Nat):Prop:=Cn (gE (peB es fl l o)) (fun i=>i<(peB es fl l o).length) (at5 l u).c2.toNat (at5 l v).c2.toNat
section
variable {N:Nat} {es:List IE} {ls:List (List Int)} {lab:List Int} {fl:List Bool} {r b:List T5} {tl:List (Nat×Fo)} {l o:List T5}
theorem mX (X:BcX N es ls lab fl r b tl l) (hL:Jd N es fl l o) {t:T5} (ht:t∈prB es fl l o):∃u v,u<N∧v<N∧AuxP N es fl l u v∧t=⟨(at5 l u).c2,(at5 l v).c2,0,0,0⟩:=by
 unfold prB at ht;rcases List.mem_append.1 ht with ht|ht
 ·obtain⟨u,w,hu,hw,ha,aa,hn,rfl⟩:=(cK X.tab X.inn X.parts.fors.1 X.big).1 ht;exact⟨u,w,hu,hw,.inl ⟨ha,hn,fun h=>by have:=h.1;omega⟩,rfl⟩
 ·obtain⟨v,p,hv,hp,h1,h2,h3,rfl⟩:=(mU X.tab hL X.big).1 ht;exact⟨v,p,hv,hp,.inr ⟨h1,h2,h3⟩,rfl⟩
theorem aux_pr (X:BcX N es ls lab fl r b tl l) (hL:Jd N es fl l o) {u v:Nat} (hu:u<N) (hv:v<N) (h:AuxP N es fl l u v):(⟨(at5 l u).c2,(at5 l v).c2,0,0,0⟩:T5)∈prB es fl l o∨(⟨(at5 l v).c2,(at5 l u).c2,0,0,0⟩:T5)∈prB es fl l o:=by
 unfold prB;rcases h with⟨h1,h2,h3⟩|⟨h1,h2,h3⟩
 ·have ab:(at5 l u).c2≠(at5 l v).c2:=fun h=>h2 (by rw[X.tab.num_inj hu hv h];exact Hj X.tab hv);by_cases aa:(at5 l u).c2<(at5 l v).c2
  ·exact .inl (BN _ ((cK X.tab X.inn X.parts.fors.1 X.big).2 ⟨u,v,hu,hv,h1,aa,h2,rfl⟩))
  ·exact .inr (BN _ ((cK X.tab X.inn X.parts.fors.1 X.big).2 ⟨v,u,hv,hu,kZ h1,oM,h3,rfl⟩))
 ·exact .inl (List.mem_append_right _ ((mU X.tab hL X.big).2 ⟨u,v,hu,hv,h1,h2,h3,rfl⟩))
theorem pe_cn {x y:Int} (h:(⟨x,y,0,0,0⟩:T5)∈prB es fl l o):Cn (gE (peB es fl l o)) (fun i=>i<(peB es fl l o).length) x.toNat y.toNat:=by
 have hm:(x,y)∈peB es fl l o:=AN.2 ⟨_,h,rfl⟩;obtain⟨i,hi⟩:=List.mem_iff_getElem?.1 hm;have h1:=Cn.edge (g:=gE (peB es fl l o)) (S:=fun i=>i<(peB es fl l o).length) (i:=i) (AK.1 hi).1;have h2:gE (peB es fl l o) i=(x.toNat,y.toNat):=by unfold gE;rw[hi]
 rw[h2] at h1;exact h1
theorem eqxB (X:BcX N es ls lab fl r b tl l) (hL:Jd N es fl l o):EqX N es ls fl l (EB es fl l o) where
 refl a:= .refl _
 symm h:=Cn.symm h
 trans h g:=Cn.trans h g
 aux hu hv h:=by
  rcases aux_pr X hL hu hv h with h|h
  ·exact pe_cn h
  ·exact(pe_cn h).symm
 sg:=by
  intro u v p q hu hv hE hp hq i j hi hj;have key:∀c,Cn (gE (peB es fl l o)) (fun i=>i<(peB es fl l o).length) (at5 l u).c2.toNat c→∃w z:Nat,w<N∧(at5 l w).c2.toNat=c∧(at5 l w).c1=(z:Int)∧∀k,Cl es k w z→Sg N es ls i k:=by
   intro c hc;induction hc with
   |refl=>exact⟨u,p,hu,rfl,hp,fun k hk=>X.par_sg hu hp hi hk⟩
   | @step c d _ ad ih=>
    obtain⟨w,z,hw,aj,ak,hs⟩:=ih;obtain⟨n,hn,he⟩:=ad;have ae:(peB es fl l o)[n]? =some (peB es fl l o)[n]:=AG hn;have hm:=B6 hn;unfold peB at hm;obtain⟨t,ht,h1⟩:=AN.1 hm;obtain⟨a,e,ha,aa,ag,rfl⟩:=mX X hL ht;have hg:gE (peB es fl l o) n=((at5 l a).c2.toNat,(at5 l e).c2.toNat):=by unfold gE;rw[ae];have:(peB es fl l o)[n]=((at5 l a).c2,(at5 l e).c2):=h1.symm;rw[this]
    rw[hg] at he;dsimp only at he;obtain⟨pa,pe,q1,q2,_,_,q3⟩:=X.aux_sg ha aa ag;have ah:=X.tab.bnd ha;have ai:=X.tab.bnd aa;have al:=X.tab.bnd hw;obtain⟨ja,ab⟩:=X.par_ed ha q1;obtain⟨je,ac⟩:=X.par_ed aa q2;rcases he with⟨g1,g2⟩|⟨g1,g2⟩
    ·obtain rfl:a=w:=X.tab.num_inj ha hw oM;obtain rfl:pa=z:=by omega
     exact⟨e,pe,aa,g2,q2,fun k hk y hy=>(hs ja ab y hy).trans (q3 ja k ab hk y hy)⟩
    ·obtain rfl:e=w:=X.tab.num_inj aa hw oM;obtain rfl:pe=z:=by omega
     exact⟨a,pa,ha,g1,q1,fun k hk y hy=>(hs je ac y hy).trans (q3 k je hk ac y hy).symm⟩
  obtain⟨w,z,hw,h1,h2,h3⟩:=key _ hE;have ah:=X.tab.bnd hw;have ai:=X.tab.bnd hv;obtain rfl:w=v:=X.tab.num_inj hw hv oM;obtain rfl:z=q:=by omega
  exact h3 j hj
theorem deep (X:BcX N es ls lab fl r b tl l) {i:Nat} (hi:i<es.length) (hn:Eb es i):∃v u,Cl es i v u∧(at5 l u).c2<(at5 l v).c2∧max (at5 l (Bd es i).1.toNat).c2 (at5 l (Bd es i).2.toNat).c2=(at5 l v).c2:=by
 have h1:=Qq X.inn hi;unfold inE at h1;unfold Eb at hn;have hg:=Ph hi;have hx:(at5 l (Bd es i).1.toNat).c2≠(at5 l (Bd es i).2.toNat).c2:=fun h=>hn (by have:=X.tab.num_inj (u:=(Bd es i).1.toNat) (v:=(Bd es i).2.toNat) oM oM h;omega);by_cases aa:(at5 l (Bd es i).1.toNat).c2<(at5 l (Bd es i).2.toNat).c2
 ·exact⟨(Bd es i).2.toNat,(Bd es i).1.toNat,⟨hi,.inr ⟨by rw[hg],by rw[hg]⟩⟩,aa,oM⟩
 ·exact⟨(Bd es i).1.toNat,(Bd es i).2.toNat,⟨hi,.inl ⟨by rw[hg],by rw[hg]⟩⟩,oM,oM⟩
theorem zX (X:BcX N es ls lab fl r b tl l) (hL:Jd N es fl l o) {i k v w x y:Nat} (hi:Cl es i v x) (hk:Cl es k w y) (hx:(at5 l x).c2<(at5 l v).c2) (hy:(at5 l y).c2<(at5 l w).c2):Sg N es ls i k↔EB es fl l o v w:=by
 obtain⟨hv,_⟩:=X.end_lt hi;obtain⟨hw,_⟩:=X.end_lt hk;obtain⟨p,p1,p2,p3⟩:=X.own hi (fun h=>by have:=h.1;omega);obtain⟨q,q1,q2,q3⟩:=X.own hk (fun h=>by have:=h.1;omega);obtain⟨j,hj⟩:=X.par_ed hv p1;obtain⟨n,hn⟩:=X.par_ed hw q1;have Q:=eqxB X hL;have s1:=p3 j hj;have s2:=q3 n hn;constructor
 ·intro hs;have aa:=X.tab.bnd hv;have ab:=X.tab.bnd hw;exact X.complete Q ((at5 l v).c2+(at5 l w).c2).toNat hv hw oM p1 q1 hj hn fun z hz=>(s1 z hz).symm.trans ((hs z hz).trans (s2 z hz))
 ·intro hE z hz;exact(s1 z hz).trans ((Q.sg hv hw hE p1 q1 j n hj hn z hz).trans (s2 z hz).symm)
theorem mY (X:BcX N es ls lab fl r b tl l) {z:T5}:z∈Fi l (edT es)↔∃i:Nat,i<es.length∧Eb es i∧z=⟨(i:Int),max (at5 l (Bd es i).1.toNat).c2 (at5 l (Bd es i).2.toNat).c2,0,0,0⟩:=by
 have hT:=X.tab;have aa:∀{i:Nat},i<es.length→lkV l (Bd es i).1 2=(at5 l (Bd es i).1.toNat).c2∧lkV l (Bd es i).2 2=(at5 l (Bd es i).2.toNat).c2:=fun {i} hi=>by have h1:=Qq X.inn hi;unfold inE at h1;have e1:=hT.look (v:=(Bd es i).1.toNat) oM 2;have e2:=hT.look (v:=(Bd es i).2.toNat) oM 2;rw[show(((Bd es i).1.toNat:Nat):Int)=(Bd es i).1 by omega] at e1;rw[show(((Bd es i).2.toNat:Nat):Int)=(Bd es i).2 by omega] at e2;exact⟨e1,e2⟩
 have hD:∀{t:T5},t∈(edT es).flatMap Ex↔∃i:Nat,i<es.length∧Eb es i∧t=⟨(i:Int),(Bd es i).1,(Bd es i).2,0,0⟩:=by
  intro t;rw[BZ];constructor
  ·rintro⟨s,hs,ht⟩;obtain⟨i,e,he,rfl⟩:=Qk hs;have hi:=(AK.1 he).1;have h2:=Su hi;rw[he] at h2;obtain rfl:=BC h2;unfold Ex at ht;split at ht
   ·cases ht
   ·rename_i ab;rw[AW] at ht;exact⟨i,hi,ab,ht⟩
  ·rintro⟨i,hi,hn,rfl⟩;refine⟨_,AY (Ma (Su hi)),?_⟩;unfold Ex;rw[if_neg (show¬(Bd es i).1=(Bd es i).2 from hn)];exact AE
 unfold Fi;rw[AN];constructor
 ·rintro⟨t,ht,rfl⟩;obtain⟨s,hs,rfl⟩:=Qx.1 ht;obtain⟨q,hq,rfl⟩:=Qx.1 hs;obtain⟨i,hi,hn,rfl⟩:=hD.1 hq;refine⟨i,hi,hn,?_⟩;show(⟨(i:Int),max (lkV l (Bd es i).1 2) (lkV l (Bd es i).2 2),0,0,0⟩:T5)=_;rw[(aa hi).1,(aa hi).2]
 ·rintro⟨i,hi,hn,rfl⟩;refine⟨_,Qx.2 ⟨_,Qx.2 ⟨_,hD.2 ⟨i,hi,hn,rfl⟩,rfl⟩,rfl⟩,?_⟩;show(⟨(i:Int),max (lkV l (Bd es i).1 2) (lkV l (Bd es i).2 2),0,0,0⟩:T5)=_;rw[(aa hi).1,(aa hi).2]
theorem zY (X:BcX N es ls lab fl r b tl l) (hL:Jd N es fl l o) (hm:es.length≤1000000) {lab2:List Int} (h2:En (gE (peB es fl l o)) (fun i=>i<(peB es fl l o).length) N (-1) lab2) {z:T5}:z∈Fj l (edT es) (Ay lab2)↔∃i k:Nat,i<es.length∧k<es.length∧z=⟨(i:Int),(k:Int),0,0,0⟩∧Eb es i∧Eb es k∧Sg N es ls i k∧∀j,j<k→Eb es j→¬Sg N es ls i j:=by
 have ae:∀{i:Nat},i<es.length→Eb es i→∃x:Nat,lab2[(max (at5 l (Bd es i).1.toNat).c2 (at5 l (Bd es i).2.toNat).c2).toNat]? =some (x:Int)∧x<N:=fun {i} hi hn=>by obtain⟨v,u,hE,_,h4⟩:=deep X hi hn;have hb:=X.tab.bnd (X.end_lt hE).1;rw[h4];obtain⟨x,g1,g2,_⟩:=h2.root (v:=(at5 l v).c2.toNat) oM;exact⟨x,g1,oM⟩
 have ab:∀{i k:Nat},i<es.length→k<es.length→Eb es i→Eb es k→(lab2[(max (at5 l (Bd es i).1.toNat).c2 (at5 l (Bd es i).2.toNat).c2).toNat]? =lab2[(max (at5 l (Bd es k).1.toNat).c2 (at5 l (Bd es k).2.toNat).c2).toNat]?↔Sg N es ls i k):=by
  intro i k hi hk am aa;obtain⟨v,u,hE,an,h4⟩:=deep X hi am;obtain⟨w,y,hF,ah,h5⟩:=deep X hk aa;have hb:=X.tab.bnd (X.end_lt hE).1;have a0:=X.tab.bnd (X.end_lt hF).1;rw[h4,h5,zX X hL hE hF an ah];constructor
  ·intro heq;obtain⟨x,g1,_,g2,_⟩:=h2.root (v:=(at5 l v).c2.toNat) oM;obtain⟨x',ao,_,aq,_⟩:=h2.root (v:=(at5 l w).c2.toNat) oM;rw[g1,ao] at heq;obtain rfl:x=x':=by have:=BC heq;omega
   exact Cn.trans g2 (Cn.symm aq)
  ·intro au;exact h2.same oM oM au
 have hf:∀{t:T5},t∈Ck 1 1 (Ay lab2) (Fi l (edT es))↔∃i x:Nat,i<es.length∧Eb es i∧lab2[(max (at5 l (Bd es i).1.toNat).c2 (at5 l (Bd es i).2.toNat).c2).toNat]? =some (x:Int)∧t=⟨(i:Int),(x:Int),0,0,0⟩:=by
  have ai:∀{i x:Nat},i<es.length→Eb es i→lab2[(max (at5 l (Bd es i).1.toNat).c2 (at5 l (Bd es i).2.toNat).c2).toNat]? =some (x:Int)→lkV (Ay lab2) (max (at5 l (Bd es i).1.toNat).c2 (at5 l (Bd es i).2.toNat).c2) 1=(x:Int):=fun {i x} hi hn hx=>by obtain⟨v,u,hE,_,h4⟩:=deep X hi hn;have hb:=X.tab.bnd (X.end_lt hE).1;have:=zV hx;rwa[show(((max (at5 l (Bd es i).1.toNat).c2 (at5 l (Bd es i).2.toNat).c2).toNat:Nat):Int)=max (at5 l (Bd es i).1.toNat).c2 (at5 l (Bd es i).2.toNat).c2 by omega] at this
  intro t;rw[Qx];constructor
  ·rintro⟨s,hs,rfl⟩;obtain⟨i,hi,hn,rfl⟩:=(mY X).1 hs;obtain⟨x,hx,_⟩:=ae hi hn;refine⟨i,x,hi,hn,hx,?_⟩;show(⟨(i:Int),lkV (Ay lab2) (max (at5 l (Bd es i).1.toNat).c2 (at5 l (Bd es i).2.toNat).c2) 1,0,0,0⟩:T5)=_;rw[ai hi hn hx]
  ·rintro⟨i,x,hi,hn,hx,rfl⟩;refine⟨_,(mY X).2 ⟨i,hi,hn,rfl⟩,?_⟩;show _=(⟨(i:Int),lkV (Ay lab2) (max (at5 l (Bd es i).1.toNat).c2 (at5 l (Bd es i).2.toNat).c2) 1,0,0,0⟩:T5)
   rw[ai hi hn hx]
 have av:∀t∈(Ck 1 1 (Ay lab2) (Fi l (edT es))).map (fun t=>(⟨t.c1,t.c0,0,0,0⟩:T5)),okT 2 t:=by intro t ht;obtain⟨s,hs,rfl⟩:=AN.1 ht;obtain⟨i,x,hi,hn,hx,rfl⟩:=hf.1 hs;have h3:=ae hi hn;obtain⟨x',h4,h5⟩:=h3;rw[hx] at h4;have h6:=X.big;have:(x:Int)=(x':Int):=BC h4;exact Hk ⟨oD,oD⟩ ⟨oD,oD⟩
 have ac:∀{i x:Nat},i<es.length→Eb es i→lab2[(max (at5 l (Bd es i).1.toNat).c2 (at5 l (Bd es i).2.toNat).c2).toNat]? =some (x:Int)→∃k:Nat,lkV (Md (Ck 1 1 (Ay lab2) (Fi l (edT es)))) (x:Int) 1=(k:Int)∧k<es.length∧Eb es k∧Sg N es ls i k∧∀j,j<k→Eb es j→¬Sg N es ls i j:=by intro i x hi hn hx;obtain⟨y,hy,aw,ag⟩:=kU (P:=(Ck 1 1 (Ay lab2) (Fi l (edT es))).map fun t=>(⟨t.c1,t.c0,0,0,0⟩:T5)) (k:=(x:Int)) ⟨_,AN.2 ⟨_,hf.2 ⟨i,x,hi,hn,hx,rfl⟩,rfl⟩,rfl⟩;obtain⟨s,hs,rfl⟩:=AN.1 hy;obtain⟨k,x',hk,aa,ax,rfl⟩:=hf.1 hs;dsimp only at aw ag;have ay:x'=x:=oM;subst ay;have aj:(⟨(x':Int),(k:Int),0,0,0⟩:T5)∈Md (Ck 1 1 (Ay lab2) (Fi l (edT es))):=(iY av).2 ⟨hy,fun w hw h=>ag w hw h⟩;refine⟨k,Ix (Ox _) aj rfl,hk,aa,(ab hi hk hn aa).1 (by rw[hx,ax]),fun j hj ak az=>?_⟩;have al:j<es.length:=oM;have h3:=(ab hi al hn ak).2 az;rw[hx] at h3;have:=ag _ (AN.2 ⟨_,hf.2 ⟨j,x',al,ak,h3.symm,rfl⟩,rfl⟩) rfl;dsimp only at this;omega
 unfold Fj Nu;rw[(Bs _).mem_iff,Qx];constructor
 ·rintro⟨t,ht,rfl⟩;obtain⟨i,x,hi,hn,hx,rfl⟩:=hf.1 ht;obtain⟨k,k1,k2,k3,k4,k5⟩:=ac hi hn hx;refine⟨i,k,hi,k2,?_,hn,k3,k4,k5⟩;show(⟨(i:Int),lkV (Md (Ck 1 1 (Ay lab2) (Fi l (edT es)))) (x:Int) 1,0,0,0⟩:T5)=_;rw[k1]
 ·rintro⟨i,k,hi,hk,rfl,hn,aa,hs,ad⟩;obtain⟨x,hx,_⟩:=ae hi hn;obtain⟨k',k1,k2,k3,k4,k5⟩:=ac hi hn hx;obtain rfl:k=k':=by
   rcases Nat.lt_trichotomy k k' with h|h|h
   ·exact absurd hs (k5 k h aa)
   ·exact h
   ·exact absurd k4 (ad k' h k3)
  refine⟨_,hf.2 ⟨i,x,hi,hn,hx,rfl⟩,?_⟩;show _=(⟨(i:Int),lkV (Md (Ck 1 1 (Ay lab2) (Fi l (edT es)))) (x:Int) 1,0,0,0⟩:T5)
  rw[k1]
theorem zZ (es:List IE) (la:List T5):(Fj l (edT es) la).Pairwise fun a c=>a.c0<c.c0:=by
 unfold Fj Nu;refine mQ ?_;have aa:((Fi l (edT es)).map (·.c0)).Nodup:=by
  have h0:(((edT es).flatMap Ex).map (·.c0)).Nodup:=by
   have h1:((edT es).flatMap Ex).Pairwise fun a c=>a.c0<c.c0:=by
    rw[List.pairwise_flatMap];refine⟨fun t _=>by unfold Ex;split<;>simp,?_⟩;have h2:(edT es).Pairwise fun a c=>a.c0<c.c0:=by unfold edT;rw[BA];exact D7.imp fun h=>by dsimp only;omega
    refine h2.imp fun {a c} ab x hx y hy=>?_;unfold Ex at hx hy;split at hx
    ·cases hx
    ·split at hy
     ·cases hy
     ·rw[AW] at hx hy;subst hx hy;exact ab
   rw[List.Nodup,BA];exact h1.imp fun h=>by omega
  have h1:=(Uj (v:=2) (.inl rfl) l ((edT es).flatMap Ex)).nodup_iff.2 h0;have h2:=(Uj (v:=2) (.inr rfl) l (Ck 2 1 l ((edT es).flatMap Ex))).nodup_iff.2 h1;unfold Fi;rw[CH];exact h2
 have h1:=(Uj (v:=1) (.inl rfl) la (Fi l (edT es))).nodup_iff.2 aa;have h2:=(Uj (v:=1) (.inl rfl) (Md (Ck 1 1 la (Fi l (edT es)))) (Ck 1 1 la (Fi l (edT es)))).nodup_iff.2 h1;rwa[List.Nodup,BA] at h2
end
theorem En.uniq {g:Nat→Ed} {S:Nat→Prop} {N:Nat} {l l':List Int} (h:En g S N (-1) l) (h':En g S N (-1) l'):l=l':=by
 apply List.ext_getElem?;intro v;by_cases hv:v<N
 ·obtain⟨x,h1,h2,_,h3⟩:=h.at_ v hv oM;obtain⟨y,g1,g2,_,g3⟩:=h'.at_ v hv oM;have e1:=h3 y g2;have e2:=g3 x h2;rw[h1,g1,show x=y by omega]
 ·rw[BY (by rw[h.len];omega),BY (by rw[h'.len];omega)]
theorem cN (g:Nat→Ed) (S:Nat→Prop) (N:Nat) (w:Int):∃lab,En g S N w lab:=by
 have aa:∀v:Nat,∃m,m≤v∧Cn g S v m∧∀k,k<m→¬Cn g S v k:=fun v=>Wv (p:=fun m=>Cn g S v m) (n:=v) (.refl _);have ab:∃f:Nat→Nat,∀v,f v≤v∧Cn g S v (f v)∧∀k,k<f v→¬Cn g S v k:=⟨fun v=>Classical.choose (aa v),fun v=>Classical.choose_spec (aa v)⟩
 obtain⟨f,hf⟩:=ab;refine⟨(BE N).map fun (v:Nat)=>if(v:Int)=w then-1 else(f v:Int),⟨by simp,fun v hv hw=>?_,fun v hv hw=>?_⟩⟩
 ·obtain⟨h1,h2,h3⟩:=hf v;refine⟨f v,?_,h2,h1,fun u hu=>BX fun hn=>h3 u oM hu⟩;rw[BM,CO hv];simp[hw]
 ·rw[BM,CO hv];simp[hw]
theorem ap_ex (N:Nat) (es:List IE):∃ls,Pg N es ls:=by
 have aa:∃f:Nat→List Int,∀v:Nat,En (gE es) (Fa es [] v) N v (f v):=⟨fun v=>Classical.choose (cN (gE es) (Fa es [] v) N v),fun v=>Classical.choose_spec (cN (gE es) (Fa es [] v) N v)⟩
 obtain⟨f,hf⟩:=aa;refine⟨(BE N).map f,⟨by simp,fun v l hl=>?_⟩⟩;rw[BM] at hl;by_cases hv:v<N
 ·rw[CO hv] at hl;simp only[Option.map_some,BG] at hl;subst hl;exact hf v
 ·rw[BY oA16] at hl;simp at hl
section
variable {N:Nat} {es:List IE} {ls:List (List Int)} {lab:List Int} {fl:List Bool} {r b:List T5} {tl:List (Nat×Fo)} {l o:List T5}
theorem prs_ok (X:BcX N es ls lab fl r b tl l) (hL:Jd N es fl l o):Ic N (Ks l (Ba (edT es) fl) (edT es) o):=by show Ic N (jnF 0 (prB es fl l o));obtain⟨h1,h2⟩:=cM (prB es fl l o) 0;refine⟨fun t ht=>?_,h1.imp fun h=>by omega⟩;obtain⟨s,hs,e1,e2⟩:=mW ht;obtain⟨u,v,hu,hv,_,rfl⟩:=mX X hL hs;have:=h2 t ht;have aa:=X.tab.bnd hu;have ab:=X.tab.bnd hv;dsimp only at e1 e2;unfold Fq;omega
theorem CT (es:List IE) (fl:List Bool) (l o:List T5) {lab2:List Int} (h2:En (gE (peB es fl l o)) (fun i=>i<(peB es fl l o).length) N (-1) lab2) {x y:List T5} (h:My N (Ks l (Ba (edT es) fl) (edT es) o) x y):x=Ay lab2:=by
 obtain⟨sl,gl,lb,h3,h4,h5,_,rfl,_⟩:=h;have h3:sl.Perm (jnF 0 (prB es fl l o)):=h3;have h6:sl=jnF 0 (prB es fl l o):=by
  obtain⟨h7,_⟩:=cM (prB es fl l o) 0;have h8:sl.Pairwise fun a c=>a.c0≠c.c0:=(h3.pairwise_iff (R:=fun a c:T5=>a.c0≠c.c0) (fun hh=>fun e=>hh e.symm)).2 (h7.imp fun h=>by omega);have h9:sl.Pairwise fun a c=>a.c0<c.c0:=(h4.and h8).imp fun {a c} ⟨h,g⟩=>by omega
  exact mP h9 h7 fun z=>h3.mem_iff
 subst h6;rw[mV,Sv] at h5;have h7:(prB es fl l o).length=(peB es fl l o).length:=by unfold peB;rw[AR]
 rw[h7] at h5;rw[h5.uniq h2]
theorem cO (hT:Am N es lab b tl l) (es':List IE) (fl:List Bool) (o:List T5):(Ks l (Ba (edT es') fl) (edT es') o).length≤es'.length+N:=by have h1:=bQ (Ip l (Ba (edT es') fl) (edT es')) (upF l);have h2:=jF l (Ba (edT es') fl) (edT es');have h3:=bS (upF l) o;have h4:=bR (upF l) o;have h5:=Xe l;have h6:=hT.len;rw[Jy] at h2;unfold Ks;rw[Sv,AH];omega
end
theorem EI (N:Nat) (es:List IE) (lab:List Int) (fl:List Bool) (r b:List T5) (tl:List (Nat×Fo)) (l:List T5) (hP:Aq N es lab fl r b) (hf:∀e∈es,inE N e) (h:Am N es lab b tl l) (hN:N≤1000) (pa:Option Addr) (ai:Nat) (ca:Aa) (be:RV pa N (Ay lab) ca) (pb:Option Addr) (m ah:Nat) (cb:Aa) (aw:RV pb m b cb) (hm:m≤1000000):Ct AC 45 [.slice pa N ai,.slice pb m ah] [ca,cb] fun v H'=>∃bo,v= .slice (some ⟨bo,0,none⟩) N N∧H'=[ca,cb,[(bo,row (l.flatMap Ak) 33)]]:=by
 have b1:b.length=m:=aw.1;have b3:=h.tlo.len;refine cG func45 fun _=>?_;repeat(refine sA ?_;intros)
 rename_i bo;rw[bM];refine G.loop (X:=RtX) (fun s=>Jf N tl s) (fun s=>[(7,Z9 Z8 s.v),(6,Z9 Z8 s.n),(5,.slice (some ⟨bo,0,none⟩) N N),(0,.slice pa N ai),(1,.slice pb m ah)])
  (fun s=>[[(bo,row (s.o.flatMap Ak) 33)],ca,cb]) (fun s=>N-s.v) ⟨0,0,[],tl,BT N T5.zero⟩ ⟨AU _,rfl,by simp,fun y _=>AU _,Am.wstart N tl,rfl⟩ (body:=?_)
 rintro⟨v,n,tl1,tl2,o⟩ hs;have hv:=hs.v;have an:=hs.w.len;dsimp only at hv an⊢;by_cases ax:v<N
 ·have ay:lab[v]? =some lab[v]:=AG oM;have aj:=fun az=>hs.skip h ax ay az;have ad:=hs.root h;obtain⟨b0,off,cs,T0,fz,rfl,rfl,_,a3⟩:=(RV.rw be).pos Es oM;have q1:cs[off+v*5+1]? =some (Z9 Z8 (at5 (Ay lab) v).c1):=a3 v 1 _ _ (Dx (by rw[kA];omega)) rfl;rw[Sk ay] at q1;dsimp only at aj ad;rw[ay] at ad;generalize lab[v]=x at*;by_cases hx:x=(v:Int)
  rotate_left
  ·repeat(refine sA ?_;intros)
   refine Dn.round ⟨v+1,n,tl1,tl2,o⟩ (aj hx) oD
  obtain⟨T,t2,rfl⟩:=ad (by rw[hx]);obtain⟨a4,a0,a1⟩:=hs.tell h oM rfl;have hn:=hs.n;dsimp only at a4 a0 a1 hn;rw[←hn] at a4 a0 a1;have av:=tset o v ⟨(v:Int),-1,(n:Int),0,0⟩ oM;have a5:=Km Es o;have a6:(v+1)*5≤o.length*5:=BB _ oM;dsimp only at av;have e1:AL .i64 ((n:Int)+1)=((n+1:Nat):Int):=Ah oM;repeat(refine sA ?_;intros)
  refine G.loop (X:=RuX) (fun q=>q.i≤m∧q.n=Eu (vsT tl1++Ir (v,T)::Gj b v q.i)∧Wrt N (Ew tl) q.n q.o)
   (fun q=>[(8,Z9 Z8 q.i),(7,Z9 Z8 v),(6,Z9 Z8 q.n),(5,.slice (some ⟨bo,0,none⟩) N N),(0,.slice (some ⟨b0,off,none⟩) N ai),(1,.slice pb m ah)])
   (fun q=>[[(bo,row (q.o.flatMap Ak) 33)],[(b0,An cs T0 fz)],cb]) (fun q=>m-q.i) ⟨0,n+1,o.set v ⟨(v:Int),-1,(n:Int),0,0⟩⟩ ⟨AU _,a0.symm,a1⟩ (body:=?_)
  rintro⟨i,n2,o2⟩ ⟨hi,ak,ae⟩;dsimp only at hi ak ae⊢;have bi:=ae.len;by_cases ac:i<m
  ·have al:b[i]? =some (at5 b i):=Dx oM;have hMe:=xK pb m ah b cb aw hm i ac;have aa:=fun ao=>hs.tell2 hP hf h oM rfl al ao;have a7:=fun az=>xL (x:=v) al az;obtain⟨b2,am,aq,T2,b4,rfl,rfl,_,ag⟩:=(RV.rw aw).pos Es oM;have r1:aq[am+i*5+1]? =some (Z9 Z8 (at5 b i).c1):=ag i 1 _ _ al rfl;have r2:aq[am+i*5+2]? =some (Z9 Z8 (at5 b i).c2):=ag i 2 _ _ al rfl;have r3:aq[am+i*5+3]? =some (Z9 Z8 (at5 b i).c3):=ag i 3 _ _ al rfl;dsimp only at aa;rw[←ak] at aa;by_cases ao:(at5 b i).c3=(v:Int)
   ·replace aa:=aa ao;generalize (at5 b i).c1=z1 at*;generalize (at5 b i).c2=z2 at*;generalize (at5 b i).c3=z3 at*;rcases aa with⟨h1,h2⟩|⟨h1,h2,h3,h4,h5⟩
    ·cases hmb:Ko b i with
     |true=>
      rw[hmb] at hMe;repeat(refine sA ?_;intros)
      refine Dn.round ⟨i+1,n2,o2⟩ ⟨ac,h2.symm,ae⟩ oD
     |false=>
      rw[hmb] at hMe h1;have h6:z2=(v:Int):=by simpa using h1
      repeat(refine sA ?_;intros)
      refine Dn.round ⟨i+1,n2,o2⟩ ⟨ac,h2.symm,ae⟩ oD
    ·rw[h1] at hMe;obtain⟨to,fr,d,g1,g2,rfl,rfl,g5,g6,g7,g8⟩:=h5 o2 ae;have a2:=tset o2 to ⟨(to:Int),(fr:Int),(n2:Int),0,d+1⟩ oM;have bk:=Km Es o2;have bp:(to+1)*5≤o2.length*5:=BB _ oM;have bf:(o2.flatMap Ak)[fr*5+4]? =some (Z9 Z8 (at5 o2 fr).c4):=Qp (Dx oM) rfl;rw[g5] at bf;dsimp only at a2;have e2:AL .i64 ((n2:Int)+1)=((n2+1:Nat):Int):=Ah oM;have e3:AL .i64 (d+1)=d+1:=Ah oM;repeat(refine sA ?_;intros)
     refine Dn.round ⟨i+1,n2+1,o2.set to ⟨(to:Int),(fr:Int),(n2:Int),0,d+1⟩⟩ ⟨ac,h3.symm,g8⟩ oD
   ·have h6:=a7 ao;generalize (at5 b i).c1=z1 at*;generalize (at5 b i).c2=z2 at*;generalize (at5 b i).c3=z3 at*;repeat(refine sA ?_;intros)
    refine Dn.round ⟨i+1,n2,o2⟩ ⟨ac,by rw[h6];exact ak,ae⟩ oD
  ·obtain rfl:i=m:=by omega
   have hd:=hs.done h ax rfl (o:=o2) (m:=i) oM (by rw[←ak];exact ae);dsimp only at hd;rw[←ak] at hd;repeat(refine sA ?_;intros)
   refine Dn.round ⟨v+1,n2,tl1++[(v,T)],t2,o2⟩ hd oD
 obtain rfl:v=N:=by omega
 obtain rfl:=hs.end_ h oM rfl;clear hs an ax;repeat(refine sA ?_;intros)
 refine G.loop (X:=RwX) (fun s=>s.u≤v∧s.dn.Perm ((BE s.u).flatMap (Am.wayF tl))) (fun s=>[(11,Z9 Z8 s.u),(5,.slice (some ⟨bo,0,none⟩) v v)])
  (fun s=>[[(bo,row ((Am.outC v l s.dn).flatMap Ak) 33)],ca,cb]) (fun s=>v-s.u) ⟨0,[]⟩ ⟨AU _,.refl _⟩ (body:=?_)
 rintro⟨u,dn⟩ ⟨hu,au⟩;dsimp only at hu au⊢;by_cases a8:u<v;rotate_left
 ·obtain rfl:u=v:=by omega
  rw[h.outC_end au];repeat(refine sA ?_;intros)
  (refine dP [ca,cb,[(bo,row (l.flatMap Ak) 33)]] ?_;exact⟨bo,rfl,rfl⟩)
 obtain⟨hw,bg,ab,_⟩:=h.way_is a8;have b5:=Am.flat_le (Am.wayF tl) v (u+1) fun w hw=>(h.way_is (show w<v by omega)).2.1;have bq:(u+1)*v≤1000*1000:=Nat.mul_le_mul oM oM;repeat(refine sA ?_;intros)
 refine G.loop (X:=RfX) (fun q=>Way (fun x=>(at5 l x.toNat).c1) q.k q.rest∧(∀w∈q.rest,w<(v:Int))∧(q.rest++q.dn).Perm ((BE (u+1)).flatMap (Am.wayF tl)))
  (fun q=>[(12,Z9 Z8 q.k),(11,Z9 Z8 u),(5,.slice (some ⟨bo,0,none⟩) v v)]) (fun q=>[[(bo,row ((Am.outC v l q.dn).flatMap Ak) 33)],ca,cb]) (fun q=>q.rest.length) ⟨u,Am.wayF tl u,dn⟩
  ⟨hw,ab,by
   rw[List.range_succ,List.flatMap_append];simp only[List.flatMap_cons,List.flatMap_nil,List.append_nil];exact(List.perm_append_comm).trans (au.append_right _)⟩ (body:=?_)
 clear hw ab bg au;rintro⟨k,rest,dn⟩ ⟨hw,ab,hp⟩;dsimp only at hw ab hp⊢;cases hw with
 |top bu=>
  have b6:¬0≤k:=oM;repeat(refine sA ?_;intros)
  refine Dn.round ⟨u+1,dn⟩ ⟨a8,by simpa using hp⟩ oD
 | @up _ ch bv hw=>
  have b7:=ab k AE;obtain⟨q,rfl⟩:∃q:Nat,k=(q:Int):=⟨k.toNat,oM⟩
  have hq:q<v:=oM;have a9:=hp.length_eq;have bz:=List.count_le_length (a:=(q:Int)) (l:=dn);rw[AH,AJ] at a9;have g0:=Am.outC_get (l:=l) (dn:=dn) hq;have r3:=Qp (j:=3) g0 rfl;have av:=(tset3 g0 (((dn.count (q:Int):Nat):Int)+1)).trans (congrArg (List.flatMap Ak) (Am.outC_set (l:=l) (dn:=dn) hq rfl));have g1:=Am.outC_get (l:=l) (dn:=(q:Int)::dn) hq;have r1:=Qp (j:=1) g1 rfl;have a5:=Km Es (Am.outC v l dn);have an:(Am.outC v l dn).length=v:=by unfold Am.outC;simp
  have a6:(q+1)*5≤v*5:=BB _ oM;have bh:(ch++(q:Int)::dn).Perm ((BE (u+1)).flatMap (Am.wayF tl)):=List.perm_middle.trans hp;rw[AV] at hw;rw[an] at a5;generalize b8:(Am.outC v l dn).flatMap Ak=cs at*;generalize bc:(Am.outC v l ((q:Int)::dn)).flatMap Ak=aq at*;generalize dn.count (q:Int)=cn at*;have e1:AL .i64 ((cn:Int)+1)=(cn:Int)+1:=Ah oM;generalize hz:(at5 l q).c1=z1 at*;repeat(refine sA ?_;intros)
  rw[←bc];refine Dn.round ⟨z1,ch,(q:Int)::dn⟩ ⟨hw,fun w hw=>ab w (AF _ hw),bh⟩ (by dsimp only[AJ];omega)
theorem RV.row {bo N:Nat} {l:List T5} (h:l.length=N):RV (some ⟨bo,0,none⟩) N l [(bo,row (l.flatMap Ak) 33)]:=
 Rw.rv ⟨h,.inr ⟨bo,0,l.flatMap Ak,33,(0,0),rfl,rfl,by rw[List.drop_zero,A6 (by rw[Km Es,h];exact AI _)]⟩⟩
structure OfX where
 i:Nat
 p:Option Addr
 cap:Nat
 ch:Aa
structure OfOk (N:Nat) (es:List IE) (pe:Option Addr) (ce:Aa) (pl:Option Addr) (cl:Aa) (pf:Option Addr) (nf:Nat) (cf:Aa) (pt:Option Addr) (nt:Nat) (ct:Aa) (po:Option Addr) (co:Aa) (lab:List Int) (fl:List Bool) (r b:List T5) (tl:List (Nat×Fo)) (l:List T5):Prop where
 e:RV pe es.length (edT es) ce
 la:RV pl N (Ay lab) cl
 f:RV pf nf (Ba (edT es) fl) cf
 t:RV pt nt b ct
 o:RV po N l co
 parts:Aq N es lab fl r b
 tab:Am N es lab b tl l
 lis:Nc (Ay lab) b=l
theorem Of19ct (N:Nat) (hN:N≤1000) (p:Option Addr) (m cap:Nat) (es:List IE) (c:Aa) (hv:Rw ecl 2 p m es c) (hm:m≤1000) (hf:∀e∈es,inE N e):Ct AC 18 [gv N p m cap] [c] fun v H'=>∃pe ke ce pl kl cl pf nf kf cf pt nt kt ct po ko co lab fl r b tl l,v= .agg #[.slice pe m ke,.slice pl N kl,.slice pf nf kf,.slice pt nt kt,.slice po N ko]∧H'=[c,ce,cl,cf,ct,co]∧OfOk N es pe ce pl cl pf nf cf pt nt ct po co lab fl r b tl l:=by
 have hl:=hv.1;unfold gv;refine cG func18 fun _=>?_;repeat(refine sA ?_;intros)
 rename_i b1 b2 b3;refine G.loop (X:=OfX) (fun x=>x.i≤m∧Vec 33 5 x.p x.i x.cap (flat ((edT es).take x.i)) x.ch)
  (fun x=>[(4,Z9 Z8 x.i),(3,pv b3),(2,pv b2),(1,pv b1)])
  (fun x=>[x.ch,[(b3,row [.slice x.p x.i x.cap,.slice none 0 0,.slice none 0 0,.slice none 0 0,.slice none 0 0] 30)],[(b2,row [.slice none 0 0,.slice none 0 0,.slice none 0 0,.slice none 0 0,.slice none 0 0] 30)],[(b1,row [Z9 Z8 N,.slice p m cap] 24)],c]) (fun x=>m-x.i) ⟨0,none,0,[]⟩ ⟨AU _,Vec.nil _ _⟩ oA7 oA3 ?_
 rintro⟨i,q,qc,ch⟩ ⟨hi,hV⟩;dsimp only at hi hV⊢;by_cases am:i<m
 ·obtain⟨b,off,cs,T,fz,rfl,rfl,_,ad⟩:=hv.pos Nr oM;have ah:es[i]? =some es[i]:=AG oM;have q0:=ad i 0 _ _ ah rfl;have q1:=ad i 1 _ _ ah rfl;rw[B7] at q0;have an:=wR ah;generalize es[i]=e at*;have a0:i+1≤maxLen:=by simp only[maxLen];omega
  have ao:flat ((edT es).take (i+1))=flat ((edT es).take i)++[Z9 Z8 i,Z9 Z8 e.1,Z9 Z8 e.2,Z9 Z8 0,Z9 Z8 0]:=by rw[an,flat_append];rfl
  repeat(refine sA ?_;intros)
  rename_i p' ae c' aq;have au:Vec 33 5 p' (i+1) ae (flat ((edT es).take (i+1))) c':=by rw[ao];exact aq
  refine Dn.round ⟨i+1,p',ae,c'⟩ ⟨am,au⟩ oD
 obtain rfl:i=m:=by omega
 rw[A6 (by rw[Jy];omega)] at hV;have hC:=wC N oM q i qc (edT es) ch (RV.vec hV) oM (edT_ok hf);repeat(refine sA ?_;intros)
 refine cL hC ?_;rintro _ _ ⟨pa,na,ka,ca,pf,nf,kf,cf,a,f,rfl,rfl,ab,ai,a1,aj⟩;try dsimp only[AA,AB]
 obtain⟨lab,fl,rfl,rfl,ag,av⟩:=aj.parts;have aw:na=N:=by have h1:=ab.1;have h2:=ag.len;unfold Ay at h1;rw[AR,List.length_range] at h1;omega
 subst aw;have hT:=wP pa na ka (Ay lab) ca ab pf nf kf (Ba (edT es) fl) cf ai oM oM (by
  intro t ht;obtain⟨t',ax,rfl⟩:=wS ht;obtain⟨j,e,he,rfl⟩:=Qk ax;have h1:=hf e (AY he);have h2:=(AK.1 he).1;unfold inE at h1;dsimp only;omega) (((Pd es).map _ (fun a b h=>by omega:∀a b:T5,a.c0<b.c0→a.c0≠b.c0)).sublist (Ql _ _))
 repeat(refine sA ?_;intros)
 refine cL hT ?_;rintro _ _ ⟨pt,nt,kt,ct,r,rfl,rfl,a2,ak,hA,ay⟩;try dsimp only[AA,AB]
 have ac:Aq na es lab fl r (Jx r):=⟨ag,av,hA,by rw[ay,ai.1],rfl⟩
 obtain⟨tl,_,aa⟩:=ac.tab hf oM;have az:=EI na es lab fl r _ tl _ ac hf aa oM pa ka ca ab pt nt kt ct (RV.vec ak) (by have:=ac.b_len hf oM;omega);generalize al:Nc (Ay lab) (Jx r)=l at*;repeat(refine sA ?_;intros)
 refine cL az ?_;rintro _ _ ⟨bo,rfl,rfl⟩;repeat(refine sA ?_;intros)
 (refine dP [c,ch,ca,cf,ct,[(bo,row (l.flatMap Ak) 33)]] ?_;exact⟨q,qc,ch,pa,ka,ca,pf,nf,kf,cf,pt,nt,kt,ct,_,_,_,lab,fl,r,_,tl,l,rfl,rfl,⟨by rw[hl];exact RV.vec hV,ab,ai,RV.vec ak,RV.row aa.len,ac,aa,al⟩⟩)
theorem In19ct (p0:Option Addr) (n0 k0:Nat) (p1:Option Addr) (n1 k1:Nat) (p:Option Addr) (m cap:Nat) (p3:Option Addr) (n3 k3:Nat) (p4:Option Addr) (n4 k4:Nat) (ts:List T5) (c:Aa) (hv:RV p m ts c) (hm:m≤1000000) (x:Int):CtQ AC 164 [.agg #[.slice p0 n0 k0,.slice p1 n1 k1,.slice p m cap,.slice p3 n3 k3,.slice p4 n4 k4],Z9 Z8 x] [c] (.bool (ts.any fun t=>decide (t.c0=x))):=by
 have hl:=hv.1;refine cG func164 fun _=>?_;repeat(refine sA ?_;intros)
 rename_i b2;refine G.loop (X:=Nat) (fun i=>i≤m∧(ts.take i).any (fun t=>decide (t.c0=x))=false) (fun i=>[(5,Z9 Z8 i),(2,pv b2),(1,Z9 Z8 x)])
  (fun _=>[[(b2,row [.slice p0 n0 k0,.slice p1 n1 k1,.slice p m cap,.slice p3 n3 k3,.slice p4 n4 k4] 30)],c]) (fun i=>m-i) 0 ⟨AU _,rfl⟩ (body:=?_)
 rintro i ⟨hi,aa⟩;by_cases ae:i<m
 ·obtain⟨b,off,cs,T,fz,rfl,rfl,_,ac⟩:=(RV.rw hv).pos Es oM;have ab:ts[i]? =some ts[i]:=AG oM;have q0:=ac i 0 _ _ ab rfl;rw[B7] at q0;have ag:ts.take (i+1)=ts.take i++[ts[i]]:=by rw[BP,ab];rfl
  have ad:ts[i]∈ts:=AY ab;generalize ts[i]=t at*;by_cases hx:t.c0=x
  ·have hb:(ts.any fun t=>decide (t.c0=x))=true:=by rw[List.any_eq_true];exact⟨t,ad,decide_eq_true hx⟩
   rw[hb];repeat(refine sA ?_;intros)
   (refine dP [[(b,An cs T fz)]] ?_;exact⟨rfl,rfl⟩)
  ·repeat(refine sA ?_;intros)
   refine Dn.round (i+1) ⟨ae,by rw[ag,List.any_append,aa];simp[hx]⟩ oM
 ·obtain rfl:i=m:=by omega
  rw[A6 oM] at aa;rw[aa];repeat(refine sA ?_;intros)
  (refine dP [c] ?_;exact⟨rfl,rfl⟩)
structure B9X where
 n:Nat
 v:Int
 ch:List Int
theorem EJ (p0:Option Addr) (n0 k0:Nat) (p1:Option Addr) (n1 k1:Nat) (p2:Option Addr) (n2 k2:Nat) (p3:Option Addr) (n3 k3:Nat) (p:Option Addr) (m cap:Nat) (ts:List T5) (c:Aa) (hv:RV p m ts c) (aj:0<m) (hm:m≤1000000) (u:Int) (v0:Int) (aa:List Int) (ac:Way (fun x=>(at5 ts x.toNat).c1) v0 aa) (ag:aa.length≤m) (ad:∀w∈aa,w<m) (bb:Bool) (ae:bb=decide (u∈aa)):CtQ AC 24 [.agg #[.slice p0 n0 k0,.slice p1 n1 k1,.slice p2 n2 k2,.slice p3 n3 k3,.slice p m cap],Z9 Z8 v0,Z9 Z8 u] [c] (.bool bb):=by
 subst ae;have hl:=hv.1;obtain⟨b,off,cs,T,fz,rfl,rfl,_,ab⟩:=(RV.rw hv).pos Es oM;have hg:∀j,j<m→cs[off+j*5+1]? =some (Z9 Z8 (at5 ts j).c1):=fun j hj=>ab j 1 _ _ (Dx oM) rfl;refine cG func24 fun w0=>?_;repeat(refine sA ?_;intros)
 rename_i b3;refine G.loop (X:=B9X) (fun s=>Way (fun x=>(at5 ts x.toNat).c1) s.v s.ch∧s.ch.length+s.n≤m∧(∀w∈s.ch,w<m)∧(u∈aa↔u∈s.ch))
  (fun s=>[(3,pv b3),(1,Z9 Z8 s.v),(2,Z9 Z8 u)])
  (fun _=>[[(b3,row [.slice p0 n0 k0,.slice p1 n1 k1,.slice p2 n2 k2,.slice p3 n3 k3,.slice (some ⟨b,off,none⟩) m cap] 30)],[(b,An cs T fz)]]) (fun s=>m-s.n) ⟨0,v0,aa⟩ ⟨ac,oD,ad,Iff.rfl⟩ (body:=?_)
 rintro⟨n,v,ch⟩ ⟨hw,h1,h2,h3⟩;dsimp only at hw h1 h2 h3⊢;cases hw with
 |top ah=>
  have hb:decide (u∈aa)=false:=decide_eq_false (by rw[h3];simp);have ak:¬0≤v:=oM;rw[hb];repeat(refine sA ?_;intros)
  (refine dP [[(b,An cs T fz)]] ?_;exact⟨rfl,rfl⟩)
 | @up _ ch ai hw=>
  simp only[AJ] at h1;have al:=h2 v AE;obtain⟨k,rfl⟩:∃k:Nat,v=(k:Int):=⟨v.toNat,oM⟩
  have hq:=hg k oM;rw[AV] at hw;by_cases he:(k:Int)=u
  ·have hb:decide (u∈aa)=true:=decide_eq_true (by rw[h3,he];exact AE);rw[hb];repeat(refine sA ?_;intros)
   (refine dP [[(b,An cs T fz)]] ?_;exact⟨rfl,rfl⟩)
  ·repeat(refine sA ?_;intros)
   refine Dn.round ⟨n+1,(at5 ts k).c1,ch⟩ ⟨hw,oD,fun w hw=>h2 w (AF _ hw),?_⟩ oD;rw[h3,AM];dsimp only;exact⟨fun h=>h.resolve_left fun hq=>he hq.symm,.inr⟩
end Go.Proofs.YtaofijjjheiknaaGreat
namespace Go.SL
section
variable {P:Program} {ops:Array Oper} {Q:Exit→Act→World→Prop} {cls:Nat→Oper→Cls} {w0:World} {S:List Nat} {n:Nat} {l:List (Nat×Oper)} {L:Bb} {D:List Deferred} {H:Hp} {qs:List Rd} {k d T yT:Nat} {x y z:Operand} {ty:TypeId} {pos:String} {af:Array Edge} {g:Option (Nat×Bool)}
theorem R.max3 {aT:Array TypeId} {ka kb kc:IntKind} {a b c:Int} (hx:ev L x=some (.int ka a)) (hy:ev L y=some (.int kb b)) (hz:ev L z=some (.int kc c)) (hc:cls k ⟨some d,.call ⟨.builtin .max,#[x,y,z],aT⟩,ty,pos,af,g⟩= .pure) (hn:d<n) (h:R P ops Q cls w0 S n l ((d,.int ka (Max.max (Max.max a b) c))::L) D H qs):R1 P ops Q cls w0 S n k ⟨some d,.call ⟨.builtin .max,#[x,y,z],aT⟩,ty,pos,af,g⟩ l L D H qs:=
 R1.pureStep hc rfl hn (fun a hf w=>by simp[execOp,resolve,Go.invoke,Go.builtin,hf.eval hx,hf.eval hy,hf.eval hz,Builtin.max_,Builtin.max2];omega) h
theorem R.min3 {aT:Array TypeId} {ka kb kc:IntKind} {a b c:Int} (hx:ev L x=some (.int ka a)) (hy:ev L y=some (.int kb b)) (hz:ev L z=some (.int kc c)) (hc:cls k ⟨some d,.call ⟨.builtin .min,#[x,y,z],aT⟩,ty,pos,af,g⟩= .pure) (hn:d<n) (h:R P ops Q cls w0 S n l ((d,.int ka (Min.min (Min.min a b) c))::L) D H qs):R1 P ops Q cls w0 S n k ⟨some d,.call ⟨.builtin .min,#[x,y,z],aT⟩,ty,pos,af,g⟩ l L D H qs:=
 R1.pureStep hc rfl hn (fun a hf w=>by simp[execOp,resolve,Go.invoke,Go.builtin,hf.eval hx,hf.eval hy,hf.eval hz,Builtin.min_,Builtin.min2];omega) h
end
end Go.SL
namespace Go.Proofs.YtaofijjjheiknaaGreat
open Go.SL Go.Tup Go.Gr Go.Srt
def Qy (es:List IE) (fl:List Bool) (i u w:Nat):Prop:=∃e,es[i]? =some e∧fl[i]? =some false∧((e.1=(u:Int)∧e.2=(w:Int))∨(e.1=(w:Int)∧e.2=(u:Int)))
theorem Adj.i {es:List IE} {fl:List Bool} {u w:Nat} (h:Adj es fl u w):∃i,i<es.length∧Qy es fl i u w:=by obtain⟨i,e,h1,h2,h3⟩:=h;exact⟨i,(AK.1 h1).1,e,h1,h2,h3⟩
section
variable {N:Nat} {es:List IE} {fl:List Bool} {l:List T5}
structure Gq (N:Nat) (es:List IE) (fl:List Bool) (l:List T5) (u v i:Nat) (x:Int):Prop where
 out:Out N es fl l u x
 own:x≤(at5 l u).c2
 le:∀v' j w,w<N→Sub l u v'→Qy es fl j v' w→(v'<v∨(v'=v∧j<i))→x≤(at5 l w).c2
structure Fv (N:Nat) (es:List IE) (fl:List Bool) (l:List T5) (u v i q:Nat) (x:Int):Prop where
 out:Out N es fl l u x
 own:∀v',v'<N→Sub l u v'→v'<q→(at5 l v').c2≤x
 le:∀v' j w,w<N→Sub l u v'→Qy es fl j v' w→(v'<v∨(v'=v∧j<i))→(at5 l w).c2≤x
theorem Gq.start {u:Nat} (hu:u<N) (h:1≤(at5 l u).c3):Gq N es fl l u 0 0 (at5 l u).c2:=⟨⟨u,hu,Sub.refl h,.inl rfl⟩,Int.le_refl _,fun _ _ _ _ _ _ h=>by omega⟩
theorem Fv.start {u:Nat} (hu:u<N) (h:1≤(at5 l u).c3):Fv N es fl l u 0 0 0 (at5 l u).c2:=⟨⟨u,hu,Sub.refl h,.inl rfl⟩,fun _ _ _ h=>by omega,fun _ _ _ _ _ _ h=>by omega⟩
theorem Gq.pass {u v:Nat} {x:Int} (h:Gq N es fl l u v 0 x) (hn:¬Sub l u v):Gq N es fl l u (v+1) 0 x:=
 ⟨h.out,h.own,fun v' j w hw hs ha hc=>h.le v' j w hw hs ha (by
  have:v'≠v:=fun he=>hn (he▸hs);omega)⟩
theorem Fv.pass {u v:Nat} {x:Int} (h:Fv N es fl l u v 0 v x) (hn:¬Sub l u v):Fv N es fl l u (v+1) 0 (v+1) x:=
 ⟨h.out,fun v' hv hs hc=>h.own v' hv hs (by
  have:v'≠v:=fun he=>hn (he▸hs);omega),fun v' j w hw hs ha hc=>h.le v' j w hw hs ha (by
  have:v'≠v:=fun he=>hn (he▸hs);omega)⟩
theorem Fv.at_ {u v:Nat} {x:Int} (h:Fv N es fl l u v 0 v x) (hv:v<N) (hs:Sub l u v):Fv N es fl l u v 0 (v+1) (max x (at5 l v).c2):=by
 refine⟨?_,fun v' ab aa hc=>?_,fun v' j w hw aa ha hc=>?_⟩
 ·by_cases hx:x≤(at5 l v).c2
  ·rw[show max x (at5 l v).c2=(at5 l v).c2 by omega];exact⟨v,hv,hs,.inl rfl⟩
  ·rw[show max x (at5 l v).c2=x by omega];exact h.out
 ·by_cases he:v'=v
  ·subst he;omega
  ·have:=h.own v' ab aa oM;omega
 ·have:=h.le v' j w hw aa ha hc;omega
theorem Gq.skip {u v i:Nat} {x:Int} (h:Gq N es fl l u v i x) (hn:∀w,w<N→¬Qy es fl i v w):Gq N es fl l u v (i+1) x:=
 ⟨h.out,h.own,fun v' j w hw hs ha hc=>h.le v' j w hw hs ha (by
  have:¬(v'=v∧j=i):=fun he=>hn w hw (he.1▸he.2▸ha);omega)⟩
theorem Fv.skip {u v i q:Nat} {x:Int} (h:Fv N es fl l u v i q x) (hn:∀w,w<N→¬Qy es fl i v w):Fv N es fl l u v (i+1) q x:=
 ⟨h.out,h.own,fun v' j w hw hs ha hc=>h.le v' j w hw hs ha (by
  have:¬(v'=v∧j=i):=fun he=>hn w hw (he.1▸he.2▸ha);omega)⟩
theorem mZ {u v a c i:Nat} {e:IE} (hv:v<N) (hs:Sub l u v) (ha:a<N) (hc:c<N) (h1:es[i]? =some ((a:Int),(c:Int))) (h2:fl[i]? =some false) (h3:a=v∨c=v):Out N es fl l u (at5 l a).c2∧Out N es fl l u (at5 l c).c2:=by
 rcases h3 with rfl|rfl
 ·exact⟨⟨a,hv,hs,.inl rfl⟩,⟨a,hv,hs,.inr ⟨c,hc,⟨i,_,h1,h2,.inl ⟨rfl,rfl⟩⟩,rfl⟩⟩⟩
 ·exact⟨⟨c,hv,hs,.inr ⟨a,ha,⟨i,_,h1,h2,.inr ⟨rfl,rfl⟩⟩,rfl⟩⟩,⟨c,hv,hs,.inl rfl⟩⟩
theorem Gq.edge {u v i a c:Nat} {x:Int} (h:Gq N es fl l u v i x) (hv:v<N) (hs:Sub l u v) (ha:a<N) (hc:c<N) (h1:es[i]? =some ((a:Int),(c:Int))) (h2:fl[i]? =some false) (h3:a=v∨c=v):Gq N es fl l u v (i+1) (min (min x (at5 l a).c2) (at5 l c).c2):=by
 obtain⟨o1,o2⟩:=mZ (e:=(0,0)) hv hs ha hc h1 h2 h3;refine⟨?_,by have:=h.own;omega,fun v' j w hw aa hj hq=>?_⟩
 ·by_cases hx:x≤(at5 l a).c2∧x≤(at5 l c).c2
  ·rw[show min (min x (at5 l a).c2) (at5 l c).c2=x by omega];exact h.out
  ·by_cases hy:(at5 l a).c2≤(at5 l c).c2
   ·rw[show min (min x (at5 l a).c2) (at5 l c).c2=(at5 l a).c2 by omega];exact o1
   ·rw[show min (min x (at5 l a).c2) (at5 l c).c2=(at5 l c).c2 by omega];exact o2
 ·by_cases ab:v'=v∧j=i
  ·obtain⟨rfl,rfl⟩:=ab;obtain⟨e,g1,_,g3⟩:=hj;rw[h1] at g1;obtain rfl:=BC g1;dsimp only at g3;rcases g3 with⟨g4,g5⟩|⟨g4,g5⟩
   ·obtain rfl:c=w:=by omega
    omega
   ·obtain rfl:a=w:=by omega
    omega
  ·have:=h.le v' j w hw aa hj oM;omega
theorem Fv.edge {u v i a c q:Nat} {x:Int} (h:Fv N es fl l u v i q x) (hv:v<N) (hs:Sub l u v) (ha:a<N) (hc:c<N) (h1:es[i]? =some ((a:Int),(c:Int))) (h2:fl[i]? =some false) (h3:a=v∨c=v):Fv N es fl l u v (i+1) q (max (max x (at5 l a).c2) (at5 l c).c2):=by
 obtain⟨o1,o2⟩:=mZ (e:=(0,0)) hv hs ha hc h1 h2 h3;refine⟨?_,fun v' ab aa hq=>by have:=h.own v' ab aa hq;omega,fun v' j w hw aa hj hq=>?_⟩
 ·by_cases hx:(at5 l a).c2≤x∧(at5 l c).c2≤x
  ·rw[show max (max x (at5 l a).c2) (at5 l c).c2=x by omega];exact h.out
  ·by_cases hy:(at5 l c).c2≤(at5 l a).c2
   ·rw[show max (max x (at5 l a).c2) (at5 l c).c2=(at5 l a).c2 by omega];exact o1
   ·rw[show max (max x (at5 l a).c2) (at5 l c).c2=(at5 l c).c2 by omega];exact o2
 ·by_cases ac:v'=v∧j=i
  ·obtain⟨rfl,rfl⟩:=ac;obtain⟨e,g1,_,g3⟩:=hj;rw[h1] at g1;obtain rfl:=BC g1;dsimp only at g3;rcases g3 with⟨g4,g5⟩|⟨g4,g5⟩
   ·obtain rfl:c=w:=by omega
    omega
   ·obtain rfl:a=w:=by omega
    omega
  ·have:=h.le v' j w hw aa hj oM;omega
theorem Gq.next {u v:Nat} {x:Int} (h:Gq N es fl l u v es.length x):Gq N es fl l u (v+1) 0 x:=
 ⟨h.out,h.own,fun v' j w hw hs ha hc=>h.le v' j w hw hs ha (by
  obtain⟨e,h1,_⟩:=id ha;have:=(AK.1 h1).1;omega)⟩
theorem Fv.next {u v q:Nat} {x:Int} (h:Fv N es fl l u v es.length q x):Fv N es fl l u (v+1) 0 q x:=
 ⟨h.out,h.own,fun v' j w hw hs ha hc=>h.le v' j w hw hs ha (by
  obtain⟨e,h1,_⟩:=id ha;have:=(AK.1 h1).1;omega)⟩
theorem Gq.done {u:Nat} {x:Int} (h:Gq N es fl l u N 0 x):Sr N es fl l u x:=by
 refine⟨h.out,?_⟩;rintro y ⟨v,hv,hs,rfl|⟨w,hw,ha,rfl⟩⟩
 ·have:=h.own;have:=hs.1;omega
 ·obtain⟨i,_,hi⟩:=ha.i;exact h.le v i w hw hs hi (.inl hv)
theorem Fv.done {u:Nat} {x:Int} (h:Fv N es fl l u N 0 N x):Ss N es fl l u x:=by
 refine⟨h.out,?_⟩;rintro y ⟨v,hv,hs,rfl|⟨w,hw,ha,rfl⟩⟩
 ·exact h.own v hv hs hv
 ·obtain⟨i,_,hi⟩:=ha.i;exact h.le v i w hw hs hi (.inl hv)
structure Xp (N:Nat) (es:List IE) (fl:List Bool) (l o:List T5) (k:Nat):Prop where
 len:o.length=N
 at_:∀v,v<k→∃lo hi,o[(at5 l v).c2.toNat]? =some ⟨(at5 l v).c2,lo,hi,0,0⟩∧Sr N es fl l v lo∧Ss N es fl l v hi
end
theorem Xp.put {N:Nat} {es:List IE} {lab:List Int} {b:List T5} {tl:List (Nat×Fo)} {fl:List Bool} {l o:List T5} (hT:Am N es lab b tl l) {u:Nat} (h:Xp N es fl l o u) (hu:u<N) {lo hi:Int} (h1:Sr N es fl l u lo) (h2:Ss N es fl l u hi):Xp N es fl l (o.set (at5 l u).c2.toNat ⟨(at5 l u).c2,lo,hi,0,0⟩) (u+1):=by
 have hb:=hT.bnd hu;refine⟨by rw[List.length_set];exact h.len,fun v hv=>?_⟩;by_cases he:v=u
 ·subst he;exact⟨lo,hi,by rw[List.getElem?_set_self (by rw[h.len];omega)],h1,h2⟩
 ·have ab:=hT.bnd (v:=v) oM;have aa:(at5 l u).c2.toNat≠(at5 l v).c2.toNat:=fun hq=>he (hT.num_inj oM hu oM);rw[List.getElem?_set_ne aa];exact h.at_ v oM
structure LuX where
 u:Nat
 o:List T5
structure LvX where
 v:Nat
 lo:Int
 hi:Int
theorem EO {es:List IE} {fl:List Bool} {i:Nat} {bb:Bool} (hi:i<es.length) (hb:fl[i]? =some bb):((Ba (edT es) fl).any fun t=>decide (t.c0=(i:Int)))=bb:=by
 cases bb with
 |true=>
  rw[List.any_eq_true];exact⟨_,Ud.2 ⟨i,es[i],AG hi,hb,rfl⟩,decide_eq_true rfl⟩
 |false=>
  rw[List.any_eq_false];intro t ht;obtain⟨j,e,_,h2,rfl⟩:=Ud.1 ht;dsimp only;rw[decide_eq_true_iff];intro hc;obtain rfl:j=i:=by omega
  rw[hb] at h2;cases h2
theorem EP (N:Nat) (hN:N≤1000) (es:List IE) (hm:es.length≤1000) (hf:∀e∈es,inE N e) (pe:Option Addr) (ke:Nat) (ce:Aa) (pl:Option Addr) (nl kl:Nat) (pf:Option Addr) (nf kf:Nat) (cf:Aa) (pt:Option Addr) (nt kt:Nat) (po:Option Addr) (ko:Nat) (cr:Aa) {lab:List Int} {fl:List Bool} {r b:List T5} {tl:List (Nat×Fo)} {l:List T5} (a5:RV pe es.length (edT es) ce) (ax:RV pf nf (Ba (edT es) fl) cf) (aw:RV po N l cr) (hP:Aq N es lab fl r b) (hT:Am N es lab b tl l):Ct AC 94 [.agg #[.slice pe es.length ke,.slice pl nl kl,.slice pf nf kf,.slice pt nt kt,.slice po N ko]] [ce,cf,cr] fun v H'=>∃bx o,v= .slice (some ⟨bx,0,none⟩) N N∧H'=[ce,cf,cr,[(bx,row (o.flatMap Ak) 33)]]∧Jd N es fl l o:=by
 have bh:fl.length=es.length:=hP.fors.1;have bi:=ax.1;have ay:=wT (edT es) fl;rw[Jy] at ay;generalize a6:es.length=m at*;refine cG func94 fun _=>?_;repeat(refine sA ?_;intros)
 rename_i b1 bx;rw[bM];refine G.loop (X:=LuX) (fun s=>s.u≤N∧Xp N es fl l s.o s.u) (fun s=>[(4,Z9 Z8 s.u),(3,.slice (some ⟨bx,0,none⟩) N N),(1,pv b1)])
  (fun s=>[[(bx,row (s.o.flatMap Ak) 33)],[(b1,row [.slice pe m ke,.slice pl nl kl,.slice pf nf kf,.slice pt nt kt,.slice po N ko] 30)],ce,cf,cr]) (fun s=>N-s.u) ⟨0,BT N T5.zero⟩ ⟨AU _,by simp,fun v hv=>by dsimp only at hv;omega⟩ (body:=?_)
 rintro⟨u,o⟩ ⟨hu,hs⟩;dsimp only at hu hs⊢;by_cases ae:u<N;rotate_left
 ·obtain rfl:u=N:=by omega
  repeat(refine sA ?_;intros)
  (refine dP [ce,cf,cr,[(bx,row (o.flatMap Ak) 33)]] ?_;exact⟨bx,o,rfl,rfl,hs.len,hs.at_⟩)
 have az:=hT.bnd ae;obtain⟨b0,off,cs,T0,fz,rfl,rfl,_,a0⟩:=(RV.rw aw).pos Es oM;have bk:=hT.len;have ak:∀v,v<N→cs[off+v*5+2]? =some (Z9 Z8 (at5 l v).c2):=fun v hv=>a0 v 2 _ _ (Dx oM) rfl;have qu:=ak u ae;repeat(refine sA ?_;intros)
 refine G.loop (X:=LvX) (fun s=>s.v≤N∧Gq N es fl l u s.v 0 s.lo∧Fv N es fl l u s.v 0 s.v s.hi) (fun s=>[(8,Z9 Z8 s.v),(7,Z9 Z8 s.hi),(6,Z9 Z8 s.lo),(5,Z9 Z8 (at5 l u).c2),(4,Z9 Z8 u),(3,.slice (some ⟨bx,0,none⟩) N N),(1,pv b1)])
  (fun _=>[[(bx,row (o.flatMap Ak) 33)],[(b1,row [.slice pe m ke,.slice pl nl kl,.slice pf nf kf,.slice pt nt kt,.slice (some ⟨b0,off,none⟩) N ko] 30)],ce,cf,[(b0,An cs T0 fz)]]) (fun s=>N-s.v) ⟨0,(at5 l u).c2,(at5 l u).c2⟩ ⟨AU _,Gq.start ae az.2.2.1,Fv.start ae az.2.2.1⟩ (body:=?_)
 rintro⟨v,lo,hi⟩ ⟨hv,al,am⟩;dsimp only at hv al am⊢;by_cases ad:v<N;rotate_left
 ·obtain rfl:v=N:=by omega
  have ag:=hs.put hT ae al.done am.done;obtain⟨n,hn⟩:∃n:Nat,(at5 l u).c2=(n:Int):=⟨(at5 l u).c2.toNat,oM⟩
  rw[show(at5 l u).c2.toNat=n by omega] at ag;have ao:=tset o n ⟨(at5 l u).c2,lo,hi,0,0⟩ (by rw[hs.len];omega);have a1:=Km Es o;have bp:=hs.len;have bf:(n+1)*5≤o.length*5:=BB _ oM;dsimp only at ao;rw[hn] at ao ag⊢;repeat(refine sA ?_;intros)
  refine Dn.round ⟨u+1,o.set n ⟨(n:Int),lo,hi,0,0⟩⟩ ⟨ae,ag⟩ oD
 obtain⟨ch,hw,a1,a7,a2⟩:=hT.below ad;have hBe:=EJ pe m ke pl nl kl pf nf kf pt nt kt (some ⟨b0,off,none⟩) N ko l [(b0,An cs T0 fz)] aw oM oM (u:Int) (v:Int) ch hw a1 a7;by_cases aa:Sub l u v;rotate_left
 ·have hBe:=hBe false (decide_eq_false fun h=>aa ((a2 u ae).1 h)).symm;repeat(refine sA ?_;intros)
  refine Dn.round ⟨v+1,lo,hi⟩ ⟨ad,al.pass aa,am.pass aa⟩ oD
 have hBe:=hBe true (decide_eq_true ((a2 u ae).2 aa)).symm;have qv:=ak v ad;repeat(refine sA ?_;intros)
 refine G.loop (X:=LvX) (fun s=>s.v≤m∧Gq N es fl l u v s.v s.lo∧Fv N es fl l u v s.v (v+1) s.hi) (fun s=>[(9,Z9 Z8 s.v),(8,Z9 Z8 v),(7,Z9 Z8 s.hi),(6,Z9 Z8 s.lo),(5,Z9 Z8 (at5 l u).c2),(4,Z9 Z8 u),(3,.slice (some ⟨bx,0,none⟩) N N),(1,pv b1)])
  (fun _=>[[(bx,row (o.flatMap Ak) 33)],[(b1,row [.slice pe m ke,.slice pl nl kl,.slice pf nf kf,.slice pt nt kt,.slice (some ⟨b0,off,none⟩) N ko] 30)],ce,cf,[(b0,An cs T0 fz)]]) (fun s=>m-s.v) ⟨0,lo,max hi (at5 l v).c2⟩ ⟨AU _,al,am.at_ ad aa⟩ (body:=?_)
 rintro⟨i,au,av⟩ ⟨a8,ab,ac⟩;dsimp only at a8 ab ac⊢;by_cases an:i<m;rotate_left
 ·obtain rfl:i=m:=by omega
  rw[←a6] at ab ac;repeat(refine sA ?_;intros)
  refine Dn.round ⟨v+1,au,av⟩ ⟨ad,ab.next,ac.next⟩ oD
 have ah:es[i]? =some es[i]:=AG oM;have aq:=hf _ (B6 (l:=es) (n:=i) oM);have ai:fl[i]? =some fl[i]:=AG oM;have hIn:=In19ct pe m ke pl nl kl pf nf kf pt nt kt (some ⟨b0,off,none⟩) N ko _ cf ax oM (i:Int);rw[EO oM ai] at hIn;obtain⟨be,a9,bc,Te,bq,rfl,rfl,a3,bu⟩:=(RV.rw a5).pos Es oM;have a4:=a3 i _ (Ma ah);generalize fl[i]=fi at*;generalize es[i]=e at*;obtain⟨e1,e2⟩:=e;unfold inE at aq;dsimp only at aq a4;obtain⟨a,rfl⟩:∃a:Nat,e1=(a:Int):=⟨e1.toNat,oM⟩
 obtain⟨c,rfl⟩:∃c:Nat,e2=(c:Int):=⟨e2.toNat,oM⟩
 have qa:=ak a oM;have qc:=ak c oM;have bg:(bc.drop (a9+i*5)).take 5=[Z9 Z8 i,Z9 Z8 a,Z9 Z8 c,Z9 Z8 0,Z9 Z8 0]:=a4;cases fi with
 |true=>
  have aj:∀w,w<N→¬Qy es fl i v w:=by rintro w _ ⟨_,_,h2,_⟩;rw[ai] at h2;cases h2
  repeat(refine sA ?_;intros)
  refine Dn.round ⟨i+1,au,av⟩ ⟨an,ab.skip aj,ac.skip aj⟩ oD
 |false=>
 by_cases bv:(a:Int)=(v:Int)
 ·have h3:a=v∨c=v:= .inl oM;repeat(refine sA ?_;intros)
  refine R.min3 (hx:=rfl) (hy:=rfl) (hz:=rfl) (hc:=rfl) (hn:=nle rfl) (h:=?_);repeat(refine sA ?_;intros)
  refine R.max3 (hx:=rfl) (hy:=rfl) (hz:=rfl) (hc:=rfl) (hn:=nle rfl) (h:=?_);repeat(refine sA ?_;intros)
  refine Dn.round ⟨i+1,_,_⟩ ⟨an,ab.edge ad aa oM oM ah ai h3,ac.edge ad aa oM oM ah ai h3⟩ oD
 by_cases bz:(c:Int)=(v:Int)
 ·have h3:a=v∨c=v:= .inr oM;repeat(refine sA ?_;intros)
  refine R.min3 (hx:=rfl) (hy:=rfl) (hz:=rfl) (hc:=rfl) (hn:=nle rfl) (h:=?_);repeat(refine sA ?_;intros)
  refine R.max3 (hx:=rfl) (hy:=rfl) (hz:=rfl) (hc:=rfl) (hn:=nle rfl) (h:=?_);repeat(refine sA ?_;intros)
  refine Dn.round ⟨i+1,_,_⟩ ⟨an,ab.edge ad aa oM oM ah ai h3,ac.edge ad aa oM oM ah ai h3⟩ oD
 have aj:∀w,w<N→¬Qy es fl i v w:=by rintro w _ ⟨e,h1,_,h4⟩;rw[ah] at h1;obtain rfl:=BC h1;dsimp only at h4;omega
 repeat(refine sA ?_;intros)
 refine Dn.round ⟨i+1,au,av⟩ ⟨an,ab.skip aj,ac.skip aj⟩ oD
open Go.Spc
theorem fl4len (f:Fl):(fl4 f).length=4:=rfl
def Gt (fs:List Fl):Nat:=(fs.map (·.blocks)).sum
theorem EQ {fs:List Fl} {i:Nat} {f:Fl} (h:fs[i]? =some f):Gt (fs.take (i+1))=Gt (fs.take i)+f.blocks:=by unfold Gt;rw[BP,h];simp
theorem nA (fs:List Fl) (i:Nat):Gt (fs.take i)≤Gt fs:=by have h:=congrArg Gt (List.take_append_drop i fs);unfold Gt at h⊢;rw[List.map_append,List.sum_append] at h;omega
theorem ER {ba:Nat} {α:Ar} {c:Aa} (h:Dw ba α c):α.peak≤α.room:=by obtain⟨c0,⟨bm,ck,_,h1⟩,_⟩:=h;omega
def Wk.flt (W:Wk) (n:Int):Wk:={W with δ:={W.δ with fault:=n}}
theorem Wc.flt {bd ba bs:Nat} {W:Wk} {cd ca cs aa:Aa} {n:Int} (h:Wc bd ba bs W cd ca cs) (hd:Dg bd {W.δ with fault:=n} aa):Wc bd ba bs (W.flt n) aa ca cs:=⟨hd,h.ar,h.sp,h.nn,h.live⟩
theorem ES {bd ba bs:Nat} {W:Wk} {cd ca cs:Aa} (h:Wc bd ba bs W cd ca cs) {fs:List Fl} (hl:W.live.Perm (Au fs [])) {N:Nat} (hn:W.σ.n=N):Bc W.σ.free+Gt fs=N:=by have h1:=tZ h hl;rw[Ts] at h1;unfold Gt;rw[show Bc []=0 from rfl] at h1;omega
theorem Xq {bd ba bs:Nat} {W:Wk} {cd ca cs:Aa} (h:Wc bd ba bs W cd ca cs) {fs:List Fl} (hl:W.live.Perm (Au fs [])) (hn:W.σ.n=9000):Bc W.σ.free+Gt fs=9000:=ES h hl hn
theorem Um {W:Wk} {k:Nat} {bd:Nat} {cd:Aa} (hd:Dg bd W.δ cd) (h1:1≤k) (h2:k≤5):Ce W (⟨0,0,k,0⟩,[]):=by obtain⟨⟨hs,_⟩,_⟩:=hd.num;have hp:=Bh hs h1 h2;refine⟨[],⟨h1,h2,rfl,AU _,?_,by simp,fun j hj=>absurd hj (Nat.not_lt_zero j),fun h=>absurd rfl h⟩,by simp⟩;show 0=(0+Ad W.δ.size k-1)/Ad W.δ.size k;rw[Nat.div_eq_of_lt oM]
end Go.Proofs.YtaofijjjheiknaaGreat
namespace Go.SL
section
variable {P:Program} {ops:Array Oper} {Q:Exit→Act→World→Prop} {cls:Nat→Oper→Cls} {w0:World} {S:List Nat} {n:Nat} {l:List (Nat×Oper)} {L:Bb} {D:List Deferred} {H:Hp} {qs:List Rd} {k d T yT:Nat} {x y:Operand} {ty:TypeId} {pos:String} {af:Array Edge} {g:Option (Nat×Bool)}
end
end Go.SL
namespace Go.Proofs.YtaofijjjheiknaaGreat
open Go.SL Go.Spc Go.Tup Go.Srt
structure Ons (n ro:Nat) (W:Wk) (fs:List Fl):Prop where
 size:W.δ.size=10
 room:W.α.room=ro
 used:W.α.used=0
 acts:W.δ.acts≤1000000000
 n:W.σ.n=n
 live:W.live.Perm (Au fs [])
theorem Ons.flt {n ro:Nat} {W:Wk} {fs:List Fl} (h:Ons n ro W fs) (x:Int):Ons n ro (W.flt x) fs:={h with}
theorem Ons.fresh (n ro:Nat):Ons n ro (wk0 10 n ro) []:=⟨rfl,rfl,rfl,AU _,rfl,.refl _⟩
theorem Ons.lay {n ro k m:Nat} {bd ba bs:Nat} {cd ca cs ac aa ab:Aa} {W W1:Wk} {f:Fl} {fs:List Fl} {ts:List T5} (h:Ons n ro W fs) (hW:Wc bd ba bs W cd ca cs) (ae:Wc bd ba bs W1 ac aa ab) (hE:Ev W W1 (Ac 10 k m) (Ac 10 k m)) (hg:W1.α.gs.Perm W.α.gs) (hl:W1.live.Perm (Az f W.live)) (ad:Be W1.δ.disk 10 [f.ext] f ts) (ha:W.δ.acts+Ac 10 k m≤1000000000):Ons n ro W1 (fs++[f])∧Ce W1 (f,ts):=by
 have h1:W1.δ.size=10:=hE.size.trans h.size;have h2:=hE.acts.2;exact⟨⟨h1,hE.room.trans h.room,(Lw hW ae hg).trans h.used,oM,hE.n.trans h.n,(hl.trans (Oq h.live)).trans (by rw[←Tq])⟩,Ce.new ad h1 hl⟩
theorem Ons.stepped {n ro A T wd:Nat} {p:Jp} {bd ba bs:Nat} {cd ca cs ae ac ad:Aa} {W W1:Wk} {x:Fl} {fs:List Fl} {ts:List T5} (h:Ons n ro W fs) (hW:Wc bd ba bs W cd ca cs) (ag:Wc bd ba bs W1 ae ac ad) (hS:Hz p W W1 A T none ts x 0) (hw:x.width=wd) (ha:W.δ.acts+A≤1000000000):Ons n ro W1 (fs++[x])∧Ce W1 (x,ts)∧x.count=ts.length∧(∀z,Ce W z→Ce W1 z):=by
 obtain⟨hl,aa⟩:W1.live.Perm (Az x W.live)∧Be W1.δ.disk W.δ.size [x.ext] x ts:=hS.res.elim (fun h=>⟨h.2.2.1,h.2.2.2⟩) (fun h=>absurd rfl h.1);have ab:W1.δ.size=10:=hS.size.trans h.size;rw[h.size] at aa;have ah:=hS.acts;refine⟨⟨ab,hS.room.trans h.room,(Lw hW ag hS.gs).trans h.used,oM,hS.n.trans h.n,(hl.trans (Oq h.live)).trans (by rw[←Tq])⟩,Ce.new aa ab hl,aa.len.symm,fun z hz=>hz.stay hS.size hS.keep (jY hl)⟩
theorem Ons.tot {n ro:Nat} {W:Wk} {fs:List Fl} (h:Ons n ro W fs):W.live.length≤fs.length∧Bc W.live=(fs.map (·.blocks)).sum:=by have h1:=h.live.length_eq;have h2:=We fs [];have h3:=(Ti h.live).trans (Ts fs []);rw[show Bc []=0 from rfl] at h3;simp only[AO] at h2;exact⟨oM,oM⟩
theorem Xr {bw bd ba bs n ro:Nat} (ah:10≤ro) {W:Wk} {cd ca cs:Aa} (hW:Wc bd ba bs W cd ca cs) {fs:List Fl} (hO:Ons n ro W fs) (hf:W.δ.fault= -1) (ag:W.δ.acts≤1000000) (k:Nat) (h1:1≤k) (h2:k≤5) {p:Option Addr} {m cap:Nat} {ts:List T5} {c:Aa} (hv:RV p m ts c) (hm:m≤10000) (ac:∀t∈ts,okT k t) (hb:m≤big W.σ.free):Ct AC 73 [pv bw,Z9 Z8 k,.slice p m cap] [Ab bw bd ba bs,cd,ca,cs,c] fun v H'=> ∃cd' ca' cs' W' f,v= .tuple #[flv f,Z9 Z8 0]∧H'=[Ab bw bd ba bs,cd',ca',cs',c]∧Wc bd ba bs W' cd' ca' cs'∧Ons n ro W' (fs++[f])∧Ce W' (f,ts)∧f.width=k∧f.count=m∧W'.δ.fault= -1∧W'.δ.acts≤W.δ.acts+m∧big W.σ.free≤big W'.σ.free+m∧(∀z,Ce W z→Ce W' z):=by
 have ai:Ac 10 k m≤m:=Dl (Bh oM h1 h2);have h:=Lay_k bw bd ba bs W cd ca cs hW k h1 h2 p m cap ts c hv oM ac (by rw[hO.size,hO.room,hO.used];omega) hf oM (by rw[hO.size];omega);refine h.mono ?_;rintro v H' ⟨cd',ca',cs',W',f,rfl,rfl,aa,hE,hK,hg,hl,ad,ae,aj,ab⟩;rw[hO.size] at hE ab;obtain⟨h3,h4⟩:=hO.lay hW aa hE hg hl ab oM;have h5:=hE.acts.2;have h6:=hE.big;exact⟨cd',ca',cs',W',f,rfl,rfl,aa,h3,h4,ad,ae,hE.fault hf,oM,oM,fun z hz=>hz.stay hE.size hK (jY hl)⟩
theorem Xt (n:Nat) (hn:n≤1000):Ct AC 28 [Z9 Z8 n] [] fun v H'=> ∃bw bd ba bs cd ca cs,v=pv bw∧H'=[Ab bw bd ba bs,cd,ca,cs]∧Wc bd ba bs (wk0 10 9000 (10*n)) cd ca cs:=by
 have ab:=wV 10 9000 oM oM;have ac:=qB (10*n) oM;have ad:=pH 9000 oM oM;have e1:AL .i64 ((10:Int)*(n:Int))=((10*n:Nat):Int):=by rw[Ah oM];omega
 refine cG func28 fun _=>?_;repeat(refine sA ?_;intros)
 refine cL ab ?_;rintro _ _ ⟨bd,cd,rfl,rfl,aa⟩;repeat(refine sA ?_;intros)
 refine cL ac ?_;rintro _ _ ⟨ba,ca,rfl,ae,rfl⟩;repeat(refine sA ?_;intros)
 refine cL ad ?_;rintro _ _ ⟨bs,cs,rfl,ag,rfl⟩;try dsimp only[AA,AB]
 have ah:=wW bd ba bs;repeat(refine sA ?_;intros)
 refine cL ah ?_;rintro _ _ ⟨bw,rfl,rfl⟩;repeat(refine sA ?_;intros)
 (refine dP [Ab bw bd ba bs,cd,ca,cs] ?_;exact⟨bw,bd,ba,bs,cd,ca,cs,rfl,rfl,wc0 oM aa ae ag⟩)
theorem cP (bw bd ba bs:Nat) (W:Wk) (ca cs:Aa) (aa:Dw ba W.α ca) (aj:Kf bs W.σ cs) (p:Option Addr) (n cap:Nat) (fs:List Fl) (c:Aa) (hv:Rw fl4 4 p n fs c) (hn:n≤100) (hu:W.α.used=0) (ht:Bc W.σ.free+Gt fs=9000):CtQ AC 37 [pv bw,.slice p n cap] [Ab bw bd ba bs,ca,cs,c] (.bool true):=by
 have hl:=hv.1;have ac:=Rj bw bd ba bs;have ad:=qF bw bd ba bs;have ab:=Ri ba W.α ca aa;have ae:=aPeak ba W.α ca aa;have ag:=aRoom ba W.α ca aa;have ah:=pK bs W.σ cs aj;have al:=ER aa;rw[hu] at ab;refine cG func37 fun _=>?_;repeat(refine sA ?_;intros)
 refine G.loop (X:=Nat) (fun i=>i≤n) (fun i=>[(6,Z9 Z8 i),(5,Z9 Z8 (Gt (fs.take i):Int)),(1,.slice p n cap),(0,pv bw)])
  (fun _=>[Ab bw bd ba bs,ca,cs,c]) (fun i=>n-i) 0 (AU _) (body:=?_)
 intro i hi;have am:=nA fs i;by_cases an:i<n
 ·obtain⟨b,off,cc,T,fz,rfl,rfl,_,ai⟩:=hv.pos fl4len oM;have hit:fs[i]? =some fs[i]:=AG oM;have q1:=ai i 1 _ _ hit rfl;have ao:=EQ hit;have ak:=nA fs (i+1);generalize fs[i]=f at*;have e1:AL .i64 ((Gt (fs.take i):Int)+(f.blocks:Int))=((Gt (fs.take (i+1)):Nat):Int):=by rw[Ah oM];omega
  repeat(refine sA ?_;intros)
  refine Dn.round (i+1) oM oM
 ·obtain rfl:i=n:=by omega
  rw[A6 oM];have e1:AL .i64 ((9000:Int)-(Gt fs:Int))=(Bc W.σ.free:Int):=by rw[Ah oM];omega
  repeat(refine sA ?_;intros)
  (refine dP [Ab bw bd ba bs,ca,cs,c] ?_;exact⟨congrArg Value.bool (Dt oM),rfl⟩)
theorem nB {n:Int} {es:List IE} (h:He n es=true):0≤n∧∀e∈es,inE n e:=by unfold He at h;rw[Bool.and_eq_true,decide_eq_true_iff,List.all_eq_true] at h;exact⟨h.1.1,fun e he=>of_decide_eq_true (h.2 e he)⟩
end Go.Proofs.YtaofijjjheiknaaGreat
