/-
  Parts of the proof, put together (11). No condition.
-/
import Derived.Test.YtaofijjjheiknaaGreatM10
set_option linter.unusedVariables false
set_option linter.unusedSimpArgs false
set_option linter.unnecessarySimpa false
set_option maxHeartbeats 4000000
open Bool renaming false_eq_true→CP
open Go.IntKind renaming wrap→AJ
open Go.Proofs.Tryz renaming prog→AC
open Int renaming toNat_natCast→AR
open List renaming cons_append→AA,nil_append→AB,getElem?_eq_getElem→AE,length_append→AF,mem_cons_self→AH,mem_cons_of_mem→AI,getElem?_eq_some_iff→AK,length_cons→AL,mem_cons→AM,getD_eq_getElem?_getD→AN,append_nil→AQ,mem_singleton→AT,mem_map→AU,flatten_cons→AW,length_map→AY,map_cons→AZ,flatten_append→A0,flatten_nil→A5,flatMap_cons→A8,pairwise_cons→BF,count_append→BK,getElem?_eq_none→BL,getElem?_map→BU,mem_filter→B0,getElem_mem→B5,not_mem_nil→B6,rel_of_pairwise_cons→CA,ext_getElem?→CH,map_nil→D7
open Nat renaming reduceAdd→AD,le_refl→AG,zero_le→AS,mul_le_mul_right→A7,le_trans→BB,mul_le_mul_left→B7,mul_le_mul→DG,add_mul→DQ
open Option.some renaming injEq→BA
namespace Go.Proofs.YtaofijjjheiknaaGreat
open Go.SL Go.Spc Go.Tup Go.Srt
theorem aWu (f:Fl) (k:Nat) (hk:k<f.width) (h5:f.width≤5):CtQ AC 167 [flv f,.int .i64 (k:Int)] [] (.bool true):=by
 have aa:flv f= .agg #[.int .i64 (f.first:Int),.int .i64 (f.blocks:Int),.int .i64 (f.width:Int),.int .i64 (f.count:Int)]:=rfl
 rw[aa]
 refine Ct.go Tryz.func167 Tryz.ntmps167 fun w0=> ?_
 repeat(refine st ?_;intros)
 (refine Dn.post (Hr:=[]) Tryz.results167 (hR:= ?_);exact⟨congrArg Value.bool (aBf oM),rfl⟩)
theorem can_ct (bw bd ba bs:Nat) (δ:Dv) (cd:aAc) (h:aEc bd δ cd) (f:Fl) (h1:1≤f.width) (h5:f.width≤5) (hb:f.blocks=aAb δ.size f.width f.count) (hc:f.count≤100000000):
  CtQ AC 168 [pv bw,flv f] [aAi bw bd ba bs,cd] (.bool true):=by
 have aa:flv f= .agg #[.int .i64 (f.first:Int),.int .i64 (f.blocks:Int),.int .i64 (f.width:Int),.int .i64 (f.count:Int)]:=rfl
 rw[aa]
 have hH:=aHp bw bd ba bs δ cd h f.width h1 h5
 have hp:=aAl h.num.1.1 h1 h5
 have hh:aAf δ.size f.width≤δ.size:=BB (Nat.div_le_self _ _) oM
 have hs:=h.num.1.2
 have e1:AJ .i64 ((f.count:Int)+(aAf δ.size f.width:Int))=((f.count+aAf δ.size f.width:Nat):Int):=aAd oM
 have e2:AJ .i64 (((f.count+aAf δ.size f.width:Nat):Int)-1)=((f.count+aAf δ.size f.width-1:Nat):Int):=by rw[aAd oM];omega
 have e3:((f.count+aAf δ.size f.width-1:Nat):Int).tdiv (aAf δ.size f.width:Int)=(f.blocks:Int):=by
  rw[Int.tdiv_eq_ediv_of_nonneg oM,hb];rfl
 have e4:AJ .i64 (((f.count+aAf δ.size f.width-1:Nat):Int).tdiv (aAf δ.size f.width:Int))=(f.blocks:Int):=by
  rw[e3,aAd]
  have:f.blocks≤f.count:=by rw[hb];exact aAx hp
  omega
 generalize aAf δ.size f.width=hd at*
 refine Ct.go Tryz.func168 Tryz.ntmps168 fun w0=> ?_
 repeat(first|(refine sv ?_;intros)|refine cq hH ?_)
 (refine Dn.post (Hr:=[aAi bw bd ba bs,cd]) Tryz.results168 (hR:= ?_);exact⟨congrArg Value.bool (aBf rfl),rfl⟩)
def lkZ (bw bl bx key value to:Nat) (ats:List T5) (fb:Fl) (bts:List T5) (LvB:List Ext) (size:Nat) (g:Gr):Mkr LkS where
 own s:=if s.op then[g] else[]
 C s:=[aKh bl bx key value to s,s.cx,s.cb].flatten
 J W s i:=W.δ.size=size∧s.op=true∧aGt bw bx W fb bts g s.pos s.cx s.cb∧s.pos≤fb.count∧aAq W.δ.disk size LvB fb bts∧(∀e∈LvB,e∈W.live)∧
  ∀k:Int,(∀j t,j<i→ats[j]? =some t→t.col key≤k)→aRw bts s k∧(s.any=true→s.last≤k)
 E W s:=s.pos≤fb.count∧((s.op=true∧aGt bw bx W fb bts g s.pos s.cx s.cb)∨(s.op=false∧aDj bx s.cx))
 pot s:=aAb size fb.width s.pos
theorem lkZ_ok (bw bl bx key value to:Nat) (ats:List T5) (fb:Fl) (bts:List T5) (LvB:List Ext) (size:Nat) (g:Gr) (Lv:List Ext) (hs:∀e∈LvB,e∈Lv):(lkZ bw bl bx key value to ats fb bts LvB size g).Ok Lv where
 stay:=by
  rintro W W' s i ⟨h1,h2,h3,h4,h5,h6,h7⟩ hz hK hl _
  exact⟨hz.trans h1,h2,h3.move hz,h4,h5.keep fun x ⟨e,he,h8⟩=>hK x ⟨e,hs e he,h8⟩,fun e he=>hl e (hs e he),h7⟩
 fin:=by
  rintro W s i ⟨h1,h2,h3,h4,_⟩
  exact⟨h4,.inl ⟨h2,h3⟩⟩
 stayE:=by
  rintro W W' s ⟨h1,h2⟩ hz
  refine⟨h1,h2.imp (fun ⟨a,b⟩=>⟨a,b.move hz⟩) id⟩
theorem bRp (bw bd ba bs bl bx key value to:Nat) (am:key<5) (an:value<5) (av:to<5) (ats:List T5) (ag:ats.Pairwise fun a c=>a.col key≤c.col key) (fb:Fl) (bts:List T5) (LvB:List Ext) (size room:Nat) (g:Gr) (ae:bts.Pairwise fun a c=>a.c0<c.c0) (aw:fb.count≤1000000):
  MkrCt bw bd ba bs (lkZ bw bl bx key value to ats fb bts LvB size g) size room ats (fun i=>aDu bts key value to (at5 ats i)) 170 [pv bl] []:=by
 rintro ad W cd ca cs s i t hW hg a4 ax ⟨h1,h2,h3,h4,h5,h6,h7⟩ ht ay
 subst ax
 have hi:=(AK.1 ht).1
 have az:at5 ats i=t:=by unfold at5;simp[AN,ht]
 obtain⟨hk,ao⟩:=h7 (t.col key) fun j u hj hu=>by
  obtain⟨a0,rfl⟩:=AK.1 hu
  obtain⟨_,rfl⟩:=AK.1 ht
  exact List.pairwise_iff_getElem.1 ag j i a0 hi hj
 have a1:W.α.gs.Perm (g::ad):=by simpa[lkZ,h2] using hg
 have hC:=bRo bw bd ba bs bl bx key value to am an av W cd ca cs hW fb bts LvB h5 h6 ae g ad a1 s h3 h4 t hk ao ay aw
 refine Ct.convP hC (by unfold lkZ;refine aEq fun z=> ?_;simp only[AW,A5,AQ,A0,BK];omega) ?_
 rintro v H' ⟨ab,ac,W',s',u,k,e,rfl,rfl,ap,ah,ai,aq,aj,a2,au,hc⟩
 have hm:aAb W.δ.size fb.width s.pos≤aAb W.δ.size fb.width s'.pos:=aAm a2
 rcases hc with⟨rfl,rfl,rfl,ak,a3,al,a5,a6⟩|⟨rfl,hf,ak,hx⟩
 ·refine⟨[aAi bw bd ba bs,ab,ac,cs,(lkZ bw bl bx key value to ats fb bts LvB W.δ.size g).C {s' with op:=true}],⟨ab,ac,W',{s' with op:=true},_,true,0,rfl,rfl,ap,ah,ai,aq,aj,hm,by simpa[lkZ] using ak,.inl ⟨rfl,rfl,by dsimp only;rw[az],?_⟩⟩,?_⟩
  ·refine⟨ah.size,rfl,a3,au,by rw[ai];exact h5,by rw[aj];exact h6,fun k hk=> ?_⟩
   have h8:=hk i t (Nat.lt_succ_self i) ht
   exact⟨⟨(al.up h8).nb,(al.up h8).yes,(al.up h8).no⟩,fun _=>by show s'.last≤k;omega⟩
  ·have aa:aKh bl bx key value to {s' with op:=true}=aKh bl bx key value to s':=rfl
   refine aEq fun z=> ?_
   simp only[lkZ,aa,AW,A5,AQ,BK];omega
 ·refine⟨[aAi bw bd ba bs,ab,ac,cs,(lkZ bw bl bx key value to ats fb bts LvB W.δ.size g).C {s' with op:=false}],⟨ab,ac,W',{s' with op:=false},u,k,6,rfl,rfl,ap,ah,ai,aq,aj,hm,by simpa[lkZ] using ak,.inr ⟨rfl,hf,au,.inr ⟨rfl,hx⟩⟩⟩,?_⟩
  have aa:aKh bl bx key value to {s' with op:=false}=aKh bl bx key value to s':=rfl
  refine aEq fun z=> ?_
  simp only[lkZ,aa,AW,A5,AQ,BK];omega
theorem max_wd {a b:Nat}:max (a:Int) (((b+1:Nat):Int))=((max a (b+1):Nat):Int):=by omega
theorem lkV_in {bts:List T5} {w:Nat} (h:∀t∈bts,okT w t) (k:Int) (v:Nat):aAv (lkV bts k v):=by
 unfold lkV
 split
 ·rename_i t ht
  have h1:=aBb (h t (List.mem_of_find?_eq_some ht))
  match v with
  |0=>exact h1.1
  |1=>exact h1.2.1
  |2=>exact h1.2.2.1
  |3=>exact h1.2.2.2.1
  |4=>exact h1.2.2.2.2
  |n+5=>exact aLt
 ·exact aHd
theorem aNz {bts:List T5} {w wa:Nat} (h:∀t∈bts,okT w t) (key value to:Nat) (aa:to<5) {t:T5} (ht:okT wa t):okT (max wa (to+1)) (aDu bts key value to t):=by
 obtain⟨a0,a1,a2,a3,a4⟩:=aBb ht
 have hv:=lkV_in h (t.col key) value
 unfold aDu
 generalize lkV bts (t.col key) value=x at*
 match to,aa with
 |0,_=>exact bMn hv a1 a2 a3 a4 oM (fun h=>ht.2 1 oM) (fun h=>ht.2 2 oM) (fun h=>ht.2 3 oM) (fun h=>ht.2 4 oM)
 |1,_=>exact bMn a0 hv a2 a3 a4 oM oM (fun h=>ht.2 2 oM) (fun h=>ht.2 3 oM) (fun h=>ht.2 4 oM)
 |2,_=>exact bMn a0 a1 hv a3 a4 oM oM oM (fun h=>ht.2 3 oM) (fun h=>ht.2 4 oM)
 |3,_=>exact bMn a0 a1 a2 hv a4 oM oM oM oM (fun h=>ht.2 4 oM)
 |4,_=>exact bMn a0 a1 a2 a3 hv oM oM oM oM oM
theorem bRq (bw bd ba bs key value to:Nat) (W:Wk) (cd ca cs:aAc) (h:Wc bd ba bs W cd ca cs) (fa:Fl) (ats:List T5) (LvA:List Ext) (ab:aAq W.δ.disk W.δ.size LvA fa ats) (bc:∀e∈LvA,e∈W.live)
  (fb:Fl) (bts:List T5) (LvB:List Ext) (aa:aAq W.δ.disk W.δ.size LvB fb bts) (ao:∀e∈LvB,e∈W.live) (am:key<fa.width) (an:value<fb.width) (aq:to<5)
  (ai:ats.Pairwise fun a c=>a.col key≤c.col key) (aj:bts.Pairwise fun a c=>a.c0<c.c0) (hr:3*W.δ.size≤W.α.room-W.α.used) (ap:aAb W.δ.size (max fa.width (to+1)) fa.count≤big W.σ.free) (a9:W.δ.acts≤1000000000) (be:fa.count≤1000000) (a8:fb.count≤1000000):
  Ct AC 112 [pv bw,flv fa,.int .i64 (key:Int),flv fb,.int .i64 (value:Int),.int .i64 (to:Int)] [aAi bw bd ba bs,cd,ca,cs] fun v H'=>
   ∃cd' ca' cs' W' f' e,v= .tuple #[flv f',.int .i64 e]∧H'=[aAi bw bd ba bs,cd',ca',cs']∧Wc bd ba bs W' cd' ca' cs'∧Ev W W' (fa.blocks+fa.count+1+fb.blocks) (aAb W.δ.size (max fa.width (to+1)) fa.count)∧aBv W.live W W'∧W'.α.gs.Perm W.α.gs∧
    ((e=0∧W'.live.Perm (aCj f' W.live)∧f'.width=max fa.width (to+1)∧f'.count=fa.count∧aAq W'.δ.disk W.δ.size [f'.ext] f' (ats.map (aDu bts key value to)))∨(e=6∧f'=⟨0,0,0,0⟩∧W.δ.fault≠-1∧W'.live.Perm W.live)):=by
 have au:=ab.w2
 have bf:=aa.w2
 have bg:=ab.w1
 have ac:=eQ0
 have hz:=eQ1
 have ae:=aWu fa key am au
 have ag:=aWu fb value an bf
 have ah:=can_ct bw bd ba bs W.δ cd h.dev fa bg au ab.blk oM
 have av:=aIk bw bd ba bs W cd ca cs h fb bts LvB aa oM
 have e1:AJ .i64 ((to:Int)+1)=((to+1:Nat):Int):=by rw[aAd oM];rfl
 have e2:max (fa.width:Int) ((to+1:Nat):Int)=((max fa.width (to+1):Nat):Int):=max_wd
 rw[ac] at ae ag ah av
 rw[ac fa,ac fb]
 refine Ct.introD Tryz.func112 rfl Tryz.ntmps112 (nle rfl) fun w0=> ?_;dsimp only[aAa,AD]
 repeat(first|(refine st ?_;intros)|refine cq ae ?_|refine cq ag ?_|refine cq ah ?_)
 refine R.call (hct:=av) (h:= ?_)
 rintro _ _ ⟨bx,g,aw,α1,cx,cb,rfl,rfl,ax,ay,az,bh,bi⟩
 try dsimp only[AA,AB]
 have cg:α1.used=W.α.used+W.δ.size:=by
  have:=ax.ar.num.2.2.2
  dsimp only at this
  rw[this,(az.map (·.n)).sum_nat,h.ar.num.2.2.2];simp[bh];omega
 have b8:α1.room=W.α.room:=ay.room
 have ci:fb.blocks≤fb.count:=by rw[aa.blk];exact aAx (aAl h.dev.num.1.1 aa.w1 aa.w2)
 have cj:8≤W.δ.size:=h.dev.num.1.1
 have hE:∀bl:Nat,Ct AC 169 [pv bw,flv fa,.int .i64 ((max fa.width (to+1):Nat):Int),.func (.func 170) #[pv bl] #[]]
   [aAi bw bd ba bs,cd,aw,cs,aKh bl bx key value to ⟨0,false,false,T5.zero,0,false,cx,cb,true⟩,cx,cb] fun v H'=>
   ∃cd' ca' cs' W' r' f' e,v= .tuple #[flv f',.int .i64 e]∧H'=[aAi bw bd ba bs,cd',ca',cs',aKh bl bx key value to r',r'.cx,r'.cb]∧Wc bd ba bs W' cd' ca' cs'∧Ev {W with α:=α1} W' (fa.blocks+fa.count+1+fb.blocks) (aAb W.δ.size (max fa.width (to+1)) fa.count)∧aBv W.live W W'∧RSt bw bx fb bts g W.α.gs W' r'.cx r'.cb∧
    ((e=0∧W'.live.Perm (aCj f' W.live)∧f'.width=max fa.width (to+1)∧f'.count=fa.count∧aAq W'.δ.disk W.δ.size [f'.ext] f' (ats.map (aDu bts key value to)))∨(e=6∧f'=⟨0,0,0,0⟩∧W.δ.fault≠-1∧W'.live.Perm W.live)):=by
  intro bl
  have h1:=bRm bw bd ba bs (lkZ bw bl bx key value to ats fb bts LvB W.δ.size g) {W with α:=α1} cd aw cs ax (lkZ_ok bw bl bx key value to ats fb bts LvB W.δ.size g W.live ao) fa ats LvA ab bc (max fa.width (to+1)) oM oM
   (fun i=>aDu bts key value to (at5 ats i)) (fun i hi=>aNz aa.fit key value to aq (ab.fit _ (by
    have ad:i<ats.length:=by rw[ab.len];exact hi
    unfold at5;rw[AN,AE ad]
    exact B5 ad))) 170 inferInstance [pv bl] []
   (bRp bw bd ba bs bl bx key value to oM oM aq ats ai fb bts LvB W.δ.size α1.room g aj a8) ⟨0,false,false,T5.zero,0,false,cx,cb,true⟩ W.α.gs az
   ⟨rfl,rfl,bi,AS _,aa,ao,fun k _=>⟨⟨fun _=>rfl,fun h=>(by cases h),fun h=>(by cases h)⟩,fun h=>(by cases h)⟩⟩ fb.blocks (fun W2 r2 bk=>by
    show aAb W.δ.size fb.width r2.pos≤_
    rw[aa.blk];exact aAm bk.1) oM oD ap a9 be
  refine Ct.convP h1 (by unfold lkZ;refine aEq fun z=> ?_;simp only[AW,A5,AQ,A0,BK]) ?_
  rintro v H' ⟨cd',ca',cs',W',r',f',e,rfl,rfl,a1,a2,a3,a4,a5,a6⟩
  refine⟨[aAi bw bd ba bs,cd',ca',cs',aKh bl bx key value to r',r'.cx,r'.cb],⟨cd',ca',cs',W',r',f',e,rfl,rfl,a1,a2,a3,?_,?_⟩,by unfold lkZ;refine aEq fun z=> ?_;simp only[AW,A5,AQ,A0,BK]⟩
  ·rcases a5.2 with⟨b1,b2⟩|⟨b1,b2⟩
   ·exact .inl ⟨by simpa[lkZ,b1] using a4,_,b2⟩
   ·exact .inr ⟨by simpa[lkZ,b1] using a4,b2⟩
  ·have a0:aCy (fun i=>aDu bts key value to (at5 ats i)) fa.count=ats.map (aDu bts key value to):=by
    unfold aCy
    apply CH
    intro i
    rw[BU,BU]
    by_cases hi:i<fa.count
    ·have ad:i<ats.length:=by rw[ab.len];exact hi
     rw[List.getElem?_range hi,AE ad]
     show some (aDu bts key value to (at5 ats i))=_
     unfold at5;rw[AN,AE ad];rfl
    ·rw[BL oA12,BL (by rw[ab.len];omega)];rfl
   rw[←a0]
   exact a6
 have hE:=fun bl=>hE bl
 unfold aKh at hE
 dsimp only at hE
 rw[ac fa] at hE
 repeat(first|(refine st ?_;intros)|refine cq ae ?_|refine cq ag ?_|refine cq ah ?_)
 rename_i b7 b9 cm bl
 rw[e2]
 refine R.call (hct:=hE bl) (h:= ?_)
 rintro _ _ ⟨ak,bo,al,W2,r2,f2,e,rfl,rfl,bp,bq,bu,bv,bz⟩
 dsimp only[AA,AB]
 rw[ac]
 have b3:=aBn bw bd ba bs W2 ak bo al bp bx fb bts g W.α.gs r2.cx r2.cb bv
 repeat(first|(refine st ?_;intros)|refine cq ae ?_|refine cq ag ?_|refine cq ah ?_)
 refine Go.SL.Lv.call (hc:=b3) (h:= ?_)
 rintro _ _ ⟨a7,α8,cu,rfl,b4,b5,b6⟩
 try dsimp only[AA,AB]
 (refine Go.SL.Lv.nil (Hr:=[aAi bw bd ba bs,ak,a7,al]) Tryz.results112 (hR:= ?_);exact⟨ak,a7,al,{W2 with α:=α8},f2,e,rfl,rfl,b4,((ay.trans bq).trans b5).weak oM oM,bu,b6,bz⟩)
def LayerR (bw bd ba bs:Nat) (W:Wk) (A T:Nat) (er:Option Nat) (ts:List T5) (wd:Nat) (v:Value) (H':Hp):Prop:=
 ∃f e aa ab ac W',v= .tuple #[flv f,.int .i64 e]∧H'=[aAi bw bd ba bs,aa,ab,ac]∧Wc bd ba bs W' aa ab ac∧aEh (aLs bw bd ba bs 0 W) W W' A T er ts f e∧(e=0→f.width=wd)
def bOt (bw bd ba bs:Nat) (W:Wk) (cd cs:aAc) (A T:Nat) (er:Option Nat) (ts:List T5) (wd:Nat) (v:Value) (H':Hp):Prop:=
 (8*W.δ.size≤W.α.room-W.α.used∧LayerR bw bd ba bs W A T er ts wd v H')∨
 (W.α.room-W.α.used<8*W.δ.size∧v= .tuple #[flv ⟨0,0,0,0⟩,.int .i64 7]∧∃aa α',H'=[aAi bw bd ba bs,cd,aa,cs]∧Wc bd ba bs {W with α:=α'} cd aa cs∧α'.gs.Perm W.α.gs∧α'.room=W.α.room)
theorem aNc {bw bd ba bs bj:Nat} {W W':Wk} {J:Jb} {f:Fl} {ts:List T5} {G2:List (Fl×List T5)} {A T:Nat} (h:bIe (aLs bw bd ba bs bj W) J [f] W') (hG:J.G=(f,ts)::G2) (hA:J.acts≤W.δ.acts+A) (hT:J.took≤T):
  aEh (aLs bw bd ba bs 0 W) W W' A T J.er ts (if J.e=0 then f else⟨0,0,0,0⟩) J.e:=by
 refine⟨h.gs,h.room,h.size,h.n,BB h.acts hA,?_,?_,fun x hx=>h.keep x hx,?_⟩
 ·have:=h.tk
  have h2:(aLs bw bd ba bs bj W).b0=big W.σ.free:=rfl
  omega
 ·intro hf
  exact h.flt (fun h2=>h2 hf)
 ·by_cases he:J.e=0
  ·obtain⟨h1,h2,h3⟩:=h.good he [(f,ts)] G2 (by rw[hG];exact .refl _) rfl
   rw[if_pos he]
   exact .inl ⟨he,h3,h1,h2 _ AH⟩
  ·obtain⟨h1,h2⟩:=h.bad he
   rw[if_neg he]
   exact .inr ⟨he,rfl,h1,h2⟩
theorem bMp (p:Jp) (hp:p.Ok) (J:Jb) (C:aAc) (hJ:aRu p J C) (f:Fl) (b:Nat):
  Ct AC 66 [pv p.bj,.slice (some ⟨b,0,none⟩) 1 1] [C,[(b,row (fl4 f) 42)]] fun v H'=>∃cd ca cs W,v= .int .i64 J.e∧H'=[aAi p.bw p.bd p.ba p.bs,cd,ca,cs,[(b,row (fl4 f) 42)]]∧Wc p.bd p.ba p.bs W cd ca cs∧bIe p J [f] W:=
 bRh p hp J C hJ [f] oA15 _ 1 _ (vec1 b f)
theorem aWv {p:Jp} {e:Int} {cd ca cs:aAc}:([aFg p.bj p.bw e none 0 0,aAi p.bw p.bd p.ba p.bs,cd,ca,cs]:Hp).flatten.Perm ([aJg p e cd ca cs none 0 0 []]:Hp).flatten:=by
 unfold aJg;refine aEq fun z=> ?_;simp only[AW,A5,AQ,BK];omega
abbrev o1:T5:=⟨1,0,0,0,0⟩
abbrev o12:T5:=⟨1,2,0,0,0⟩
theorem aFn {p:Jp} {x:Fl×List T5} (h:In0 p x):x.2.length=x.1.count∧(∀t∈x.2,okT x.1.width t)∧x.1.blocks=aAb p.size x.1.width x.1.count∧1≤x.1.width∧x.1.width≤5:=by
 obtain⟨Lv,h,_⟩:=h
 exact⟨h.len,h.fit,h.blk,h.w1,h.w2⟩
theorem bEj {a b:Nat} (h:a≤b):aFb a≤aFb b:=by
 unfold aFb
 exact DG oM (Nat.add_le_add_left (aTb oM) _)
theorem bIi (p:Jp) (hp:p.Ok) (J:Jb) (he:J.e=0) (fa fb:Fl) (ats bts:List T5) (ha:(fa,ats)∈J.G∨In0 p (fa,ats)) (hb:(fb,bts)∈J.G∨In0 p (fb,bts)) (au:fa.count≤100000) (ap:fb.count≤100000)
  (key value to:Nat) (ah:key<fa.width) (ai:value<fb.width) (aj:to<5) (ad:ats.Pairwise fun a c=>a.col key≤c.col key) (ae:bts.Pairwise fun a c=>a.c0<c.c0)
  (A T:Nat) (hT:aAb p.size (max fa.width (to+1)) fa.count≤T) (ag:Fits p J T) (hA:fa.blocks+fa.count+1+fb.blocks≤A) (aq:J.acts+A≤1000000000)
  (W:Wk) (cd ca cs:aAc) (held:List (Fl×List T5)) (hW:Wc p.bd p.ba p.bs W cd ca cs) (aa:aLr p J held W):
  Ct AC 112 [pv p.bw,flv fa,.int .i64 (key:Int),flv fb,.int .i64 (value:Int),.int .i64 (to:Int)] [aAi p.bw p.bd p.ba p.bs,cd,ca,cs] fun v H'=>
   ∃f e cd' ca' cs' W',v= .tuple #[flv f,.int .i64 e]∧H'=[aAi p.bw p.bd p.ba p.bs,cd',ca',cs']∧Wc p.bd p.ba p.bs W' cd' ca' cs'∧aEh p W W' A T none (ats.map (aDu bts key value to)) f e∧
    (f.count≤fa.count∧f.blocks≤aAb p.size (max fa.width (to+1)) fa.count∧(e=0→f.width=max fa.width (to+1)∧f.count=fa.count)):=by
 obtain⟨LvA,ab,ak⟩:=aa.file (ha.imp (fun h=>(aa.ok he).1.mem_iff.2 h) id)
 obtain⟨LvB,ac,al⟩:=aa.file (hb.imp (fun h=>(aa.ok he).1.mem_iff.2 h) id)
 dsimp only at ab ac
 obtain⟨⟨av,aw⟩,_⟩:=hW.dev.num
 have ax:=aa.used hp hW
 have an:=aa.big hW he ag
 have ao:=aa.acts
 have ay:aAb W.δ.size (max fa.width (to+1)) fa.count≤T:=by rw[aa.size];exact hT
 refine(bRq p.bw p.bd p.ba p.bs key value to W cd ca cs hW fa ats LvA ab ak fb bts LvB ac al ah ai aj ad ae oM oM oM oM oM).mono ?_
 rintro v H' ⟨cd',ca',cs',W',f,e,rfl,rfl,am,hE,hK,hg,hc⟩
 refine⟨f,e,cd',ca',cs',W',rfl,rfl,am,⟨hg,hE.room,hE.size,hE.n,by have:=hE.acts.2;omega,by have:=hE.big;omega,hE.fault,hK,?_⟩,?_⟩
 ·rcases hc with⟨a,b,_,_,c⟩|⟨a,b,c,d⟩
  ·exact .inl ⟨a,rfl,b,c⟩
  ·exact .inr ⟨oM,b,d,.inl ⟨a,c⟩⟩
 ·rcases hc with⟨a,b,c1,c2,c⟩|⟨a,rfl,c,d⟩
  ·refine⟨oM,?_,fun _=>⟨c1,c2⟩⟩
   rw[c.blk,c1,c2,aa.size];exact AG _
  ·exact⟨AS _,AS _,fun h=>by omega⟩
def aHz (bj b8 b4 b5:Nat) (fa fb:Fl):Hp:=[[(b8,row [pv bj] 84)],[(b4,row (fl4 fa) 42)],[(b5,row (fl4 fb) 42)]]
structure Rm (p:Jp) (B m k a:Nat):Prop where
 ok:p.Ok
 le:B≤m
 bs:B≤1000
 room:m*(k+p.L0.length+1)+(k*B+aBg p.L0)≤p.n
 kk:k≤100
 acts:a≤500000000
structure aGh (p:Jp) (B k a s0:Nat) (e:Int) (er:Option Nat) (Gf:List (Fl×List T5)) (C:aAc):Prop where
 job:aRu p ⟨e,er,Gf,a+s0*30000,s0*30000⟩ C
 len:Gf.length≤k
 blk:∀x∈Gf,x.1.blocks≤B
theorem aWw {B:Nat}:∀{l:List Nat},(∀x∈l,x≤B)→l.sum≤l.length*B
 |[],_=>by simp
 |x::l,h=>by
  have h1:=h x AH
  have h2:=aWw (l:=l) (fun y hy=>h y (AI _ hy))
  simp only[List.sum_cons,AL,DQ,Nat.one_mul];omega
theorem Rm.fits {p:Jp} {B m k a:Nat} (h:Rm p B m k a) {Gf:List (Fl×List T5)} (hl:Gf.length≤k) (hb:∀x∈Gf,x.1.blocks≤B) {T:Nat} (hT:T≤m) (e:Int) (er:Option Nat) (x y:Nat):Fits p ⟨e,er,Gf,x,y⟩ T:=by
 left
 unfold bRg
 dsimp only
 have h1:T*(Gf.length+p.L0.length+1)≤m*(k+p.L0.length+1):=DG hT oM
 have h2:=aWw (B:=B) (l:=Gf.map (·.1.blocks)) (by intro y hy;obtain⟨x,hx,rfl⟩:=AU.1 hy;exact hb x hx)
 rw[AY] at h2
 have h3:Gf.length*B≤k*B:=A7 _ hl
 have:=h.room
 omega
structure FB (b c w n:Nat) (e:Int) (f:Fl):Prop where
 cnt:f.count≤b
 blk:f.blocks≤c
 ok:e=0→f.width=w∧f.count=n
theorem FB.mono {b c w n:Nat} {e e':Int} {f:Fl} (h:FB b c w n e f) (he:e'=0→e=0):FB b c w n e' f:=⟨h.cnt,h.blk,fun h0=>h.ok (he h0)⟩
theorem aRu.er0 {p:Jp} {J:Jb} {C:aAc} (h:aRu p J C) (he:J.e=0):J.er=none:=by
 obtain⟨W,cd,ca,cs,held,ph,cap,ch,_,_,_,aa⟩:=h
 exact(aa.ok he).2
theorem aGh.er0 {p:Jp} {B k a s0:Nat} {e:Int} {er:Option Nat} {Gf:List (Fl×List T5)} {C:aAc} (h:aGh p B k a s0 e er Gf C) (he:e=0):er=none:=h.job.er0 he
theorem nbS {s w n c:Nat} (hs:8≤s) (h1:1≤w) (h5:w≤5) (hc:n≤c∨(w≤3∧n≤2*c)):aAb s w n≤c:=by
 have hp:=aAl hs h1 h5
 rcases hc with hc|⟨hw,hc⟩
 ·exact BB (aAx hp) hc
 ·have h2:2≤aAf s w:=by
   have:3*2≤s-2:=by omega
   exact(Nat.le_div_iff_mul_le oM).2 (by
    have:2*w≤2*3:=B7 _ hw
    omega)
  unfold aAb
  generalize aAf s w=q at*
  have:n+q-1<(c+1)*q:=by
   have h3:c*2≤c*q:=B7 _ h2
   rw[DQ,Nat.one_mul]
   omega
  have:=(Nat.div_lt_iff_lt_mul oM).2 this
  omega
inductive Pk {α:Type} (x:α):List α→List α→Prop
 |here {l:List α}:Pk x (x::l) l
 |there {y:α} {l l':List α}:Pk x l l'→Pk x (y::l) (y::l')
theorem Pk.perm {α:Type} {x:α} {l l':List α} (h:Pk x l l'):l.Perm (x::l'):=by
 induction h with
 |here=>exact .refl _
 |there _ ih=>exact(ih.cons _).trans (.swap _ _ _)
inductive Pks {α:Type}:List α→List α→List α→Prop
 |nil {l:List α}:Pks [] l l
 |cons {x:α} {xs l l1 l2:List α}:Pk x l l1→Pks xs l1 l2→Pks (x::xs) l l2
theorem Pks.perm {α:Type} {xs l l':List α} (h:Pks xs l l'):l.Perm (xs++l'):=by
 induction h with
 |nil=>exact .refl _
 |cons h1 _ ih=>exact h1.perm.trans (ih.cons _)
section
variable {p:Jp} {B m k a s0:Nat} {e:Int} {er:Option Nat} {Gf:List (Fl×List T5)} {C:aAc}
theorem aRu.weak {J J':Jb} (h:aRu p J C) (he:J'.e=J.e) (aa:J'.er=J.er) (hG:J'.G=J.G) (ha:J.acts≤J'.acts) (ht:J.took≤J'.took):aRu p J' C:=by
 obtain⟨W,cd,ca,cs,held,ph,cap,ch,h1,h2,h3,h4⟩:=h
 refine⟨W,cd,ca,cs,held,ph,cap,ch,by rw[he];exact h1,h2,h3,{h4 with acts:=BB h4.acts ha,tk:=BB h4.tk oM,ok:= ?_,why:= ?_}⟩
 ·rw[he,aa,hG];exact h4.ok
 ·rw[he,aa];exact h4.why
theorem aGh.push (h:aGh p B k a s0 e er Gf C) (hl:Gf.length+1≤k) {e':Int} {aa:Option Nat} {f:Fl} {ts:List T5} {C':aAc} {A T:Nat} (q:Nat) (hJ:aRu p ⟨e',aa,(f,ts)::Gf,a+s0*30000+A,s0*30000+T⟩ C') (hA:A≤q*30000) (hT:T≤q*30000) (hb:f.blocks≤B):aGh p B k a (s0+q) e' aa ((f,ts)::Gf) C' where
 job:=by
  have e1:(s0+q)*30000=s0*30000+q*30000:=DQ _ _ _
  exact hJ.weak rfl rfl rfl oD oD
 len:=by simpa using hl
 blk:=by
  intro x hx
  rcases AM.1 hx with rfl|hx
  ·exact hb
  ·exact h.blk x hx
theorem SMake (hR:Rm p B m k a) (hJ:aGh p B k a s0 e er Gf C) {K:Type} (M:aAt K) (k0:K) (width bound c κ:Nat) (aa:1≤width∧width≤5) (mk:Nat) (ab:Callable AC mk) (us:List Value) (ok:K→T5→Prop) (hM:aFt M width ok mk [] us)
  (hκ:∀k t,ok k t→(M.outs k t).length≤κ) (ah:κ≤5) (l:List (Fl×List T5)) (hs:∀x∈l,x∈Gf∨In0 p x) (h0:∀x∈l,x.1.count≤1000∧x.1.blocks≤1000) (ai:l.length≤4) (pa:Option Addr) (cap:Nat) (cf:aAc) (hV:Vec 42 4 pa l.length cap (aAj (l.map (·.1))) cf)
  (ad:e=0→M.oks ok k0 (cat l)) (ae:e=0→(M.all k0 (cat l)).length≤bound)
  (hc:bound≤c∨(width≤3∧bound≤2*c)) (al:c≤B) (hl:Gf.length+1≤k) (ag:s0≤10000):
  Ct AC 52 [pv p.bj,.int .i64 (width:Int),.int .i64 (bound:Int),.func (.func mk) #[] us.toArray,.slice pa l.length cap] (C::cf::M.C k0) fun v H'=>
   ∃f C' e' k',v=flv f∧H'=C'::cf::M.C k'∧aGh p B k a (s0+1) e' (er.or (M.bad k0 (cat l))) ((f,M.all k0 (cat l))::Gf) C'∧FB bound c width (M.all k0 (cat l)).length e' f∧(e'=0→e=0∧k'=M.st k0 (cat l)∧M.bad k0 (cat l)=none):=by
 have hB:=hR.bs
 have am:=hR.kk
 have an:=hR.acts
 have hm:=hR.le
 have aj:=hJ.len
 have ac:=nbS (s:=p.size) hR.ok.size.1 aa.1 aa.2 hc
 have ao:bound≤2000:=oM
 have ak:aFf κ l≤4*6000:=by
  unfold aFf
  refine BB (aWw (B:=6000) ?_) (by rw[AY];exact A7 _ ai)
  intro x hx
  obtain⟨y,hy,rfl⟩:=AU.1 hx
  have h1:=h0 y hy
  have h2:y.1.count*κ≤1000*5:=DG h1.1 ah
  omega
 have h2:s0*30000≤10000*30000:=DG ag (AG _)
 refine(JMake p hR.ok _ C hJ.job M k0 width bound κ 24001 c aa.1 aa.2 oM mk ab [] us ok hM hκ oM l hs (fun x hx=>by have:=h0 x hx;omega) pa cap cf hV ad ae ac
  (fun _=>hR.fits hJ.len hJ.blk oM _ _ _ _) oM oD oD).mono ?_
 rintro v H' ⟨f,C',e',k',rfl,rfl,h3,h4,h5,h6⟩
 have h7:f.blocks≤c:=BB h6 ac
 exact⟨f,C',e',k',rfl,rfl,hJ.push hl 1 h3 oM oM oM,⟨h5,h7,fun h=>let ⟨_,_,c,d,_⟩:=h4 h;⟨c,d⟩⟩,fun h=>let ⟨a,b,_,_,d⟩:=h4 h;⟨a,b,d⟩⟩
theorem bIj (hR:Rm p B m k a) (hJ:aGh p B k a s0 e er Gf C) {K:Type} (M:aAt K) (k0:K) (width bound c κ:Nat) (ag:1≤width∧width≤5) (mk:Nat) (aa:Callable AC mk) (us:List Value) (ok:K→T5→Prop) (hM:aFt M width ok mk [] us)
  (hκ:∀k t,ok k t→(M.outs k t).length≤κ) (ah:κ≤5) (f0:Fl) (ts:List T5) (hs:(f0,ts)∈Gf∨In0 p (f0,ts)) (h0:f0.count≤1000∧f0.blocks≤1000) (ab:e=0→M.oks ok k0 ts) (ad:e=0→(M.all k0 ts).length≤bound)
  (hc:bound≤c∨(width≤3∧bound≤2*c)) (ac:c≤B) (hl:Gf.length+1≤k) (ae:s0≤10000) (b:Nat):
  Ct AC 52 [pv p.bj,.int .i64 (width:Int),.int .i64 (bound:Int),.func (.func mk) #[] us.toArray,.slice (some ⟨b,0,none⟩) 1 1] (C::[(b,row (fl4 f0) 42)]::M.C k0) fun v H'=>
   ∃f C' e' k',v=flv f∧H'=C'::[(b,row (fl4 f0) 42)]::M.C k'∧aGh p B k a (s0+1) e' (er.or (M.bad k0 ts)) ((f,M.all k0 ts)::Gf) C'∧FB bound c width (M.all k0 ts).length e' f∧(e'=0→e=0∧k'=M.st k0 ts∧M.bad k0 ts=none):=by
 have h:=SMake hR hJ M k0 width bound c κ ag mk aa us ok hM hκ ah [(f0,ts)] (by simpa using hs) (by simpa using h0) oA15 _ 1 _ (vec1 b f0)
 rw[bRj] at h
 exact h ab ad hc ac hl ae
theorem aTg (hR:Rm p B m k a) (hJ:aGh p B k a s0 e er Gf C) {K:Type} (M:aAt K) (ad:∀k t,M.err k t=none) (k0:K) (width bound c κ:Nat) (ah:1≤width∧width≤5) (mk:Nat) (aa:Callable AC mk) (us:List Value) (ok:K→T5→Prop) (hM:aFt M width ok mk [] us)
  (hκ:∀k t,ok k t→(M.outs k t).length≤κ) (ai:κ≤5) (f0:Fl) (ts:List T5) (hs:(f0,ts)∈Gf∨In0 p (f0,ts)) (h0:f0.count≤1000∧f0.blocks≤1000) (ab:e=0→M.oks ok k0 ts) (ae:e=0→(M.all k0 ts).length≤bound)
  (hc:bound≤c∨(width≤3∧bound≤2*c)) (ac:c≤B) (hl:Gf.length+1≤k) (ag:s0≤10000) (b:Nat):
  Ct AC 52 [pv p.bj,.int .i64 (width:Int),.int .i64 (bound:Int),.func (.func mk) #[] us.toArray,.slice (some ⟨b,0,none⟩) 1 1] (C::[(b,row (fl4 f0) 42)]::M.C k0) fun v H'=>
   ∃f C' e' k',v=flv f∧H'=C'::[(b,row (fl4 f0) 42)]::M.C k'∧aGh p B k a (s0+1) e' er ((f,M.all k0 ts)::Gf) C'∧FB bound c width (M.all k0 ts).length e' f∧(e'=0→e=0∧k'=M.st k0 ts):=by
 refine(bIj hR hJ M k0 width bound c κ ah mk aa us ok hM hκ ai f0 ts hs h0 ab ae hc ac hl ag b).mono ?_
 rintro v H' ⟨f,C',e',k',h1,h2,h3,h4,h5⟩
 rw[aAt.bad_none ad,aNy] at h3
 exact⟨f,C',e',k',h1,h2,h3,h4,fun h=>⟨(h5 h).1,(h5 h).2.1⟩⟩
theorem SMap1 (hR:Rm p B m k a) (hJ:aGh p B k a s0 e er Gf C) (g:T5→T5) (width bound c:Nat) (ai:1≤width∧width≤5) (mk:Nat) (ac:Callable AC mk) (aa:T5→Prop) (ah:∀bx t X R,PutC bx (g t) X R→Ct AC mk [tv t,aPd bx] [X] (aZh R)) (ab:∀t,aa t→okT width (g t))
  (f0:Fl) (ts:List T5) (hs:(f0,ts)∈Gf∨In0 p (f0,ts)) (h0:f0.count≤1000∧f0.blocks≤1000) (ad:e=0→∀t∈ts,aa t) (ae:e=0→ts.length≤bound)
  (hc:bound≤c∨(width≤3∧bound≤2*c)) (aj:c≤B) (hl:Gf.length+1≤k) (ag:s0≤10000) (b:Nat):
  Ct AC 52 [pv p.bj,.int .i64 (width:Int),.int .i64 (bound:Int),.func (.func mk) #[] #[],.slice (some ⟨b,0,none⟩) 1 1] [C,[(b,row (fl4 f0) 42)]] fun v H'=>
   ∃f C' e',v=flv f∧H'=[C',[(b,row (fl4 f0) 42)]]∧aGh p B k a (s0+1) e' er ((f,ts.map g)::Gf) C'∧FB bound c width ts.length e' f∧(e'=0→e=0):=by
 have h:=aTg hR hJ (bRi g) (fun _ _=>rfl) () width bound c 1 ai mk ac [] _ (aFt.tail ah ab) (fun _ _ _=>AG _) oM f0 ts hs h0
  (fun h=>aAt.oks_of (M:=bRi g) (I:=fun _=>True) (Q:=aa) (fun _ t _ h=>⟨h,trivial⟩) ts () trivial (ad h)) (by rw[aLc,AY];exact ae) hc aj hl ag b
 refine h.mono ?_
 rintro v H' ⟨f,C',e',k',h1,h2,h3,h4,h5⟩
 rw[aLc] at h3 h4
 rw[AY] at h4
 exact⟨f,C',e',h1,h2,h3,h4,fun h=>(h5 h).1⟩
theorem SMap2 (hR:Rm p B m k a) (hJ:aGh p B k a s0 e er Gf C) (g:T5→T5) (width bound c:Nat) (aj:1≤width∧width≤5) (mk:Nat) (ac:Callable AC mk) (aa:T5→Prop) (ai:∀bx t X R,PutC bx (g t) X R→Ct AC mk [tv t,aPd bx] [X] (aZh R)) (ab:∀t,aa t→okT width (g t))
  (f0 f1:Fl) (ts us:List T5) (hs:(f0,ts)∈Gf∨In0 p (f0,ts)) (ad:(f1,us)∈Gf∨In0 p (f1,us)) (h0:f0.count≤1000∧f0.blocks≤1000) (h1:f1.count≤1000∧f1.blocks≤1000) (ae:e=0→∀t∈ts++us,aa t) (ag:e=0→ts.length+us.length≤bound)
  (hc:bound≤c∨(width≤3∧bound≤2*c)) (ak:c≤B) (hl:Gf.length+1≤k) (ah:s0≤10000) (b:Nat):
  Ct AC 52 [pv p.bj,.int .i64 (width:Int),.int .i64 (bound:Int),.func (.func mk) #[] #[],.slice (some ⟨b,0,none⟩) 2 2] [C,[(b,row (fl4 f0++fl4 f1) 42)]] fun v H'=>
   ∃f C' e',v=flv f∧H'=[C',[(b,row (fl4 f0++fl4 f1) 42)]]∧aGh p B k a (s0+1) e' er ((f,(ts++us).map g)::Gf) C'∧FB bound c width (ts.length+us.length) e' f∧(e'=0→e=0):=by
 have h:=SMake hR hJ (bRi g) () width bound c 1 aj mk ac [] _ (aFt.tail ai ab) (fun _ _ _=>AG _) oM [(f0,ts),(f1,us)] (by simpa using⟨hs,ad⟩) (by simpa using⟨h0,h1⟩) oA15 _ 2 _ (vec2 b f0 f1)
 rw[bRk] at h
 have h:=h (fun h=>aAt.oks_of (M:=bRi g) (I:=fun _=>True) (Q:=aa) (fun _ t _ h=>⟨h,trivial⟩) (ts++us) () trivial (ae h)) (by rw[aLc,AY,AF];exact ag) hc ak hl ah
 refine h.mono ?_
 rintro v H' ⟨f,C',e',k',h1,h2,h3,h4,h5⟩
 rw[aAt.bad_none (fun _ _=>rfl),aNy] at h3
 rw[aLc] at h3 h4
 rw[AY,AF] at h4
 exact⟨f,C',e',h1,h2,h3,h4,fun h=>(h5 h).1⟩
theorem aLe (hR:Rm p B m k a) (hJ:aGh p B k a s0 e er Gf C) (f:Fl) (ts:List T5) (G':List (Fl×List T5)) (o:T5) (ho:aGj o=true) (once:Bool) {b c w n:Nat} (hf:FB b c w n e f) (hP:Pk (f,ts) Gf G') (hb:b≤1000) (ae:c≤B) (hT:aFb c≤m) (aa:s0≤10000):
  Ct AC 64 [pv p.bj,flv f,tv o,.bool once] [C] fun v H'=>
   ∃g C' e',v=flv g∧H'=[C']∧aGh p B k a (s0+1) e' er ((g,srt (ltO o) once ts)::G') C'∧FB b c w (srt (ltO o) once ts).length e' g∧(e'=0→e=0):=by
 have hB:=hR.bs
 have ag:=hR.acts
 have ah:=hf.cnt
 have ab:=hf.blk
 have h2:s0*30000≤10000*30000:=DG aa (AG _)
 have ac:=hP.perm.length_eq
 have ai:aFb f.blocks≤aFb c:=bEj ab
 have ad:aFb f.blocks≤30000:=by
  have h1:=bMi (b:=f.blocks) (m:=1000) (l:=5) oM oA14
  exact BB h1 (nle rfl)
 refine(JSort p hR.ok _ C hJ.job f ts G' o ho once 20000 (aFb f.blocks) (fun _=>hP.perm) (fun _=>AG _) (fun _=>hR.fits hJ.len hJ.blk oM _ _ _ _) (fun _=>aZe oM) oD oM).mono ?_
 rintro v H' ⟨g,C',e',rfl,rfl,h3,h4,h5,h6⟩
 refine⟨g,C',e',rfl,rfl,⟨?_,?_,?_⟩,⟨oM,oM,fun h=> ?_⟩,fun h=>(h4 h).1⟩
 ·have e1:(s0+1)*30000=s0*30000+1*30000:=DQ _ _ _
  refine h3.weak rfl rfl rfl oD ?_
  show s0*30000+aFb f.blocks≤(s0+1)*30000
  rw[e1]
  exact Nat.add_le_add_left ad _
 ·have:=hJ.len;simp only[AL] at ac⊢;omega
 ·intro x hx
  rcases AM.1 hx with rfl|hx
  ·dsimp only;omega
  ·exact hJ.blk x (hP.perm.mem_iff.2 (AI _ hx))
 ·obtain⟨h7,h8,h9⟩:=h4 h
  exact⟨h8.trans (hf.ok h7).1,h9⟩
theorem bIk (hR:Rm p B m k a) (hJ:aGh p B k a s0 e er Gf C) (fts G':List (Fl×List T5)) (hP:Pks fts Gf G') (aa:fts.length≤1000) (pa:Option Addr) (cap:Nat) (cf:aAc) (hV:Vec 42 4 pa (fts.map (·.1)).length cap (aAj (fts.map (·.1))) cf):
  Ct AC 114 [pv p.bj,.slice pa (fts.map (·.1)).length cap] [C,cf] fun v H'=>∃C',v= .tuple #[]∧H'=[C',cf]∧aGh p B k a s0 e er G' C':=by
 refine(JFree p hR.ok _ C hJ.job (fts.map (·.1)) fts G' (fun _=>⟨hP.perm,rfl⟩) (by rw[AY];exact aa) pa cap cf hV).mono ?_
 rintro v H' ⟨C',rfl,rfl,h⟩
 have ab:=hP.perm.length_eq
 exact⟨C',rfl,rfl,h,by have:=hJ.len;rw[AF] at ab;omega,fun x hx=>hJ.blk x (hP.perm.mem_iff.2 (List.mem_append_right _ hx))⟩
theorem SRun (hR:Rm p B m k a) (hJ:aGh p B k a s0 e er Gf C) (mk:Nat) (ab:Callable AC mk) (us:List Value) (Hx:Hp) (A T q:Nat) (aa:Option Nat) (ts:List T5) (hA:A≤q*30000) (hT:T≤q*30000) {b c w n:Nat}
  (ac:e=0→∀x y,x≤a+s0*30000→aGm p ⟨e,er,Gf,x,y⟩ mk us Hx A T aa ts fun f e Hx'=>Hx'=Hx∧FB b c w n e f) (ad:c≤B) (hl:Gf.length+1≤k):
  Ct AC 60 [pv p.bj,.func (.func mk) #[] us.toArray] (C::Hx) fun v H'=>∃f C' e',v=flv f∧H'=C'::Hx∧aGh p B k a (s0+q) e' (er.or aa) ((f,ts)::Gf) C'∧FB b c w n e' f∧(e'=0→e=0):=by
 have ae:=hR.kk
 refine(JRunK p hR.ok _ C hJ.job mk ab us Hx A T aa ts _ (fun h=>ac h _ _ (AG _)) (by have:=hJ.len;dsimp only;omega)).mono ?_
 rintro v H' ⟨f,C',e',rfl,rfl,h3,h4⟩
 dsimp only at h3 h4
 have hf:FB b c w n e' f∧(e'=0→e=0):=by
  rcases h4 with⟨h5,h6⟩|⟨h5,h6,rfl⟩
  ·exact⟨h6,fun _=>h5⟩
  ·exact⟨⟨AS _,AS _,fun h=>absurd (h6▸h) h5⟩,fun h=>absurd (h6▸h) h5⟩
 have:=hf.1.blk
 exact⟨f,C',e',rfl,rfl,hJ.push hl q h3 hA hT oM,hf.1,hf.2⟩
def bEk (p:Jp) (J:Jb) (fa fb:Fl) (key value to A T:Nat) (ts:List T5) (R:Fl→Int→Prop):Prop:=
 ∀W cd ca cs held,Wc p.bd p.ba p.bs W cd ca cs→aLr p J held W→
  Ct AC 112 [pv p.bw,flv fa,.int .i64 (key:Int),flv fb,.int .i64 (value:Int),.int .i64 (to:Int)] [aAi p.bw p.bd p.ba p.bs,cd,ca,cs] fun v H'=>
   ∃f e aa ab ac W',v= .tuple #[flv f,.int .i64 e]∧H'=[aAi p.bw p.bd p.ba p.bs,aa,ab,ac]∧Wc p.bd p.ba p.bs W' aa ab ac∧aEh p W W' A T none ts f e∧R f e
theorem SLook (hR:Rm p B m k a) (ad:Gf.length≤k) (ah:∀x∈Gf,x.1.blocks≤B) (fa fb:Fl) (ats bts:List T5) (ak:(fa,ats)∈Gf∨In0 p (fa,ats)) (al:(fb,bts)∈Gf∨In0 p (fb,bts)) (key value to w c:Nat) (ha:fa.count≤1000∧fa.blocks≤1000) (hb:fb.count≤1000∧fb.blocks≤1000)
  (ae:key<fa.width) (ai:value<fb.width) (am:to<5) (ag:max fa.width (to+1)=w) (aj:w≤5) (aa:ats.Pairwise fun a c=>a.col key≤c.col key) (ab:bts.Pairwise fun a c=>a.c0<c.c0)
  (hc:fa.count≤c∨(w≤3∧fa.count≤2*c)) (av:c≤B) (x y:Nat) (hx:x≤900000000):
  bEk p ⟨0,er,Gf,x,y⟩ fa fb key value to 10000 c (ats.map (aDu bts key value to)) (fun f e=>FB fa.count c w fa.count e f):=by
 intro W cd ca cs held hW an
 have hm:=hR.le
 have hB:=hR.bs
 have ao:1≤w:=oM
 have ac:=nbS (s:=p.size) hR.ok.size.1 ao aj hc
 rw[←ag] at ac
 refine(bIi p hR.ok _ rfl fa fb ats bts ak al oM oM key value to ae ai am aa ab 10000 c ac (hR.fits ad ah oM _ _ _ _) oM oD W cd ca cs held hW an).mono ?_
 rintro v H' ⟨f,e,ap,aq,au,W',h1,h2,h3,h4,h5,h6,h7⟩
 exact⟨f,e,ap,aq,au,W',h1,h2,h3,h4,h5,BB h6 ac,fun h=>by rw[←ag];exact h7 h⟩
theorem aOa (hR:Rm p B m k a) (hJ:aGh p B k a s0 e er Gf C) (mk:Nat) (ag:Callable AC mk) {us:List Value} {Hx:Hp} (fa fb:Fl) (ats bts:List T5) (key value to w c:Nat) (aj:(fa,ats)∈Gf∨In0 p (fa,ats)) (al:(fb,bts)∈Gf∨In0 p (fb,bts))
  (ai:∀(J:Jb) (A T:Nat) (ts:List T5) (R:Fl→Int→Prop),bEk p J fa fb key value to A T ts R→aGm p J mk us Hx A T none ts fun f e Hx'=>Hx'=Hx∧R f e)
  {ba ca wa na bb cb wb nb:Nat} (ad:FB ba ca wa na e fa) (ab:FB bb cb wb nb e fb) (ax:ba≤1000∧ca≤1000∧bb≤1000∧cb≤1000) (av:key<wa) (aw:value<wb) (ah:to<5) (an:max wa (to+1)=w) (am:w≤5)
  (aa:e=0→ats.Pairwise fun a c=>a.col key≤c.col key) (ac:e=0→bts.Pairwise fun a c=>a.c0<c.c0) (hc:ba≤c∨(w≤3∧ba≤2*c)) (ae:c≤B) (hl:Gf.length+1≤k) (ak:s0≤10000):
  Ct AC 60 [pv p.bj,.func (.func mk) #[] us.toArray] (C::Hx) fun v H'=>∃f C' e',v=flv f∧H'=C'::Hx∧aGh p B k a (s0+1) e' er ((f,ats.map (aDu bts key value to))::Gf) C'∧FB ba c w na e' f∧(e'=0→e=0):=by
 have hB:=hR.bs
 have ay:=hR.acts
 have h1:=ad.cnt
 have h2:=ad.blk
 have h3:=ab.cnt
 have h4:=ab.blk
 have h5:s0*30000≤10000*30000:=DG ak (AG _)
 have h:=SRun hR hJ mk ag us Hx 10000 c 1 none (ats.map (aDu bts key value to)) oA14 oM (b:=ba) (c:=c) (w:=w) (n:=na) (fun he x y hx=>by
  subst he
  obtain⟨q1,q2⟩:=ad.ok rfl
  obtain⟨q3,q4⟩:=ab.ok rfl
  have hS:=SLook hR hJ.len hJ.blk (er:=er) fa fb ats bts aj al key value to w c oM oM oM oM ah (by rw[q1];exact an) am (aa rfl) (ac rfl) oM ae x y oM
  have ao:=ai _ _ _ _ _ hS
  intro W cd ca cs held ph cap h1 h2
  refine(ao W cd ca cs held ph cap h1 h2).mono ?_
  rintro v H' ⟨f,e,ap,aq,au,W',Hx',a1,a2,a3,a4,a5,a6⟩
  exact⟨f,e,ap,aq,au,W',Hx',a1,a2,a3,a4,a5,⟨BB a6.cnt oM,a6.blk,fun h=>⟨(a6.ok h).1,by rw[(a6.ok h).2];exact q2⟩⟩⟩) ae hl
 rw[aNy] at h
 exact h
theorem bIl (hR:Rm p B m k a) (hJ:aGh p B k a s0 e er Gf C) (f:Fl) (b:Nat):
  Ct AC 66 [pv p.bj,.slice (some ⟨b,0,none⟩) 1 1] [C,[(b,row (fl4 f) 42)]] fun v H'=>∃cd ca cs W,v= .int .i64 e∧H'=[aAi p.bw p.bd p.ba p.bs,cd,ca,cs,[(b,row (fl4 f) 42)]]∧Wc p.bd p.ba p.bs W cd ca cs∧bIe p ⟨e,er,Gf,a+s0*30000,s0*30000⟩ [f] W:=
 bMp p hR.ok _ C hJ.job f b
end
theorem bMq (bj bw:Nat) (e:Int) (p:Option Addr) (n cap:Nat) (m:Nat) (hm:m≤1000):
  Ct AC 109 [pv bj,.int .i64 (m:Int)] [aFg bj bw e p n cap] fun v H'=>v= .tuple #[]∧H'=[aFg bj bw (if e=0 then(m:Int) else e) p n cap]:=by
 unfold aFg
 by_cases he:e=0
 ·subst he
  rw[if_pos rfl]
  refine Ct.go Tryz.func109 Tryz.ntmps109 fun w0=> ?_
  repeat(refine st ?_;intros)
  (refine Dn.postEnd (Hr:=[[(bj,row [pv bw,.int .i64 (m:Int),.slice p n cap] 98)]]) Tryz.results109 (hR:= ?_);exact⟨rfl,rfl⟩)
 ·rw[if_neg he]
  refine Ct.go Tryz.func109 Tryz.ntmps109 fun w0=> ?_
  repeat(refine st ?_;intros)
  (refine Dn.postEnd (Hr:=[[(bj,row [pv bw,.int .i64 e,.slice p n cap] 98)]]) Tryz.results109 (hR:= ?_);exact⟨rfl,rfl⟩)
theorem aGh.orE {p:Jp} {B k a s0:Nat} {e:Int} {er:Option Nat} {Gf:List (Fl×List T5)} {C:aAc} (h:aGh p B k a s0 e er Gf C) (x:Option Nat) (hx:e=0→x=none):aGh p B k a s0 e (er.or x) Gf C:=by
 obtain⟨⟨W,cd,ca,cs,held,ph,cap,ch,h1,hW,hV,aa⟩,hl,hb⟩:=h
 refine⟨⟨W,cd,ca,cs,held,ph,cap,ch,h1,hW,hV,{aa with ok:=fun h=> ?_,why:=fun h=> ?_}⟩,hl,hb⟩
 ·obtain⟨a,b⟩:=aa.ok h
  dsimp only at b
  exact⟨a,by rw[b,hx h];rfl⟩
 ·refine(aa.why h).imp id ?_
  rintro⟨n,h1,h2⟩
  dsimp only at h1 h2
  exact⟨n,by rw[h1];rfl,h2⟩
theorem SFail {p:Jp} {B k a s0:Nat} {e:Int} {er:Option Nat} {Gf:List (Fl×List T5)} {C:aAc} (hJ:aGh p B k a s0 e er Gf C) (m:Nat) (ac:m≠0) (hm:m≤1000) (x:Option Nat) (hx:e=0→x=some m):
  Ct AC 109 [pv p.bj,.int .i64 (m:Int)] [C] fun v H'=>∃e' C',v= .tuple #[]∧H'=[C']∧aGh p B k a s0 e' (er.or x) Gf C'∧e'≠0:=by
 obtain⟨⟨W,cd,ca,cs,held,ph,cap,ch,rfl,hW,hV,aa⟩,hl,hb⟩:=hJ
 refine Ct.convP (Ct.wide (bMq p.bj p.bw e ph held.length cap m hm) [aAi p.bw p.bd p.ba p.bs,cd,ca,cs,ch]) (by unfold aJg;refine aEq fun z=> ?_;simp only[AW,A5,AQ,A0,BK];omega) ?_
 rintro v H' ⟨H1,⟨rfl,rfl⟩,rfl⟩
 have ab:(if e=0 then(m:Int) else e)≠0:=by split<;>omega
 refine⟨[aJg p (if e=0 then(m:Int) else e) cd ca cs ph held.length cap ch],⟨_,_,rfl,rfl,⟨⟨W,cd,ca,cs,held,ph,cap,ch,rfl,hW,hV,{aa with ok:=fun h=>absurd h ab,why:=fun _=> ?_}⟩,hl,hb⟩,ab⟩,?_⟩
 ·have hv:∀z:Int,z=(if e=0 then(m:Int) else e)→(z=6∧p.fl)∨∃n:Nat,er.or x=some n∧z=(n:Int):=by
   rintro z rfl
   by_cases he:e=0
   ·have:=(aa.ok he).2
    dsimp only at this
    rw[if_pos he,this,hx he]
    exact .inr ⟨m,rfl,rfl⟩
   ·rw[if_neg he]
    refine(aa.why he).imp id ?_
    rintro⟨n,h1,h2⟩
    dsimp only at h1 h2
    exact⟨n,by rw[h1];rfl,h2⟩
  exact hv _ rfl
 ·unfold aJg;refine aEq fun z=> ?_;simp only[AW,A5,AQ,A0,BK];omega
def mFl (Cx:Hp) (f:T5→List T5):aAt Unit:=⟨fun _=>Cx,fun _ t=>f t,fun _ _=>(),fun _ _=>none⟩
theorem aZk (Cx:Hp) (f:T5→List T5):∀(ts:List T5) (k:Unit),(mFl Cx f).all k ts=ts.flatMap f
 |[],_=>rfl
 |t::ts,k=>by simp only[aAt.all,aZk Cx f ts,A8];rfl
theorem mFl_C (Cx:Hp) (f:T5→List T5) (k:Unit):(mFl Cx f).C k=Cx:=rfl
theorem aFh {f:T5→List T5} {g:T5→T5} (h:∀t,f t=[g t]) (ts:List T5):ts.flatMap f=ts.map g:=by
 induction ts with
 |nil=>rfl
 |cons t ts ih=>rw[A8,ih,h];rfl
theorem bIm {f:T5→List T5} {n:Nat} (ts:List T5) (h:∀t∈ts,(f t).length≤n):(ts.flatMap f).length≤ts.length*n:=by
 induction ts with
 |nil=>simp
 |cons t ts ih=>
  have h1:=h t AH
  have h2:=ih fun u hu=>h u (AI _ hu)
  rw[A8,AF,AL,Nat.succ_mul];omega
theorem bRr {p:Jp} {B m k a s0:Nat} {e:Int} {er:Option Nat} {Gf:List (Fl×List T5)} {C:aAc} (hR:Rm p B m k a) (hJ:aGh p B k a s0 e er Gf C) (Cx:Hp) (f:T5→List T5) (width bound c κ:Nat) (ah:1≤width∧width≤5) (mk:Nat) (ab:Callable AC mk) (us:List Value) (aa:T5→Prop)
  (hM:aFt (mFl Cx f) width (fun _ t=>aa t) mk [] us) (hκ:∀t,aa t→(f t).length≤κ) (ai:κ≤5) (f0:Fl) (ts:List T5) (hs:(f0,ts)∈Gf∨In0 p (f0,ts)) (h0:f0.count≤1000∧f0.blocks≤1000) (ac:e=0→∀t∈ts,aa t) (ae:e=0→(ts.flatMap f).length≤bound)
  (hc:bound≤c∨(width≤3∧bound≤2*c)) (ad:c≤B) (hl:Gf.length+1≤k) (ag:s0≤10000) (b:Nat):
  Ct AC 52 [pv p.bj,.int .i64 (width:Int),.int .i64 (bound:Int),.func (.func mk) #[] us.toArray,.slice (some ⟨b,0,none⟩) 1 1] (C::[(b,row (fl4 f0) 42)]::Cx) fun v H'=>
   ∃g C' e',v=flv g∧H'=C'::[(b,row (fl4 f0) 42)]::Cx∧aGh p B k a (s0+1) e' er ((g,ts.flatMap f)::Gf) C'∧FB bound c width (ts.flatMap f).length e' g∧(e'=0→e=0):=by
 have h:=aTg hR hJ (mFl Cx f) (fun _ _=>rfl) () width bound c κ ah mk ab us _ hM (fun _ t ht=>hκ t ht) ai f0 ts hs h0
  (fun h=>aAt.oks_of (M:=mFl Cx f) (I:=fun _=>True) (Q:=aa) (fun _ t _ h=>⟨h,trivial⟩) ts () trivial (ac h)) (by rw[aZk];exact ae) hc ad hl ag b
 simp only[aZk,mFl_C] at h
 refine h.mono ?_
 rintro v H' ⟨g,C',e',k',h1,h2,h3,h4,h5⟩
 exact⟨g,C',e',h1,h2,h3,h4,fun h=>(h5 h).1⟩
theorem bOu (x y:Int):(if aMa x y≠0 then aMa x y else 0)<0↔x<y:=by unfold aMa;split<;>(repeat' split)<;>omega
theorem aNd (a b:T5):ltO o1 a b=true↔a.c0<b.c0:=by
 have hf:aGj o1=true:=by decide
 unfold ltO aJs
 rw[decide_eq_true_iff,if_pos hf]
 exact bOu a.c0 b.c0
theorem bRs (x y z w:Int):(if aMa x y≠0 then aMa x y else if aMa z w≠0 then aMa z w else 0)<0↔x<y∨x=y∧z<w:=by unfold aMa;(repeat' split)<;>omega
theorem aKi (a b:T5):ltO o12 a b=true↔a.c0<b.c0∨a.c0=b.c0∧a.c1<b.c1:=by
 have hf:aGj o12=true:=by decide
 unfold ltO aJs
 rw[decide_eq_true_iff,if_pos hf]
 exact bRs a.c0 b.c0 a.c1 b.c1
theorem aZl (once:Bool) (l:List T5):(srt (ltO o12) once l).Pairwise fun a c=>a.c0<c.c0∨a.c0=c.c0∧(if once then a.c1<c.c1 else a.c1≤c.c1):=by
 refine(aJv (aBy o12) once l).imp fun {a b} h=> ?_
 cases once with
 |true=>
  simp only[if_true] at h⊢
  exact(aKi a b).1 h
 |false=>
  simp only[CP,if_false] at h⊢
  have h1:¬ltO o12 b a=true:=by rw[h];decide
  rw[aKi] at h1
  omega
theorem bOv (l:List T5):(srt (ltO o1) false l).Pairwise fun a c=>a.c0≤c.c0:=by
 refine(aJv (aBy o1) false l).imp fun {a b} h=> ?_
 have h1:¬ltO o1 b a=true:=by
  intro h2
  simp only[CP,if_false] at h
  rw[h] at h2;cases h2
 rw[aNd] at h1
 omega
theorem bRt {o:T5} {once:Bool} {l:List T5} {z:T5} (h:z∈l):∃w∈srt (ltO o) once l,eqv (ltO o) z w=true:=by
 have h1:=bBv (aBy o) once l z
 have hz:eqv (ltO o) z z=true:=by
  rw[aCv]
  have:ltO o z z=false:=by
   cases h2:ltO o z z with
   |false=>rfl
   |true=>have:=(aBy o).asym z z h2;rw[h2] at this;cases this
  exact⟨this,this⟩
 have h2:z∈l.filter (eqv (ltO o) z):=B0.2 ⟨h,hz⟩
 cases h3:(srt (ltO o) once l).filter (eqv (ltO o) z) with
 |nil=>
  exfalso
  rw[h3] at h1
  cases h4:l.filter (eqv (ltO o) z) with
  |nil=>rw[h4] at h2;cases h2
  |cons a b=>
   rw[h4] at h1
   cases once<;>simp[aGz] at h1
 |cons a b=>
  have h4:a∈(srt (ltO o) once l).filter (eqv (ltO o) z):=by rw[h3];exact AH
  obtain⟨h5,h6⟩:=B0.1 h4
  exact⟨a,h5,h6⟩
theorem aWx {a b:T5}:eqv (ltO o1) a b=true↔a.c0=b.c0:=by
 have h1:ltO o1 a b=false↔¬a.c0<b.c0:=by rw[←aNd];simp
 have h2:ltO o1 b a=false↔¬b.c0<a.c0:=by rw[←aNd];simp
 rw[aCv,h1,h2];omega
theorem bRu (a:T5):eqv (ltO o1) a=fun b=>decide (a.c0=b.c0):=by
 funext b
 cases h:eqv (ltO o1) a b with
 |true=>exact(decide_eq_true (aWx.1 h)).symm
 |false=>
  refine(decide_eq_false fun h2=> ?_).symm
  rw[aWx.2 h2] at h;cases h
theorem aTh (l:List T5):(srt (ltO o1) true l).Pairwise fun a c=>a.c0<c.c0:=
 (aJv (aBy o1) true l).imp fun {a b} h=>(aNd a b).1 oA11
theorem bMr {l:List T5} {z:T5}:z∈srt (ltO o1) true l↔(l.filter fun b=>decide (z.c0=b.c0)).head? =some z:=by
 have hp:=bBv (aBy o1) true l z
 have hs:=aTh l
 rw[bRu] at hp
 simp only[aGz,if_true] at hp
 have hh:∀m:List T5,m.head? =some z↔m.take 1=[z]:=by
  intro m;cases m<;>simp
 rw[hh,hp]
 constructor
 ·intro hz
  have hm:z∈(srt (ltO o1) true l).filter fun b=>decide (z.c0=b.c0):=B0.2 ⟨hz,by simp⟩
  have ab:((srt (ltO o1) true l).filter fun b=>decide (z.c0=b.c0)).Pairwise fun a c=>a.c0<c.c0:=hs.sublist List.filter_sublist
  have aa:∀y∈(srt (ltO o1) true l).filter fun b=>decide (z.c0=b.c0),z.c0=y.c0:=fun y hy=>by simpa using(B0.1 hy).2
  generalize (srt (ltO o1) true l).filter (fun b=>decide (z.c0=b.c0))=m at*
  match m,hm,ab,aa with
  |[a],hm,_,_=>simp only[AT] at hm;subst hm;rfl
  |a::b::m,_,ab,aa=>
   have h1:=CA ab (AH (a:=b) (l:=m))
   have h2:=aa a oA15
   have h3:=aa b oA15
   omega
 ·intro h
  have h1:z∈((srt (ltO o1) true l).filter fun b=>decide (z.c0=b.c0)).take 1:=by rw[h];exact AT.2 rfl
  exact(B0.1 (List.mem_of_mem_take h1)).1
theorem okT2eq {a b:T5} (ha:okT 2 a) (hb:okT 2 b) (h0:a.c0=b.c0) (h1:a.c1=b.c1):a=b:=by
 have e2:a.c2=b.c2:=by have x:=ha.2 2 oM;have y:=hb.2 2 oM;exact x.trans y.symm
 have e3:a.c3=b.c3:=by have x:=ha.2 3 oM;have y:=hb.2 3 oM;exact x.trans y.symm
 have e4:a.c4=b.c4:=by have x:=ha.2 4 oM;have y:=hb.2 4 oM;exact x.trans y.symm
 cases a;cases b
 simp only[T5.mk.injEq]
 exact⟨h0,h1,e2,e3,e4⟩
theorem aWy {m:List T5} (hm:∀t∈m,okT 2 t) {z:T5}:z∈srt (ltO o1) true (srt (ltO o12) false m)↔z∈m∧∀y∈m,y.c0=z.c0→z.c1≤y.c1:=by
 rw[bMr]
 have hs:((srt (ltO o12) false m).filter fun b=>decide (z.c0=b.c0)).Pairwise fun a c=>a.c0<c.c0∨a.c0=c.c0∧a.c1≤c.c1:=((aZl false m).imp fun h=>by simpa using h).sublist List.filter_sublist
 have aa:∀y,y∈(srt (ltO o12) false m).filter (fun b=>decide (z.c0=b.c0))↔y∈m∧y.c0=z.c0:=fun y=>by
  rw[B0,(aBa m).mem_iff];simp[eq_comm]
 generalize (srt (ltO o12) false m).filter (fun b=>decide (z.c0=b.c0))=s at*
 constructor
 ·intro h
  match s,h with
  |a::s,h=>
   simp only[List.head?_cons,BA] at h
   subst h
   refine⟨((aa a).1 AH).1,fun y hy hq=> ?_⟩
   rcases AM.1 ((aa y).2 ⟨hy,hq⟩) with rfl|h2
   ·omega
   ·have:=CA hs h2;omega
 ·rintro⟨hz,ab⟩
  have h1:=(aa z).2 ⟨hz,rfl⟩
  match s,h1 with
  |a::s,h1=>
   simp only[List.head?_cons,BA]
   obtain⟨ha,hq⟩:=(aa a).1 AH
   rcases AM.1 h1 with rfl|h2
   ·rfl
   ·have h3:=CA hs h2
    have h4:=ab a ha hq
    exact okT2eq (hm a ha) (hm z hz) hq oM
theorem bIn {lt:T5→T5→Bool} (h:Swo lt) {x:T5}:∀{s:List T5},Sd lt true s→((∃y∈s,eqv lt x y=true)→(aWn lt true x s).length=s.length)∧((∀y∈s,eqv lt x y=false)→(aWn lt true x s).length=s.length+1)
 |[],_=>⟨fun ⟨_,h,_⟩=>(nomatch h),fun _=>rfl⟩
 |y::s,hs=>by
  obtain⟨h1,h2⟩:=BF.1 hs
  obtain⟨i1,i2⟩:=bIn h (x:=x) (s:=s) h2
  unfold aWn
  cases hyx:lt y x with
  |true=>
   have aa:eqv lt x y=false:=by simp[eqv,hyx]
   simp only[if_true,AL]
   refine⟨?_,fun ha=>by rw[i2 fun z hz=>ha z (AI _ hz)]⟩
   rintro⟨z,hz,he⟩
   rcases AM.1 hz with rfl|hz
   ·rw[aa] at he;cases he
   ·rw[i1 ⟨z,hz,he⟩]
  |false=>
   simp only[CP,if_false]
   cases hxy:lt x y with
   |true=>
    simp only[Bool.not_true,Bool.and_false,CP,if_false,AL,and_true]
    refine⟨?_,fun _=>trivial⟩
    rintro⟨z,hz,he⟩
    exfalso
    rcases AM.1 hz with rfl|hz
    ·simp[eqv,hxy] at he
    ·have h3:=h1 z hz
     simp only[if_true] at h3
     obtain⟨a,b⟩:=aCv.1 he
     have:=h.ntrans x z y a (h.asym _ _ h3)
     rw[hxy] at this;cases this
   |false=>
    simp only[Bool.not_false,Bool.and_true,if_true,AL]
    refine⟨fun _=>trivial,fun ha=> ?_⟩
    have:=ha y AH
    simp[eqv,hxy,hyx] at this
theorem bBz:∀(l:List T5),(srt (ltO o1) true l).length=l.length↔l.Pairwise fun a c=>a.c0≠c.c0
 |[]=>by simp[srt]
 |x::l=>by
  have ih:=bBz l
  have ab:=bHy (lt:=ltO o1) (once:=true) l
  obtain⟨h1,h2⟩:=bIn (aBy o1) (x:=x) (aJv (aBy o1) true l)
  rw[BF]
  simp only[srt,AL]
  by_cases hx:∀y∈srt (ltO o1) true l,eqv (ltO o1) x y=false
  ·rw[h2 hx]
   have h3:∀y∈l,x.c0≠y.c0:=by
    intro y hy hq
    obtain⟨w,hw,he⟩:=bRt (o:=o1) (once:=true) hy
    have h4:=hx w hw
    have h5:=aWx.1 he
    rw[aWx.2 (hq.trans h5)] at h4;cases h4
   constructor
   ·intro h;exact⟨h3,ih.1 oM⟩
   ·rintro⟨_,h⟩;rw[ih.2 h]
  ·have aa:∃y∈srt (ltO o1) true l,eqv (ltO o1) x y=true:=by
    simp only[Classical.not_forall,Bool.not_eq_false] at hx
    obtain⟨y,hy,he⟩:=hx
    exact⟨y,hy,he⟩
   rw[h1 aa]
   obtain⟨y,hy,he⟩:=aa
   constructor
   ·intro h;omega
   ·rintro⟨h3,_⟩
    exact absurd (aWx.1 he) (h3 y (aDf hy))
def aJw (v:Nat→Int) (i:Nat):Nat→Int
 |0=>v i
 |n+1=>min (aJw v i n) (v (i+n+1))
theorem aTi (v:Nat→Int) (i:Nat):∀(n j:Nat),j≤n→aJw v i n≤v (i+j)
 |0,j,h=>by
  obtain rfl:j=0:=by omega
  exact Int.le_refl _
 |n+1,j,h=>by
  simp only[aJw]
  by_cases hj:j≤n
  ·have:=aTi v i n j hj;omega
  ·obtain rfl:j=n+1:=by omega
   have:i+(n+1)=i+n+1:=by omega
   rw[this];omega
theorem aPr (v:Nat→Int) (i:Nat):∀n:Nat,∃j,j≤n∧aJw v i n=v (i+j)
 |0=>⟨0,AG _,rfl⟩
 |n+1=>by
  obtain⟨j,hj,h⟩:=aPr v i n
  simp only[aJw]
  by_cases hc:aJw v i n≤v (i+n+1)
  ·exact⟨j,oM,by rw[←h];omega⟩
  ·exact⟨n+1,AG _,by
    have:i+(n+1)=i+n+1:=by omega
    rw[this];omega⟩
theorem bIo {v:Nat→Int} {i n:Nat} {x:Int} (h1:∀j,j≤n→x≤v (i+j)) (h2:∃j,j≤n∧x=v (i+j)):x=aJw v i n:=by
 obtain⟨j,hj,rfl⟩:=h2
 obtain⟨k,hk,h3⟩:=aPr v i n
 have:=aTi v i n j hj
 have:=h1 k hk
 omega
theorem bCa (v:Nat→Int) (i n m:Nat) (h:m≤n+1):min (aJw v i n) (aJw v (i+m) n)=aJw v i (n+m):=by
 obtain⟨a,ha,h1⟩:=aPr v i n
 obtain⟨b,hb,h2⟩:=aPr v (i+m) n
 refine bIo (fun j hj=> ?_) ?_
 ·by_cases aa:j≤n
  ·have:=aTi v i n j aa;omega
  ·have h3:=aTi v (i+m) n (j-m) oM
   have:i+m+(j-m)=i+j:=by omega
   rw[this] at h3;omega
 ·by_cases hc:aJw v i n≤aJw v (i+m) n
  ·exact⟨a,oM,by rw[←h1];omega⟩
  ·exact⟨m+b,oM,by
    have:i+(m+b)=i+m+b:=by omega
    rw[this,←h2];omega⟩
def at0 (ts:List T5) (i:Nat):Int:=(ts.getD i T5.zero).c0
theorem aNe {ts:List T5} {i:Nat} {t:T5} (h:ts[i]? =some t):at0 ts i=t.c0:=by unfold at0;rw[AN,h];rfl
def bIp (on:Nat) (ts:List T5):List T5:=aCy (fun i=>⟨min (at0 ts i) (at0 ts (i+on)),0,0,0,0⟩) (ts.length-on)
def aUn (vts:List T5) (k:Nat):List T5:=aCy (fun i=>⟨aJw (at0 vts) i (2^k-1),0,0,0,0⟩) (vts.length+1-2^k)
theorem aRx {out:Nat→T5} {n i:Nat} (h:i<n):(aCy out n)[i]? =some (out i):=by simp[aCy,h]
theorem aWz {out aa:Nat→T5} {n:Nat} (h:∀i,i<n→out i=aa i):aCy out n=aCy aa n:=by
 unfold aCy
 exact List.map_congr_left fun i hi=>h i (List.mem_range.1 hi)
theorem aOb (vts:List T5) (k:Nat):(aUn vts k).length=vts.length+1-2^k:=by unfold aUn;rw[aHe]
theorem aZm {vts:List T5} {k i:Nat} (h:i+2^k≤vts.length):at0 (aUn vts k) i=aJw (at0 vts) i (2^k-1):=by
 unfold aUn
 have:=Nat.two_pow_pos k
 rw[aNe (aRx oM)]
theorem bIq {vts:List T5} (h:∀t∈vts,okT 1 t):aUn vts 0=vts:=by
 apply CH
 intro i
 by_cases hi:i<vts.length
 ·have h1:vts[i]? =some vts[i]:=AE hi
  unfold aUn
  rw[aRx (by simpa using hi),h1]
  have h2:=(h vts[i] (B5 hi)).2
  simp only[Nat.pow_zero,Nat.sub_self,aJw,aNe h1,BA]
  generalize vts[i]=t at*
  cases t
  simp only[T5.mk.injEq,true_and]
  exact⟨(h2 1 oM).symm,(h2 2 oM).symm,(h2 3 oM).symm,(h2 4 oM).symm⟩
 ·rw[BL (by rw[aOb];simpa using hi),BL oM]
theorem bIr (vts:List T5) (k:Nat):bIp (2^k) (aUn vts k)=aUn vts (k+1):=by
 have hp:=Nat.two_pow_pos k
 have e:2^(k+1)=2^k+2^k:=by rw[Nat.pow_succ];omega
 unfold bIp
 rw[aOb]
 have hl:vts.length+1-2^k-2^k=vts.length+1-2^(k+1):=oM
 rw[hl]
 unfold aUn
 refine aWz fun i hi=> ?_
 rw[show aCy (fun i=>(⟨aJw (at0 vts) i (2^k-1),0,0,0,0⟩:T5)) (vts.length+1-2^k)=aUn vts k from rfl,aZm oM,aZm oM,bCa _ _ _ _ oM]
 have:2^k-1+2^k=2^(k+1)-1:=by omega
 rw[this]
def okQ (n:Nat) (q:T5):Prop:=0≤q.c0∧0≤q.c1∧q.c1≤q.c2∧q.c2<n
instance (n:Nat) (q:T5):Decidable (okQ n q):=by unfold okQ;infer_instance
def bMs (n:Nat) (qts:List T5):Prop:=(∀q∈qts,okQ n q)∧qts.Pairwise fun a c=>a.c0≠c.c0
def lgQ (q:T5):Nat:=Nat.log2 (q.c2-q.c1+1).toNat
theorem bCb {n:Nat} {q:T5} (h:okQ n q):((2^lgQ q:Nat):Int)≤q.c2-q.c1+1∧q.c2-q.c1+1<((2^(lgQ q+1):Nat):Int):=by
 unfold okQ at h
 unfold lgQ
 generalize hx:(q.c2-q.c1+1).toNat=x
 have aa:x≠0:=oM
 have h1:=Nat.log2_self_le aa
 have h2:=Nat.lt_log2_self (n:=x)
 omega
def aIa (q:T5):List T5:=[⟨(lgQ q:Int),q.c1,q.c0,0,0⟩,⟨(lgQ q:Int),q.c2-((2^lgQ q:Nat):Int)+1,q.c0,0,0⟩]
def aBc (qts:List T5):List T5:=srt (ltO o12) false (qts.flatMap aIa)
def aDk (vts:List T5) (p:T5):T5:=⟨p.c2,aJw (at0 vts) p.c1.toNat (2^p.c0.toNat-1),0,0,0⟩
def aCz (vts qts:List T5):List T5:=srt (ltO o1) true (srt (ltO o12) false ((aBc qts).map (aDk vts)))
def okP (n:Nat) (p:T5):Prop:=0≤p.c0∧0≤p.c1∧p.c1+((2^p.c0.toNat:Nat):Int)≤n
theorem bMt {n:Nat} {q:T5} (h:okQ n q):∀p∈aIa q,okP n p:=by
 have h1:=bCb h
 have h2:=Nat.two_pow_pos (lgQ q)
 unfold okQ at h
 intro p hp
 unfold aIa at hp
 simp only[AM,B6,or_false] at hp
 rcases hp with rfl|rfl
 ·unfold okP;dsimp only;rw[AR];omega
 ·unfold okP;dsimp only;rw[AR];omega
theorem aJh {aa:List T5} {p:T5}:p∈aBc aa↔∃q∈aa,p∈aIa q:=by
 unfold aBc
 rw[(aBa _).mem_iff,List.mem_flatMap]
theorem bEl (aa:List T5):(aBc aa).length=2*aa.length:=by
 unfold aBc
 rw[(aBa _).length_eq]
 induction aa with
 |nil=>rfl
 |cons q l ih=>rw[A8,AF,ih];simp[aIa];omega
theorem aTj (aa:List T5):(aBc aa).Pairwise fun a c=>a.c0<c.c0∨a.c0=c.c0∧a.c1≤c.c1:=(aZl false _).imp fun h=>by simpa using h
def ansQ (vts:List T5) (q:T5):T5:=⟨q.c0,aJw (at0 vts) q.c1.toNat (q.c2-q.c1).toNat,0,0,0⟩
theorem bIs {vts:List T5} {n:Nat} {q:T5} (h:okQ n q):min (aJw (at0 vts) q.c1.toNat (2^lgQ q-1)) (aJw (at0 vts) (q.c2-((2^lgQ q:Nat):Int)+1).toNat (2^lgQ q-1))=aJw (at0 vts) q.c1.toNat (q.c2-q.c1).toNat:=by
 have h1:=bCb h
 have h2:=Nat.two_pow_pos (lgQ q)
 rw[Nat.pow_succ] at h1
 unfold okQ at h
 have h3:=bCa (at0 vts) q.c1.toNat (2^lgQ q-1) ((q.c2-q.c1+1).toNat-2^lgQ q) oM
 have e1:q.c1.toNat+((q.c2-q.c1+1).toNat-2^lgQ q)=(q.c2-((2^lgQ q:Nat):Int)+1).toNat:=oM
 have e2:2^lgQ q-1+((q.c2-q.c1+1).toNat-2^lgQ q)=(q.c2-q.c1).toNat:=oM
 rw[e1,e2] at h3
 exact h3
theorem aHf {vts:List T5} (h:∀t∈vts,aAv t.c0) (i n:Nat):aAv (aJw (at0 vts) i n):=by
 obtain⟨j,_,h1⟩:=aPr (at0 vts) i n
 rw[h1]
 by_cases hi:i+j<vts.length
 ·rw[aNe (AE hi)];exact h _ (B5 hi)
 ·unfold at0;rw[AN,BL oM];exact aLt
theorem aEr {vts aa:List T5} {y:T5}:y∈(aBc aa).map (aDk vts)↔∃q∈aa,y=⟨q.c0,aJw (at0 vts) q.c1.toNat (2^lgQ q-1),0,0,0⟩∨y=⟨q.c0,aJw (at0 vts) (q.c2-((2^lgQ q:Nat):Int)+1).toNat (2^lgQ q-1),0,0,0⟩:=by
 rw[AU]
 constructor
 ·rintro⟨p,hp,rfl⟩
  obtain⟨q,hq,h⟩:=aJh.1 hp
  refine⟨q,hq,?_⟩
  unfold aIa at h
  simp only[AM,B6,or_false] at h
  rcases h with rfl|rfl
  ·left;simp[aDk]
  ·right;simp[aDk]
 ·rintro⟨q,hq,rfl|rfl⟩
  ·exact⟨⟨(lgQ q:Int),q.c1,q.c0,0,0⟩,aJh.2 ⟨q,hq,by simp[aIa]⟩,by simp[aDk]⟩
  ·exact⟨⟨(lgQ q:Int),q.c2-((2^lgQ q:Nat):Int)+1,q.c0,0,0⟩,aJh.2 ⟨q,hq,by simp[aIa]⟩,by simp[aDk]⟩
theorem bIt {α:Type} {f:α→Int}:∀{l:List α},l.Pairwise (fun a c=>f a≠f c)→∀{x y:α},x∈l→y∈l→f x=f y→x=y
 |[],_,x,y,h,_,_=>nomatch h
 |a::l,hp,x,y,hx,hy,he=>by
  rw[BF] at hp
  rcases AM.1 hx with rfl|ab
  ·rcases AM.1 hy with rfl|aa
   ·rfl
   ·exact absurd he (hp.1 y aa)
  ·rcases AM.1 hy with rfl|aa
   ·exact absurd he.symm (hp.1 x ab)
   ·exact bIt hp.2 ab aa he
theorem bEm {vts aa:List T5} (hv:∀t∈vts,aAv t.c0) (hi:∀q∈aa,aAv q.c0) (hq:bMs vts.length aa) {z:T5}:z∈aCz vts aa↔∃q∈aa,z=ansQ vts q:=by
 have ad:∀t∈(aBc aa).map (aDk vts),okT 2 t:=by
  intro t ht
  obtain⟨q,hm,rfl|rfl⟩:=aEr.1 ht
  ·exact bEh (hi q hm) (aHf hv _ _)
  ·exact bEh (hi q hm) (aHf hv _ _)
 unfold aCz
 rw[aWy ad]
 have ab:∀{q q':T5},q∈aa→q'∈aa→q.c0=q'.c0→q=q':=fun h1 h2 h3=>bIt (f:=fun t:T5=>t.c0) hq.2 h1 h2 h3
 constructor
 ·rintro⟨hz,ac⟩
  obtain⟨q,hm,h⟩:=aEr.1 hz
  have h2:=bIs (vts:=vts) (hq.1 q hm)
  have ha:=ac _ (aEr.2 ⟨q,hm,.inl rfl⟩) (by rcases h with rfl|rfl<;>rfl)
  have hb:=ac _ (aEr.2 ⟨q,hm,.inr rfl⟩) (by rcases h with rfl|rfl<;>rfl)
  refine⟨q,hm,?_⟩
  unfold ansQ
  rw[←h2]
  rcases h with rfl|rfl
  ·dsimp only at ha hb⊢
   congr 1;omega
  ·dsimp only at ha hb⊢
   congr 1;omega
 ·rintro⟨q,hm,rfl⟩
  have h2:=bIs (vts:=vts) (hq.1 q hm)
  unfold ansQ
  constructor
  ·rw[←h2]
   refine aEr.2 ⟨q,hm,?_⟩
   by_cases hc:aJw (at0 vts) q.c1.toNat (2^lgQ q-1)≤aJw (at0 vts) (q.c2-((2^lgQ q:Nat):Int)+1).toNat (2^lgQ q-1)
   ·left;congr 1;omega
   ·right;congr 1;omega
  ·intro y hy h0
   dsimp only at h0⊢
   obtain⟨q',ae,h⟩:=aEr.1 hy
   have ag:q'=q:=ab ae hm (by rw[←h0];rcases h with rfl|rfl<;>rfl)
   subst ag
   rw[←h2]
   rcases h with rfl|rfl
   ·dsimp only;omega
   ·dsimp only;omega
theorem aPs (vts aa:List T5):(aCz vts aa).Pairwise fun a c=>a.c0<c.c0:=aTh _
abbrev oK (col:Nat):T5:=⟨(col:Int)+1,0,0,0,0⟩
theorem ltO_oK {col:Nat} (h:col<5) (a b:T5):ltO (oK col) a b=true↔a.col col<b.col col:=by
 have hc:col=0∨col=1∨col=2∨col=3∨col=4:=oM
 rcases hc with rfl|rfl|rfl|rfl|rfl
 all_goals
  rw[ltO,aJs,decide_eq_true_iff,if_pos oA14]
  exact bOu _ _
theorem aLf {col:Nat} (h:col<5):aGj (oK col)=true:=by
 have hc:col=0∨col=1∨col=2∨col=3∨col=4:=oM
 rcases hc with rfl|rfl|rfl|rfl|rfl<;>decide
theorem bCc {col:Nat} (h:col<5) (l:List T5):(srt (ltO (oK col)) false l).Pairwise fun a c=>a.col col≤c.col col:=by
 refine(aJv (aBy (oK col)) false l).imp fun {a b} hh=> ?_
 have h1:¬ltO (oK col) b a=true:=by
  intro h2
  simp only[CP,if_false] at hh
  rw[hh] at h2;cases h2
 rw[ltO_oK h] at h1
 omega
def aDo (v col:Nat) (hts ts:List T5):List T5:=(srt (ltO (oK col)) false ts).map (aDu hts col v col)
theorem aCr (v col:Nat) (hts ts:List T5):(aDo v col hts ts).length=ts.length:=by unfold aDo;rw[AY,(aBa _).length_eq]
theorem aJi (v col:Nat) (hts ts:List T5):(aDo v col hts ts).Perm (ts.map (aDu hts col v col)):=(aBa (lt:=ltO (oK col)) ts).map _
theorem aJj {w wa:Nat} {hts ts:List T5} (hh:∀t∈hts,okT wa t) (h:∀t∈ts,okT w t) (v col:Nat) (hc:col<w) (hw:w≤5):∀t∈aDo v col hts ts,okT w t:=by
 intro t ht
 unfold aDo at ht
 obtain⟨u,hu,rfl⟩:=AU.1 ht
 have:=aNz hh col v col oM (h u (aDf hu))
 rwa[show max w (col+1)=w by omega] at this
end Go.Proofs.YtaofijjjheiknaaGreat
namespace Go.SL
variable {P:Program} {ops:Array Oper} {Q:Exit→Act→World→Prop} {cls:Nat→Oper→Cls} {w0:World} {S:List Nat} {n:Nat} {l:List (Nat×Oper)} {L:aBk} {D:List Deferred} {H:Hp} {qs:List Rd} {k:Nat}
end Go.SL
namespace Go.Proofs.YtaofijjjheiknaaGreat
open Go.SL Go.Spc Go.Tup Go.Srt
theorem aGm.mono {p:Jp} {J:Jb} {mk:Nat} {us:List Value} {Hx:Hp} {A T:Nat} {er:Option Nat} {ts:List T5} {R R':Fl→Int→Hp→Prop} (h:aGm p J mk us Hx A T er ts R) (hr:∀f e Hx',R f e Hx'→R' f e Hx'):aGm p J mk us Hx A T er ts R':=by
 intro W cd ca cs held ph cap h1 h2
 refine(h W cd ca cs held ph cap h1 h2).mono ?_
 rintro v H' ⟨f,e,aa,ab,ac,W',Hx',a1,a2,a3,a4,a5⟩
 exact⟨f,e,aa,ab,ac,W',Hx',a1,a2,a3,a4,hr _ _ _ a5⟩
theorem aLr.lives {p:Jp} {J:Jb} {held:List (Fl×List T5)} {W:Wk} (h:aLr p J held W) (he:J.e=0):W.live.length≤J.G.length+p.L0.length∧aBg W.live=(J.G.map (·.1.blocks)).sum+aBg p.L0:=by
 obtain⟨hp,_⟩:=h.ok he
 have h1:=h.live.length_eq
 have h2:=aGl (held.map (·.1)) p.L0
 have h3:aBg W.live=_:=(aFy h.live).trans (aGg _ _)
 have h4:=hp.length_eq
 have h5:(held.map (·.1)).map (·.blocks)=held.map (·.1.blocks):=by simp
 have h6:=(hp.map (·.1.blocks)).sum_nat
 rw[AY] at h2
 rw[h5,h6] at h3
 exact⟨oM,h3⟩
theorem vec3 (b:Nat) (f1 f2 f3:Fl):Vec 42 4 (some ⟨b,0,none⟩) [f1,f2,f3].length 3 (aAj [f1,f2,f3]) [(b,row (fl4 f1++(fl4 f2++fl4 f3)) 42)]:=
 ⟨rfl,.inr ⟨b,[],rfl,by simp[aAj,fl4],by simp[aAj],by simp,by decide⟩⟩
theorem vec4 (b:Nat) (f1 f2 f3 f4:Fl):Vec 42 4 (some ⟨b,0,none⟩) [f1,f2,f3,f4].length 4 (aAj [f1,f2,f3,f4]) [(b,row (fl4 f1++(fl4 f2++(fl4 f3++(fl4 f4)))) 42)]:=
 ⟨rfl,.inr ⟨b,[],rfl,by simp[aAj,fl4],by simp[aAj],by simp,by decide⟩⟩
def aNf (bj b8 b4 bc b5:Nat) (fa fb:Fl) (key:Nat):Hp:=[[(b8,row [pv bj] 84)],[(b4,row (fl4 fa) 42)],[(bc,row [.int .i64 (key:Int)] 3)],[(b5,row (fl4 fb) 42)]]
theorem eQ2:∀f:Fl,fl4 f=[.int .i64 (f.first:Int),.int .i64 (f.blocks:Int),.int .i64 (f.width:Int),.int .i64 (f.count:Int)]:=fun _=>rfl
theorem nbLook (p:Jp) (fa fb:Fl) (b8 b4 bc b5:Nat) (J:Jb) (A T:Nat) (ts:List T5) (Rl:Fl→Int→Prop) (key:Nat) (hL:bEk p J fa fb key 2 key A T ts Rl):
  aGm p J 123 [pv b8,pv b4,pv bc,pv b5] (aNf p.bj b8 b4 bc b5 fa fb key) A T none ts fun f' e Hx'=>Hx'=aNf p.bj b8 b4 bc b5 fa fb key∧Rl f' e:=by
 intro W cd ca cs held ph ac hW ah
 have hL:=hL W cd ca cs held hW ah
 have aa:=eQ0
 have ab:=eQ2
 rw[aa fa,aa fb] at hL
 unfold aFg aNf
 rw[ab fa,ab fb]
 refine Ct.go Tryz.func123 Tryz.ntmps123 fun w0=> ?_
 repeat(refine sv ?_;intros)
 refine R.callX (hct:=hL) (h:= ?_)
 rintro _ _ ⟨f',e,ad,ae,ag,W',rfl,rfl,ai,hS,hR⟩
 dsimp only[AA,AB]
 refine nx ?_
 rw[aa]
 repeat(refine sv ?_;intros)
 (refine Dn.post (Hr:=[[(p.bj,row [pv p.bw,.int .i64 0,.slice ph held.length ac] 98)],aAi p.bw p.bd p.ba p.bs,ad,ae,ag,[(b8,row [pv p.bj] 84)],[(b4,row [.int .i64 (fa.first:Int),.int .i64 (fa.blocks:Int),.int .i64 (fa.width:Int),.int .i64 (fa.count:Int)] 42)],[(bc,row [.int .i64 (key:Int)] 3)],[(b5,row [.int .i64 (fb.first:Int),.int .i64 (fb.blocks:Int),.int .i64 (fb.width:Int),.int .i64 (fb.count:Int)] 42)]]) Tryz.results123 (hR:= ?_);exact⟨f',e,ad,ae,ag,W',_,rfl,rfl,ai,hS,rfl,hR⟩)
theorem aKj {p:Jp} {B m k a s0:Nat} {e:Int} {er:Option Nat} {Gf:List (Fl×List T5)} {C:aAc} (hR:Rm p B m k a) (hJ:aGh p B k a s0 e er Gf C) (f ft:Fl) (ts hts:List T5) (G':List (Fl×List T5)) (col:Nat) (a1:col<4)
  {b c n w bt ct wt nt:Nat} (hF:FB b c w n e f) (ap:FB bt ct wt nt e ft) (hP:Pk (f,ts) Gf G') (am:(ft,hts)∈G'∨In0 p (ft,hts)) (aq:col<w) (al:w≤5) (hv:2<wt) (ae:e=0→hts.Pairwise fun a c=>a.c0<c.c0) (an:e=0→ts.length=n)
  (hb:b≤1000∧c≤1000∧bt≤1000∧ct≤1000) (ao:b≤c∨(w≤3∧b≤2*c)) (ag:c≤B) (hT:aFb c≤m) (hk:Gf.length+1≤k) (a2:s0≤9900):
  Ct AC 58 [pv p.bj,flv f,.int .i64 (col:Int),flv ft] [C] fun v H'=>∃g C' e',v=flv g∧H'=[C']∧aGh p B k a (s0+2) e' er ((g,aDo 2 col hts ts)::G') C'∧FB b c w n e' g∧(e'=0→e=0):=by
 have aa:=eQ0
 have ad:=eQ2
 have au:tv (oK col)= .agg #[.int .i64 ((col:Int)+1),.int .i64 0,.int .i64 0,.int .i64 0,.int .i64 0]:=rfl
 have a3:AJ .i64 ((col:Int)+1)=(col:Int)+1:=aAd oM
 have av:=hP.perm.length_eq
 rw[AL] at av
 have ah:=aLe hR hJ f ts G' (oK col) (aLf oM) false hF hP hb.1 ag hT oM
 rw[aa,au] at ah
 rw[aa,aa ft]
 refine Ct.go Tryz.func58 Tryz.ntmps58 fun w0=> ?_
 repeat(refine st ?_;intros)
 repeat(refine st ?_;intros)
 refine R.callX (hct:=ah) (h:= ?_)
 rintro _ _ ⟨g1,C1,e1,rfl,rfl,aw,ax,ab⟩
 dsimp only[AA,AB]
 refine nx ?_
 try rw[aa]
 have ai:=fun b8 b4 bc b5=>aOa hR aw 123 inferInstance g1 ft (srt (ltO (oK col)) false ts) hts col 2 col w c oA2 (am.imp (fun h=>AI _ h) id) (fun J A T ay R h=>nbLook p g1 ft b8 b4 bc b5 J A T ay R col h) ax (ap.mono ab) ⟨hb.1,hb.2.1,hb.2.2⟩ aq hv oM oM al
  (fun _=>bCc oM _) (fun h=>ae (ab h)) ao ag (by simp only[AL];omega) oM
 simp only[aNf,ad] at ai
 repeat(refine st ?_;intros)
 refine R.callX (hct:=ai _ _ _ _) (h:= ?_)
 rintro _ _ ⟨g2,C2,e2,rfl,rfl,az,ac,aj⟩
 dsimp only[AA,AB]
 refine nx ?_
 try rw[aa]
 have ak:=fun b=>bIk hR az [(g1,srt (ltO (oK col)) false ts)] ((g2,aDo 2 col hts ts)::G') (.cons (.there .here) .nil) oA15 _ 1 _ (vec1 b g1)
 simp only[ad,AZ,D7,AA,AB] at ak
 repeat(refine st ?_;intros)
 refine R.callX (hct:=ak _) (h:= ?_)
 rintro _ _ ⟨C3,rfl,rfl,a0⟩
 dsimp only[AA,AB]
 refine nx ?_
 repeat(refine st ?_;intros)
 (refine Dn.post (Hr:=[C3]) Tryz.results58 (hR:= ?_);exact⟨g2,C3,e2,rfl,rfl,a0,⟨ac.cnt,ac.blk,fun h=>⟨(ac.ok h).1,by rw[(ac.ok h).2,(aBa _).length_eq,an (ab (aj h))]⟩⟩,fun h=>ab (aj h)⟩)
theorem bRv (p:Jp) (fa fb:Fl) (b8 b4 bc b5:Nat) (J:Jb) (A T:Nat) (ts:List T5) (Rl:Fl→Int→Prop) (key:Nat) (hL:bEk p J fa fb key 1 key A T ts Rl):
  aGm p J 122 [pv b8,pv b4,pv bc,pv b5] (aNf p.bj b8 b4 bc b5 fa fb key) A T none ts fun f' e Hx'=>Hx'=aNf p.bj b8 b4 bc b5 fa fb key∧Rl f' e:=by
 intro W cd ca cs held ph ac hW ah
 have hL:=hL W cd ca cs held hW ah
 have aa:=eQ0
 have ab:=eQ2
 rw[aa fa,aa fb] at hL
 unfold aFg aNf
 rw[ab fa,ab fb]
 refine Ct.go Tryz.func122 Tryz.ntmps122 fun w0=> ?_
 repeat(refine sv ?_;intros)
 refine R.callX (hct:=hL) (h:= ?_)
 rintro _ _ ⟨f',e,ad,ae,ag,W',rfl,rfl,ai,hS,hR⟩
 dsimp only[AA,AB]
 refine nx ?_
 rw[aa]
 repeat(refine sv ?_;intros)
 (refine Dn.post (Hr:=[[(p.bj,row [pv p.bw,.int .i64 0,.slice ph held.length ac] 98)],aAi p.bw p.bd p.ba p.bs,ad,ae,ag,[(b8,row [pv p.bj] 84)],[(b4,row [.int .i64 (fa.first:Int),.int .i64 (fa.blocks:Int),.int .i64 (fa.width:Int),.int .i64 (fa.count:Int)] 42)],[(bc,row [.int .i64 (key:Int)] 3)],[(b5,row [.int .i64 (fb.first:Int),.int .i64 (fb.blocks:Int),.int .i64 (fb.width:Int),.int .i64 (fb.count:Int)] 42)]]) Tryz.results122 (hR:= ?_);exact⟨f',e,ad,ae,ag,W',_,rfl,rfl,ai,hS,rfl,hR⟩)
theorem aKk {p:Jp} {B m k a s0:Nat} {e:Int} {er:Option Nat} {Gf:List (Fl×List T5)} {C:aAc} (hR:Rm p B m k a) (hJ:aGh p B k a s0 e er Gf C) (f ft:Fl) (ts hts:List T5) (G':List (Fl×List T5)) (col:Nat) (a1:col<4)
  {b c n w bt ct wt nt:Nat} (hF:FB b c w n e f) (ap:FB bt ct wt nt e ft) (hP:Pk (f,ts) Gf G') (am:(ft,hts)∈G'∨In0 p (ft,hts)) (aq:col<w) (al:w≤5) (hv:1<wt) (ae:e=0→hts.Pairwise fun a c=>a.c0<c.c0) (an:e=0→ts.length=n)
  (hb:b≤1000∧c≤1000∧bt≤1000∧ct≤1000) (ao:b≤c∨(w≤3∧b≤2*c)) (ag:c≤B) (hT:aFb c≤m) (hk:Gf.length+1≤k) (a2:s0≤9900):
  Ct AC 57 [pv p.bj,flv f,.int .i64 (col:Int),flv ft] [C] fun v H'=>∃g C' e',v=flv g∧H'=[C']∧aGh p B k a (s0+2) e' er ((g,aDo 1 col hts ts)::G') C'∧FB b c w n e' g∧(e'=0→e=0):=by
 have aa:=eQ0
 have ad:=eQ2
 have au:tv (oK col)= .agg #[.int .i64 ((col:Int)+1),.int .i64 0,.int .i64 0,.int .i64 0,.int .i64 0]:=rfl
 have a3:AJ .i64 ((col:Int)+1)=(col:Int)+1:=aAd oM
 have av:=hP.perm.length_eq
 rw[AL] at av
 have ah:=aLe hR hJ f ts G' (oK col) (aLf oM) false hF hP hb.1 ag hT oM
 rw[aa,au] at ah
 rw[aa,aa ft]
 refine Ct.go Tryz.func57 Tryz.ntmps57 fun w0=> ?_
 repeat(refine st ?_;intros)
 repeat(refine st ?_;intros)
 refine R.callX (hct:=ah) (h:= ?_)
 rintro _ _ ⟨g1,C1,e1,rfl,rfl,aw,ax,ab⟩
 dsimp only[AA,AB]
 refine nx ?_
 try rw[aa]
 have ai:=fun b8 b4 bc b5=>aOa hR aw 122 inferInstance g1 ft (srt (ltO (oK col)) false ts) hts col 1 col w c oA2 (am.imp (fun h=>AI _ h) id) (fun J A T ay R h=>bRv p g1 ft b8 b4 bc b5 J A T ay R col h) ax (ap.mono ab) ⟨hb.1,hb.2.1,hb.2.2⟩ aq hv oM oM al
  (fun _=>bCc oM _) (fun h=>ae (ab h)) ao ag (by simp only[AL];omega) oM
 simp only[aNf,ad] at ai
 repeat(refine st ?_;intros)
 refine R.callX (hct:=ai _ _ _ _) (h:= ?_)
 rintro _ _ ⟨g2,C2,e2,rfl,rfl,az,ac,aj⟩
 dsimp only[AA,AB]
 refine nx ?_
 try rw[aa]
 have ak:=fun b=>bIk hR az [(g1,srt (ltO (oK col)) false ts)] ((g2,aDo 1 col hts ts)::G') (.cons (.there .here) .nil) oA15 _ 1 _ (vec1 b g1)
 simp only[ad,AZ,D7,AA,AB] at ak
 repeat(refine st ?_;intros)
 refine R.callX (hct:=ak _) (h:= ?_)
 rintro _ _ ⟨C3,rfl,rfl,a0⟩
 dsimp only[AA,AB]
 refine nx ?_
 repeat(refine st ?_;intros)
 (refine Dn.post (Hr:=[C3]) Tryz.results57 (hR:= ?_);exact⟨g2,C3,e2,rfl,rfl,a0,⟨ac.cnt,ac.blk,fun h=>⟨(ac.ok h).1,by rw[(ac.ok h).2,(aBa _).length_eq,an (ab (aj h))]⟩⟩,fun h=>ab (aj h)⟩)
def aUo (t:T5):List T5:=(if t.c0=t.c1 then[⟨t.c0,-1,t.c0,0,0⟩] else[])
theorem mtR:aFt (mFl [] (aUo)) 3 (fun _ t=>okT 2 t) 117 [] []:=by
 rintro bx Pst Br bnd hP ps X ⟨⟩ t hX hk hb
 have ab:tv t= .agg #[.int .i64 t.c0,.int .i64 t.c1,.int .i64 t.c2,.int .i64 t.c3,.int .i64 t.c4]:=rfl
 rw[ab]
 unfold aPd
 simp only[AB,AA]
 show Ct _ _ _ [X] _
 have ti:=aBb hk
 by_cases h1:t.c0=t.c1
 ·
  have ho:(mFl [] (aUo)).outs () t=[⟨t.c0,-1,t.c0,0,0⟩]:=by show aUo t=_;unfold aUo;rw[if_pos h1]
  have ad:ps.length+1≤bnd:=by rw[ho] at hb;exact hb
  have aa:=hP ps X ⟨t.c0,-1,t.c0,0,0⟩ hX (by first|exact hk|exact aUm (by first|exact ti.1|exact ti.2.1|exact ti.2.2.1|exact ti.2.2.2.1|exact ti.2.2.2.2|exact aLt|exact in_1|exact aHd|exact aDg _|assumption|(unfold aAv at*;omega)) (by first|exact ti.1|exact ti.2.1|exact ti.2.2.1|exact ti.2.2.2.1|exact ti.2.2.2.2|exact aLt|exact in_1|exact aHd|exact aDg _|assumption|(unfold aAv at*;omega)) (by first|exact ti.1|exact ti.2.1|exact ti.2.2.1|exact ti.2.2.2.1|exact ti.2.2.2.2|exact aLt|exact in_1|exact aHd|exact aDg _|assumption|(unfold aAv at*;omega))) oM
  rw[show tv ⟨t.c0,-1,t.c0,0,0⟩= .agg #[.int .i64 t.c0,.int .i64 (-1),.int .i64 t.c0,.int .i64 0,.int .i64 0] from rfl] at aa
  refine Ct.go Tryz.func117 Tryz.ntmps117 fun w0=> ?_
  repeat(refine st ?_;intros)
  refine R.callV (hct:=by exact aa) (h:= ?_)
  rintro _ _ ⟨X',rfl,⟨rfl,ac⟩|⟨rfl,hB⟩⟩
  try dsimp only[AA,AB]
  ·repeat(refine st ?_;intros)
   (refine Dn.post (Hr:=[X']) Tryz.results117 (hR:= ?_);exact⟨X',(),rfl,.inl ⟨rfl,rfl,(by trivial),by rw[ho];exact ac⟩⟩)
  ·repeat(refine st ?_;intros)
   (refine Dn.post (Hr:=[X']) Tryz.results117 (hR:= ?_);exact⟨X',(),rfl,.inr (.inl ⟨rfl,hB⟩)⟩)
 ·
  have ho:(mFl [] (aUo)).outs () t=[]:=by show aUo t=_;unfold aUo;rw[if_neg h1]
  refine Ct.go Tryz.func117 Tryz.ntmps117 fun w0=> ?_
  repeat(refine st ?_;intros)
  (refine Dn.post (Hr:=[X]) Tryz.results117 (hR:= ?_);exact⟨X,(),rfl,.inl ⟨rfl,rfl,(by trivial),by rw[ho,AQ];exact hX⟩⟩)
def bRw (t:T5):List T5:=[⟨t.c3,t.c4,t.c2,0,0⟩]
theorem mtA:aFt (mFl [] (bRw)) 3 (fun _ t=>okT 5 t) 118 [] []:=by
 rintro bx Pst Br bnd hP ps X ⟨⟩ t hX hk hb
 have ab:tv t= .agg #[.int .i64 t.c0,.int .i64 t.c1,.int .i64 t.c2,.int .i64 t.c3,.int .i64 t.c4]:=rfl
 rw[ab]
 unfold aPd
 simp only[AB,AA]
 show Ct _ _ _ [X] _
 have ti:=aBb hk
 have ho:(mFl [] (bRw)).outs () t=[⟨t.c3,t.c4,t.c2,0,0⟩]:=by show bRw t=_;unfold bRw;rfl
 have ad:ps.length+1≤bnd:=by rw[ho] at hb;exact hb
 have aa:=hP ps X ⟨t.c3,t.c4,t.c2,0,0⟩ hX (by first|exact hk|exact aUm (by first|exact ti.1|exact ti.2.1|exact ti.2.2.1|exact ti.2.2.2.1|exact ti.2.2.2.2|exact aLt|exact in_1|exact aHd|exact aDg _|assumption|(unfold aAv at*;omega)) (by first|exact ti.1|exact ti.2.1|exact ti.2.2.1|exact ti.2.2.2.1|exact ti.2.2.2.2|exact aLt|exact in_1|exact aHd|exact aDg _|assumption|(unfold aAv at*;omega)) (by first|exact ti.1|exact ti.2.1|exact ti.2.2.1|exact ti.2.2.2.1|exact ti.2.2.2.2|exact aLt|exact in_1|exact aHd|exact aDg _|assumption|(unfold aAv at*;omega))) oM
 rw[show tv ⟨t.c3,t.c4,t.c2,0,0⟩= .agg #[.int .i64 t.c3,.int .i64 t.c4,.int .i64 t.c2,.int .i64 0,.int .i64 0] from rfl] at aa
 refine Ct.go Tryz.func118 Tryz.ntmps118 fun w0=> ?_
 repeat(refine st ?_;intros)
 refine R.callV (hct:=by exact aa) (h:= ?_)
 rintro _ _ ⟨X',rfl,⟨rfl,ac⟩|⟨rfl,hB⟩⟩
 try dsimp only[AA,AB]
 ·repeat(refine st ?_;intros)
  (refine Dn.post (Hr:=[X']) Tryz.results118 (hR:= ?_);exact⟨X',(),rfl,.inl ⟨rfl,rfl,(by trivial),by rw[ho];exact ac⟩⟩)
 ·repeat(refine st ?_;intros)
  (refine Dn.post (Hr:=[X']) Tryz.results118 (hR:= ?_);exact⟨X',(),rfl,.inr (.inl ⟨rfl,hB⟩)⟩)
theorem mtT (bx:Nat) (t:T5) (X:aAc) (Rr:Value→aAc→Prop) (h:PutC bx ((fun t=>t) t) X Rr):Ct AC 119 [tv t,aPd bx] [X] (aZh Rr):=by
 have aa:tv t= .agg #[.int .i64 t.c0,.int .i64 t.c1,.int .i64 t.c2,.int .i64 t.c3,.int .i64 t.c4]:=rfl
 rw[aa]
 unfold aPd
 refine Ct.go Tryz.func119 Tryz.ntmps119 fun w0=> ?_
 repeat(refine st ?_;intros)
 refine R.callV (hct:=by exact h) (h:= ?_)
 rintro _ _ ⟨X',rfl,hR⟩
 try dsimp only[AA,AB]
 repeat(refine st ?_;intros)
 (refine Dn.post (Hr:=[X']) Tryz.results119 (hR:= ?_);exact⟨X',rfl,hR⟩)
def bRx (t:T5):List T5:=[⟨t.c2,0,0,0,0⟩]
theorem mtV:aFt (mFl [] (bRx)) 1 (fun _ t=>okT 3 t) 120 [] []:=by
 rintro bx Pst Br bnd hP ps X ⟨⟩ t hX hk hb
 have ab:tv t= .agg #[.int .i64 t.c0,.int .i64 t.c1,.int .i64 t.c2,.int .i64 t.c3,.int .i64 t.c4]:=rfl
 rw[ab]
 unfold aPd
 simp only[AB,AA]
 show Ct _ _ _ [X] _
 have ti:=aBb hk
 have ho:(mFl [] (bRx)).outs () t=[⟨t.c2,0,0,0,0⟩]:=by show bRx t=_;unfold bRx;rfl
 have ad:ps.length+1≤bnd:=by rw[ho] at hb;exact hb
 have aa:=hP ps X ⟨t.c2,0,0,0,0⟩ hX (by first|exact hk|exact okT1 (by first|exact ti.1|exact ti.2.1|exact ti.2.2.1|exact ti.2.2.2.1|exact ti.2.2.2.2|exact aLt|exact in_1|exact aHd|exact aDg _|assumption|(unfold aAv at*;omega))) oM
 rw[show tv ⟨t.c2,0,0,0,0⟩= .agg #[.int .i64 t.c2,.int .i64 0,.int .i64 0,.int .i64 0,.int .i64 0] from rfl] at aa
 refine Ct.go Tryz.func120 Tryz.ntmps120 fun w0=> ?_
 repeat(refine st ?_;intros)
 refine R.callV (hct:=by exact aa) (h:= ?_)
 rintro _ _ ⟨X',rfl,⟨rfl,ac⟩|⟨rfl,hB⟩⟩
 try dsimp only[AA,AB]
 ·repeat(refine st ?_;intros)
  (refine Dn.post (Hr:=[X']) Tryz.results120 (hR:= ?_);exact⟨X',(),rfl,.inl ⟨rfl,rfl,(by trivial),by rw[ho];exact ac⟩⟩)
 ·repeat(refine st ?_;intros)
  (refine Dn.post (Hr:=[X']) Tryz.results120 (hR:= ?_);exact⟨X',(),rfl,.inr (.inl ⟨rfl,hB⟩)⟩)
theorem mtC (bx:Nat) (t:T5) (X:aAc) (Rr:Value→aAc→Prop) (h:PutC bx ((fun t=>t) t) X Rr):Ct AC 110 [tv t,aPd bx] [X] (aZh Rr):=by
 have aa:tv t= .agg #[.int .i64 t.c0,.int .i64 t.c1,.int .i64 t.c2,.int .i64 t.c3,.int .i64 t.c4]:=rfl
 rw[aa]
 unfold aPd
 refine Ct.go Tryz.func110 Tryz.ntmps110 fun w0=> ?_
 repeat(refine st ?_;intros)
 refine R.callV (hct:=by exact h) (h:= ?_)
 rintro _ _ ⟨X',rfl,hR⟩
 try dsimp only[AA,AB]
 repeat(refine st ?_;intros)
 (refine Dn.post (Hr:=[X']) Tryz.results110 (hR:= ?_);exact⟨X',rfl,hR⟩)
theorem mtL1 (p:Jp) (fa fb:Fl) (b8 b4 b5:Nat) (J:Jb) (A T:Nat) (ts:List T5) (Rl:Fl→Int→Prop) (hL:bEk p J fa fb 1 1 3 A T ts Rl):
  aGm p J 111 [pv b8,pv b4,pv b5] (aHz p.bj b8 b4 b5 fa fb) A T none ts fun f e Hx'=>Hx'=aHz p.bj b8 b4 b5 fa fb∧Rl f e:=by
 intro W cd ca cs held ph ac hW ah
 have hL:=hL W cd ca cs held hW ah
 have aa:=eQ0
 have ab:=eQ2
 rw[aa fa,aa fb] at hL
 unfold aFg aHz
 rw[ab fa,ab fb]
 refine Ct.go Tryz.func111 Tryz.ntmps111 fun w0=> ?_
 repeat(refine sv ?_;intros)
 refine R.callX (hct:=hL) (h:= ?_)
 rintro _ _ ⟨f,e,ad,ae,ag,W',rfl,rfl,ai,hS,hR⟩
 dsimp only[AA,AB]
 refine nx ?_
 rw[aa]
 repeat(refine sv ?_;intros)
 (refine Dn.post (Hr:=[[(p.bj,row [pv p.bw,.int .i64 0,.slice ph held.length ac] 98)],aAi p.bw p.bd p.ba p.bs,ad,ae,ag,[(b8,row [pv p.bj] 84)],[(b4,row (fl4 fa) 42)],[(b5,row (fl4 fb) 42)]]) Tryz.results111 (hR:= ?_);exact⟨f,e,ad,ae,ag,W',_,rfl,rfl,ai,hS,rfl,hR⟩)
theorem mtL2 (p:Jp) (fa fb:Fl) (b8 b4 b5:Nat) (J:Jb) (A T:Nat) (ts:List T5) (Rl:Fl→Int→Prop) (hL:bEk p J fa fb 2 1 4 A T ts Rl):
  aGm p J 113 [pv b8,pv b4,pv b5] (aHz p.bj b8 b4 b5 fa fb) A T none ts fun f e Hx'=>Hx'=aHz p.bj b8 b4 b5 fa fb∧Rl f e:=by
 intro W cd ca cs held ph ac hW ah
 have hL:=hL W cd ca cs held hW ah
 have aa:=eQ0
 have ab:=eQ2
 rw[aa fa,aa fb] at hL
 unfold aFg aHz
 rw[ab fa,ab fb]
 refine Ct.go Tryz.func113 Tryz.ntmps113 fun w0=> ?_
 repeat(refine sv ?_;intros)
 refine R.callX (hct:=hL) (h:= ?_)
 rintro _ _ ⟨f,e,ad,ae,ag,W',rfl,rfl,ai,hS,hR⟩
 dsimp only[AA,AB]
 refine nx ?_
 rw[aa]
 repeat(refine sv ?_;intros)
 (refine Dn.post (Hr:=[[(p.bj,row [pv p.bw,.int .i64 0,.slice ph held.length ac] 98)],aAi p.bw p.bd p.ba p.bs,ad,ae,ag,[(b8,row [pv p.bj] 84)],[(b4,row (fl4 fa) 42)],[(b5,row (fl4 fb) 42)]]) Tryz.results113 (hR:= ?_);exact⟨f,e,ad,ae,ag,W',_,rfl,rfl,ai,hS,rfl,hR⟩)
def aUp (t:T5):List T5:=(if t.c3=t.c4 then[] else[⟨t.c0,-1,0,0,0⟩])
theorem mtP:aFt (mFl [] (aUp)) 2 (fun _ t=>okT 5 t) 53 [] []:=by
 rintro bx Pst Br bnd hP ps X ⟨⟩ t hX hk hb
 have ab:tv t= .agg #[.int .i64 t.c0,.int .i64 t.c1,.int .i64 t.c2,.int .i64 t.c3,.int .i64 t.c4]:=rfl
 rw[ab]
 unfold aPd
 simp only[AB,AA]
 show Ct _ _ _ [X] _
 have ti:=aBb hk
 by_cases h1:t.c3=t.c4
 ·
  have ho:(mFl [] (aUp)).outs () t=[]:=by show aUp t=_;unfold aUp;rw[if_pos h1]
  refine Ct.go Tryz.func53 Tryz.ntmps53 fun w0=> ?_
  repeat(refine st ?_;intros)
  (refine Dn.post (Hr:=[X]) Tryz.results53 (hR:= ?_);exact⟨X,(),rfl,.inl ⟨rfl,rfl,(by trivial),by rw[ho,AQ];exact hX⟩⟩)
 ·
  have ho:(mFl [] (aUp)).outs () t=[⟨t.c0,-1,0,0,0⟩]:=by show aUp t=_;unfold aUp;rw[if_neg h1]
  have ad:ps.length+1≤bnd:=by rw[ho] at hb;exact hb
  have aa:=hP ps X ⟨t.c0,-1,0,0,0⟩ hX (by first|exact hk|exact bEh (by first|exact ti.1|exact ti.2.1|exact ti.2.2.1|exact ti.2.2.2.1|exact ti.2.2.2.2|exact aLt|exact in_1|exact aHd|exact aDg _|assumption|(unfold aAv at*;omega)) (by first|exact ti.1|exact ti.2.1|exact ti.2.2.1|exact ti.2.2.2.1|exact ti.2.2.2.2|exact aLt|exact in_1|exact aHd|exact aDg _|assumption|(unfold aAv at*;omega))) oM
  rw[show tv ⟨t.c0,-1,0,0,0⟩= .agg #[.int .i64 t.c0,.int .i64 (-1),.int .i64 0,.int .i64 0,.int .i64 0] from rfl] at aa
  refine Ct.go Tryz.func53 Tryz.ntmps53 fun w0=> ?_
  repeat(refine st ?_;intros)
  refine R.callV (hct:=by exact aa) (h:= ?_)
  rintro _ _ ⟨X',rfl,⟨rfl,ac⟩|⟨rfl,hB⟩⟩
  try dsimp only[AA,AB]
  ·repeat(refine st ?_;intros)
   (refine Dn.post (Hr:=[X']) Tryz.results53 (hR:= ?_);exact⟨X',(),rfl,.inl ⟨rfl,rfl,(by trivial),by rw[ho];exact ac⟩⟩)
  ·repeat(refine st ?_;intros)
   (refine Dn.post (Hr:=[X']) Tryz.results53 (hR:= ?_);exact⟨X',(),rfl,.inr (.inl ⟨rfl,hB⟩)⟩)
def aUq (t:T5):List T5:=(if t.c3=t.c4 then[⟨t.c0,t.c1,t.c2,0,0⟩] else[])
theorem mtS:aFt (mFl [] (aUq)) 3 (fun _ t=>okT 5 t) 54 [] []:=by
 rintro bx Pst Br bnd hP ps X ⟨⟩ t hX hk hb
 have ab:tv t= .agg #[.int .i64 t.c0,.int .i64 t.c1,.int .i64 t.c2,.int .i64 t.c3,.int .i64 t.c4]:=rfl
 rw[ab]
 unfold aPd
 simp only[AB,AA]
 show Ct _ _ _ [X] _
 have ti:=aBb hk
 by_cases h1:t.c3=t.c4
 ·
  have ho:(mFl [] (aUq)).outs () t=[⟨t.c0,t.c1,t.c2,0,0⟩]:=by show aUq t=_;unfold aUq;rw[if_pos h1]
  have ad:ps.length+1≤bnd:=by rw[ho] at hb;exact hb
  have aa:=hP ps X ⟨t.c0,t.c1,t.c2,0,0⟩ hX (by first|exact hk|exact aUm (by first|exact ti.1|exact ti.2.1|exact ti.2.2.1|exact ti.2.2.2.1|exact ti.2.2.2.2|exact aLt|exact in_1|exact aHd|exact aDg _|assumption|(unfold aAv at*;omega)) (by first|exact ti.1|exact ti.2.1|exact ti.2.2.1|exact ti.2.2.2.1|exact ti.2.2.2.2|exact aLt|exact in_1|exact aHd|exact aDg _|assumption|(unfold aAv at*;omega)) (by first|exact ti.1|exact ti.2.1|exact ti.2.2.1|exact ti.2.2.2.1|exact ti.2.2.2.2|exact aLt|exact in_1|exact aHd|exact aDg _|assumption|(unfold aAv at*;omega))) oM
  rw[show tv ⟨t.c0,t.c1,t.c2,0,0⟩= .agg #[.int .i64 t.c0,.int .i64 t.c1,.int .i64 t.c2,.int .i64 0,.int .i64 0] from rfl] at aa
  refine Ct.go Tryz.func54 Tryz.ntmps54 fun w0=> ?_
  repeat(refine st ?_;intros)
  refine R.callV (hct:=by exact aa) (h:= ?_)
  rintro _ _ ⟨X',rfl,⟨rfl,ac⟩|⟨rfl,hB⟩⟩
  try dsimp only[AA,AB]
  ·repeat(refine st ?_;intros)
   (refine Dn.post (Hr:=[X']) Tryz.results54 (hR:= ?_);exact⟨X',(),rfl,.inl ⟨rfl,rfl,(by trivial),by rw[ho];exact ac⟩⟩)
  ·repeat(refine st ?_;intros)
   (refine Dn.post (Hr:=[X']) Tryz.results54 (hR:= ?_);exact⟨X',(),rfl,.inr (.inl ⟨rfl,hB⟩)⟩)
 ·
  have ho:(mFl [] (aUq)).outs () t=[]:=by show aUq t=_;unfold aUq;rw[if_neg h1]
  refine Ct.go Tryz.func54 Tryz.ntmps54 fun w0=> ?_
  repeat(refine st ?_;intros)
  (refine Dn.post (Hr:=[X]) Tryz.results54 (hR:= ?_);exact⟨X,(),rfl,.inl ⟨rfl,rfl,(by trivial),by rw[ho,AQ];exact hX⟩⟩)
def bRy (t:T5):List T5:=[⟨t.c0,min t.c1 t.c2,max t.c1 t.c2,0,0⟩]
theorem mtQ:aFt (mFl [] (bRy)) 3 (fun _ t=>okT 3 t) 59 [] []:=by
 rintro bx Pst Br bnd hP ps X ⟨⟩ t hX hk hb
 have ab:tv t= .agg #[.int .i64 t.c0,.int .i64 t.c1,.int .i64 t.c2,.int .i64 t.c3,.int .i64 t.c4]:=rfl
 rw[ab]
 unfold aPd
 simp only[AB,AA]
 show Ct _ _ _ [X] _
 have ti:=aBb hk
 have ho:(mFl [] (bRy)).outs () t=[⟨t.c0,min t.c1 t.c2,max t.c1 t.c2,0,0⟩]:=by show bRy t=_;unfold bRy;rfl
 have ad:ps.length+1≤bnd:=by rw[ho] at hb;exact hb
 have aa:=hP ps X ⟨t.c0,min t.c1 t.c2,max t.c1 t.c2,0,0⟩ hX (by first|exact hk|exact aUm (by first|exact ti.1|exact ti.2.1|exact ti.2.2.1|exact ti.2.2.2.1|exact ti.2.2.2.2|exact aLt|exact in_1|exact aHd|exact aDg _|assumption|(unfold aAv at*;omega)) (by first|exact ti.1|exact ti.2.1|exact ti.2.2.1|exact ti.2.2.2.1|exact ti.2.2.2.2|exact aLt|exact in_1|exact aHd|exact aDg _|assumption|(unfold aAv at*;omega)) (by first|exact ti.1|exact ti.2.1|exact ti.2.2.1|exact ti.2.2.2.1|exact ti.2.2.2.2|exact aLt|exact in_1|exact aHd|exact aDg _|assumption|(unfold aAv at*;omega))) oM
 rw[show tv ⟨t.c0,min t.c1 t.c2,max t.c1 t.c2,0,0⟩= .agg #[.int .i64 t.c0,.int .i64 (min t.c1 t.c2),.int .i64 (max t.c1 t.c2),.int .i64 0,.int .i64 0] from rfl] at aa
 refine Ct.go Tryz.func59 Tryz.ntmps59 fun w0=> ?_
 repeat(refine st ?_;intros)
 refine R.callV (hct:=by exact aa) (h:= ?_)
 rintro _ _ ⟨X',rfl,⟨rfl,ac⟩|⟨rfl,hB⟩⟩
 try dsimp only[AA,AB]
 ·repeat(refine st ?_;intros)
  (refine Dn.post (Hr:=[X']) Tryz.results59 (hR:= ?_);exact⟨X',(),rfl,.inl ⟨rfl,rfl,(by trivial),by rw[ho];exact ac⟩⟩)
 ·repeat(refine st ?_;intros)
  (refine Dn.post (Hr:=[X']) Tryz.results59 (hR:= ?_);exact⟨X',(),rfl,.inr (.inl ⟨rfl,hB⟩)⟩)
def bRz (t:T5):List T5:=[⟨t.c2,t.c0,0,0,0⟩]
theorem mtB:aFt (mFl [] (bRz)) 2 (fun _ t=>okT 5 t) 63 [] []:=by
 rintro bx Pst Br bnd hP ps X ⟨⟩ t hX hk hb
 have ab:tv t= .agg #[.int .i64 t.c0,.int .i64 t.c1,.int .i64 t.c2,.int .i64 t.c3,.int .i64 t.c4]:=rfl
 rw[ab]
 unfold aPd
 simp only[AB,AA]
 show Ct _ _ _ [X] _
 have ti:=aBb hk
 have ho:(mFl [] (bRz)).outs () t=[⟨t.c2,t.c0,0,0,0⟩]:=by show bRz t=_;unfold bRz;rfl
 have ad:ps.length+1≤bnd:=by rw[ho] at hb;exact hb
 have aa:=hP ps X ⟨t.c2,t.c0,0,0,0⟩ hX (by first|exact hk|exact bEh (by first|exact ti.1|exact ti.2.1|exact ti.2.2.1|exact ti.2.2.2.1|exact ti.2.2.2.2|exact aLt|exact in_1|exact aHd|exact aDg _|assumption|(unfold aAv at*;omega)) (by first|exact ti.1|exact ti.2.1|exact ti.2.2.1|exact ti.2.2.2.1|exact ti.2.2.2.2|exact aLt|exact in_1|exact aHd|exact aDg _|assumption|(unfold aAv at*;omega))) oM
 rw[show tv ⟨t.c2,t.c0,0,0,0⟩= .agg #[.int .i64 t.c2,.int .i64 t.c0,.int .i64 0,.int .i64 0,.int .i64 0] from rfl] at aa
 refine Ct.go Tryz.func63 Tryz.ntmps63 fun w0=> ?_
 repeat(refine st ?_;intros)
 refine R.callV (hct:=by exact aa) (h:= ?_)
 rintro _ _ ⟨X',rfl,⟨rfl,ac⟩|⟨rfl,hB⟩⟩
 try dsimp only[AA,AB]
 ·repeat(refine st ?_;intros)
  (refine Dn.post (Hr:=[X']) Tryz.results63 (hR:= ?_);exact⟨X',(),rfl,.inl ⟨rfl,rfl,(by trivial),by rw[ho];exact ac⟩⟩)
 ·repeat(refine st ?_;intros)
  (refine Dn.post (Hr:=[X']) Tryz.results63 (hR:= ?_);exact⟨X',(),rfl,.inr (.inl ⟨rfl,hB⟩)⟩)
theorem mtO (bx:Nat) (t:T5) (X:aAc) (Rr:Value→aAc→Prop) (h:PutC bx ((fun t=>t) t) X Rr):Ct AC 65 [tv t,aPd bx] [X] (aZh Rr):=by
 have aa:tv t= .agg #[.int .i64 t.c0,.int .i64 t.c1,.int .i64 t.c2,.int .i64 t.c3,.int .i64 t.c4]:=rfl
 rw[aa]
 unfold aPd
 refine Ct.go Tryz.func65 Tryz.ntmps65 fun w0=> ?_
 repeat(refine st ?_;intros)
 refine R.callV (hct:=by exact h) (h:= ?_)
 rintro _ _ ⟨X',rfl,hR⟩
 try dsimp only[AA,AB]
 repeat(refine st ?_;intros)
 (refine Dn.post (Hr:=[X']) Tryz.results65 (hR:= ?_);exact⟨X',rfl,hR⟩)
def atM (ba:Nat):aAt Int:=⟨fun k=>[[(ba,row [.int .i64 k] 2)]],fun k t=>[⟨t.c0,AJ .i64 (AJ .i64 (k+1)-1),0,0,0⟩],fun k _=>AJ .i64 (k+1),fun _ _=>none⟩
theorem atM_C (ba:Nat) (k:Int):(atM ba).C k=[[(ba,row [.int .i64 k] 2)]]:=rfl
theorem at_mk (ba:Nat):aFt (atM ba) 2 (fun _ t=>okT 1 t) 121 [] [pv ba]:=by
 rintro bx Pst Br bnd hP ps X k t hX hk hb
 have ab:tv t= .agg #[.int .i64 t.c0,.int .i64 t.c1,.int .i64 t.c2,.int .i64 t.c3,.int .i64 t.c4]:=rfl
 rw[ab]
 unfold aPd
 simp only[AB,AA]
 show Ct _ _ _ [X,[(ba,row [.int .i64 k] 2)]] _
 have ti:=aBb hk
 have ac:ps.length+1≤bnd:=hb
 have aa:=hP ps X ⟨t.c0,AJ .i64 (AJ .i64 (k+1)-1),0,0,0⟩ hX (bEh ti.1 (aDg _)) ac
 rw[show tv ⟨t.c0,AJ .i64 (AJ .i64 (k+1)-1),0,0,0⟩= .agg #[.int .i64 t.c0,.int .i64 (AJ .i64 (AJ .i64 (k+1)-1)),.int .i64 0,.int .i64 0,.int .i64 0] from rfl] at aa
 refine Ct.go Tryz.func121 Tryz.ntmps121 fun w0=> ?_
 repeat(refine st ?_;intros)
 refine R.callV (hct:=by exact aa) (h:= ?_)
 rintro _ _ ⟨X',rfl,⟨rfl,ad⟩|⟨rfl,hB⟩⟩
 try dsimp only[AA,AB]
 ·repeat(refine st ?_;intros)
  (refine Dn.post (Hr:=[X',[(ba,row [.int .i64 (AJ .i64 (k+1))] 2)]]) Tryz.results121 (hR:= ?_);exact⟨X',AJ .i64 (k+1),rfl,.inl ⟨rfl,rfl,rfl,ad⟩⟩)
 ·repeat(refine st ?_;intros)
  (refine Dn.post (Hr:=[X',[(ba,row [.int .i64 (AJ .i64 (k+1))] 2)]]) Tryz.results121 (hR:= ?_);exact⟨X',AJ .i64 (k+1),rfl,.inr (.inl ⟨rfl,hB⟩)⟩)
def okM (n:Nat) (q:T5):Prop:=0≤q.c0∧0≤q.c1∧0≤q.c2∧q.c1<n∧q.c2<n
instance (n:Nat) (q:T5):Decidable (okM n q):=by unfold okM;infer_instance
def aUr (bl:Nat) (lf:Fl):aAt Unit:=⟨fun _=>[[(bl,row (fl4 lf) 42)]],fun _ t=>if okM lf.count t then[⟨t.c0,0,0,0,0⟩] else[],fun _ _=>(),fun _ t=>if okM lf.count t then none else some 3⟩
theorem chkM_C (bl:Nat) (lf:Fl) (k:Unit):(aUr bl lf).C k=[[(bl,row (fl4 lf) 42)]]:=rfl
theorem bSa (bl:Nat) (lf:Fl):aFt (aUr bl lf) 1 (fun _ t=>okT 3 t) 108 [] [pv bl]:=by
 rintro bx Pst Br bnd hP ps X ⟨⟩ t hX hk hb
 have ab:tv t= .agg #[.int .i64 t.c0,.int .i64 t.c1,.int .i64 t.c2,.int .i64 t.c3,.int .i64 t.c4]:=rfl
 have aa:=eQ2
 rw[ab]
 unfold aPd
 simp only[AB,AA]
 show Ct _ _ _ [X,[(bl,row (fl4 lf) 42)]] _
 rw[aa]
 have ti:=aBb hk
 by_cases h:okM lf.count t
 ·simp only[aUr,if_pos h,List.length_singleton] at hb
  have ac:=hP ps X ⟨t.c0,0,0,0,0⟩ hX (okT1 ti.1) hb
  have ho:(aUr bl lf).outs () t=[⟨t.c0,0,0,0,0⟩]:=if_pos h
  have hn:(aUr bl lf).err () t=none:=if_pos h
  unfold okM at h
  obtain⟨h0,h1,h2,h3,h4⟩:=h
  refine Ct.go Tryz.func108 Tryz.ntmps108 fun w0=> ?_
  repeat(refine st ?_;intros)
  refine R.callV (hct:=by exact ac) (h:= ?_)
  rintro _ _ ⟨X',rfl,⟨rfl,ad⟩|⟨rfl,hB⟩⟩
  try dsimp only[AA,AB]
  ·repeat(refine st ?_;intros)
   (refine Dn.post (Hr:=[X',[(bl,row [.int .i64 (lf.first:Int),.int .i64 (lf.blocks:Int),.int .i64 (lf.width:Int),.int .i64 (lf.count:Int)] 42)]]) Tryz.results108 (hR:= ?_);exact⟨X',(),rfl,.inl ⟨rfl,hn,(by trivial),by rw[ho];exact ad⟩⟩)
  ·repeat(refine st ?_;intros)
   (refine Dn.post (Hr:=[X',[(bl,row [.int .i64 (lf.first:Int),.int .i64 (lf.blocks:Int),.int .i64 (lf.width:Int),.int .i64 (lf.count:Int)] 42)]]) Tryz.results108 (hR:= ?_);exact⟨X',(),rfl,.inr (.inl ⟨rfl,hB⟩)⟩)
 ·have hn:(aUr bl lf).err () t=some 3:=if_neg h
  unfold okM at h
  by_cases h0:t.c0<0
  ·refine Ct.go Tryz.func108 Tryz.ntmps108 fun w0=> ?_
   repeat(refine st ?_;intros)
   (refine Dn.post (Hr:=[X,[(bl,row [.int .i64 (lf.first:Int),.int .i64 (lf.blocks:Int),.int .i64 (lf.width:Int),.int .i64 (lf.count:Int)] 42)]]) Tryz.results108 (hR:= ?_);exact⟨X,(),rfl,.inr (.inr ⟨3,hn,by decide,rfl,ps,hX⟩)⟩)
  by_cases h1:t.c1<0
  ·refine Ct.go Tryz.func108 Tryz.ntmps108 fun w0=> ?_
   repeat(refine st ?_;intros)
   (refine Dn.post (Hr:=[X,[(bl,row [.int .i64 (lf.first:Int),.int .i64 (lf.blocks:Int),.int .i64 (lf.width:Int),.int .i64 (lf.count:Int)] 42)]]) Tryz.results108 (hR:= ?_);exact⟨X,(),rfl,.inr (.inr ⟨3,hn,by decide,rfl,ps,hX⟩)⟩)
  by_cases h2:t.c2<0
  ·refine Ct.go Tryz.func108 Tryz.ntmps108 fun w0=> ?_
   repeat(refine st ?_;intros)
   (refine Dn.post (Hr:=[X,[(bl,row [.int .i64 (lf.first:Int),.int .i64 (lf.blocks:Int),.int .i64 (lf.width:Int),.int .i64 (lf.count:Int)] 42)]]) Tryz.results108 (hR:= ?_);exact⟨X,(),rfl,.inr (.inr ⟨3,hn,by decide,rfl,ps,hX⟩)⟩)
  by_cases h3:(lf.count:Int)≤t.c1
  ·refine Ct.go Tryz.func108 Tryz.ntmps108 fun w0=> ?_
   repeat(refine st ?_;intros)
   (refine Dn.post (Hr:=[X,[(bl,row [.int .i64 (lf.first:Int),.int .i64 (lf.blocks:Int),.int .i64 (lf.width:Int),.int .i64 (lf.count:Int)] 42)]]) Tryz.results108 (hR:= ?_);exact⟨X,(),rfl,.inr (.inr ⟨3,hn,by decide,rfl,ps,hX⟩)⟩)
  have h4:(lf.count:Int)≤t.c2:=oM
  refine Ct.go Tryz.func108 Tryz.ntmps108 fun w0=> ?_
  repeat(refine st ?_;intros)
  (refine Dn.post (Hr:=[X,[(bl,row [.int .i64 (lf.first:Int),.int .i64 (lf.blocks:Int),.int .i64 (lf.width:Int),.int .i64 (lf.count:Int)] 42)]]) Tryz.results108 (hR:= ?_);exact⟨X,(),rfl,.inr (.inr ⟨3,hn,by decide,rfl,ps,hX⟩)⟩)
theorem aTk (bl:Nat) (lf:Fl):∀(ts:List T5) (k:Unit),(aUr bl lf).bad k ts=if∀q∈ts,okM lf.count q then none else some 3
 |[],_=>by simp[aAt.bad]
 |t::ts,k=>by
  simp only[aAt.bad]
  have ih:=aTk bl lf ts ((aUr bl lf).next k t)
  by_cases h:okM lf.count t
  ·have:(aUr bl lf).err k t=none:=if_pos h
   rw[this]
   dsimp only
   rw[ih]
   simp[h]
  ·have:(aUr bl lf).err k t=some 3:=if_neg h
   rw[this]
   dsimp only
   rw[if_neg (by simp[h])]
theorem bCd (bl:Nat) (lf:Fl):∀(ts:List T5) (k:Unit),(∀q∈ts,okM lf.count q)→(aUr bl lf).all k ts=ts.map fun t=>⟨t.c0,0,0,0,0⟩
 |[],_,_=>rfl
 |t::ts,k,h=>by
  simp only[aAt.all,bCd bl lf ts _ fun q hq=>h q (AI _ hq),AZ]
  have:(aUr bl lf).outs k t=[⟨t.c0,0,0,0,0⟩]:=if_pos (h t AH)
  rw[this];rfl
def atF:Nat→List T5→List T5
 |_,[]=>[]
 |i,t::ts=>⟨t.c0,(i:Int),0,0,0⟩::atF (i+1) ts
theorem aZn:∀(ts:List T5) (i:Nat),(atF i ts).length=ts.length
 |[],_=>rfl
 |t::ts,i=>by simp[atF,aZn ts]
theorem bIu (ba:Nat):∀(ts:List T5) (i:Nat),i+ts.length≤1000000000→(atM ba).all (i:Int) ts=atF i ts
 |[],_,_=>rfl
 |t::ts,i,h=>by
  rw[AL] at h
  have e1:AJ .i64 ((i:Int)+1)=((i+1:Nat):Int):=by rw[aAd oM];omega
  have e2:AJ .i64 (((i+1:Nat):Int)-1)=(i:Int):=by rw[aAd oM];omega
  have ih:=bIu ba ts (i+1) oM
  simp only[aAt.all]
  rw[show(atM ba).next (i:Int) t=((i+1:Nat):Int) from e1,ih]
  show[(⟨t.c0,AJ .i64 (AJ .i64 ((i:Int)+1)-1),0,0,0⟩:T5)]++_=_
  rw[e1,e2];rfl
end Go.Proofs.YtaofijjjheiknaaGreat
