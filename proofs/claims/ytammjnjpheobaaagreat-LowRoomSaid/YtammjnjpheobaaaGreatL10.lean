/-
  Parts of the proof, put together (10). No condition.
-/
import Derived.Test.YtammjnjpheobaaaGreatL9
set_option linter.unusedVariables false
set_option linter.unusedSimpArgs false
set_option linter.unnecessarySimpa false
set_option maxHeartbeats 4000000
open Bool renaming false_eq_true→CN
open Go.IntKind renaming wrap→AH
open Go.Proofs.Tryz renaming prog→AC
open Int renaming toNat_natCast→AP
open List renaming cons_append→AA,nil_append→AB,getElem?_eq_getElem→AE,length_append→AF,mem_cons_self→AI,mem_cons_of_mem→AJ,getElem?_eq_some_iff→AK,length_cons→AL,mem_cons→AM,getD_eq_getElem?_getD→AN,append_nil→AQ,mem_map→AT,length_nil→AU,flatten_cons→AW,length_map→AX,mem_singleton→AY,map_cons→A0,flatten_append→A3,flatMap_cons→A6,flatten_nil→A8,getElem?_eq_none→BC,pairwise_cons→BH,count_append→BI,getElem?_map→BP,mem_filter→B3,getElem_mem→B4,rel_of_pairwise_cons→B7,ext_getElem?→CD,mem_flatMap→CF,not_mem_nil→CJ,map_nil→DY
open Nat renaming reduceAdd→AD,le_refl→AG,zero_le→AS,mul_le_mul_right→A5,le_trans→BA,mul_le_mul_left→BU,mul_le_mul→DA,add_mul→DM
open Option.some renaming injEq→A9
namespace Go.Proofs.YtammjnjpheobaaaGreat
open Go.SL Go.Spc Go.Tup Go.Srt
theorem aVc (f:Fl) (k:Nat) (hk:k<f.width) (h5:f.width≤5):CtQ AC 84 [flv f,.int .i64 (k:Int)] [] (.bool true):=by
 have hflv:flv f= .agg #[.int .i64 (f.first:Int),.int .i64 (f.blocks:Int),.int .i64 (f.width:Int),.int .i64 (f.count:Int)]:=rfl
 rw[hflv]
 refine Ct.intro Tryz.func84 rfl Tryz.ntmps84 (nle rfl) fun w0=> ?_;dsimp only[aAa,AD]
 repeat(refine st ?_;intros)
 (refine Dn.post (Hr:=[]) Tryz.results84 (hR:= ?_);exact⟨congrArg Value.bool (aBq (by omega)),rfl⟩)
theorem can_ct (bw bd ba bs:Nat) (δ:Dv) (cd:aAc) (h:aDt bd δ cd) (f:Fl) (h1:1≤f.width) (h5:f.width≤5) (hb:f.blocks=aAb δ.size f.width f.count) (hc:f.count≤100000000):
  CtQ AC 85 [pv bw,flv f] [aAh bw bd ba bs,cd] (.bool true):=by
 have hflv:flv f= .agg #[.int .i64 (f.first:Int),.int .i64 (f.blocks:Int),.int .i64 (f.width:Int),.int .i64 (f.count:Int)]:=rfl
 rw[hflv]
 have hH:=aHl bw bd ba bs δ cd h f.width h1 h5
 have hp:=aAj h.num.1.1 h1 h5
 have hh:aAf δ.size f.width≤δ.size:=BA (Nat.div_le_self _ _) (by omega)
 have hs:=h.num.1.2
 have e1:AH .i64 ((f.count:Int)+(aAf δ.size f.width:Int))=((f.count+aAf δ.size f.width:Nat):Int):=aAd (by omega)
 have e2:AH .i64 (((f.count+aAf δ.size f.width:Nat):Int)-1)=((f.count+aAf δ.size f.width-1:Nat):Int):=by rw[aAd (by omega)];omega
 have e3:((f.count+aAf δ.size f.width-1:Nat):Int).tdiv (aAf δ.size f.width:Int)=(f.blocks:Int):=by
  rw[Int.tdiv_eq_ediv_of_nonneg (by omega),hb];rfl
 have e4:AH .i64 (((f.count+aAf δ.size f.width-1:Nat):Int).tdiv (aAf δ.size f.width:Int))=(f.blocks:Int):=by
  rw[e3,aAd]
  have:f.blocks≤f.count:=by rw[hb];exact aAv hp
  omega
 generalize aAf δ.size f.width=hd at*
 refine Ct.intro Tryz.func85 rfl Tryz.ntmps85 (nle rfl) fun w0=> ?_;dsimp only[aAa,AD]
 repeat(first|(refine st ?_;intros)|refine G.draw [] (h:= ?_)|(refine cq hH ?_))
 (refine Dn.post (Hr:=[aAh bw bd ba bs,cd]) Tryz.results85 (hR:= ?_);exact⟨congrArg Value.bool (aBq rfl),rfl⟩)
def lkZ (bw bl bx key value to:Nat) (ats:List T5) (fb:Fl) (bts:List T5) (LvB:List Ext) (size:Nat) (g:Gr):Mkr LkS where
 own s:=if s.op then[g] else[]
 C s:=[aKc bl bx key value to s,s.cx,s.cb].flatten
 J W s i:=W.δ.size=size∧s.op=true∧aGo bw bx W fb bts g s.pos s.cx s.cb∧s.pos≤fb.count∧aAq W.δ.disk size LvB fb bts∧(∀e∈LvB,e∈W.live)∧
  ∀k:Int,(∀j t,j<i→ats[j]? =some t→t.col key≤k)→aQs bts s k∧(s.any=true→s.last≤k)
 E W s:=s.pos≤fb.count∧((s.op=true∧aGo bw bx W fb bts g s.pos s.cx s.cb)∨(s.op=false∧aDf bx s.cx))
 pot s:=aAb size fb.width s.pos
theorem lkZ_ok (bw bl bx key value to:Nat) (ats:List T5) (fb:Fl) (bts:List T5) (LvB:List Ext) (size:Nat) (g:Gr) (Lv:List Ext) (hs:∀e∈LvB,e∈Lv):(lkZ bw bl bx key value to ats fb bts LvB size g).Ok Lv where
 stay:=by
  rintro W W' s i ⟨h1,h2,h3,h4,h5,h6,h7⟩ hz hK hl _
  exact⟨hz.trans h1,h2,h3.move hz,h4,h5.keep fun x ⟨e,he,h8⟩=>hK x ⟨e,hs e he,h8⟩,fun e he=>hl e (hs e he),h7⟩
 fin:=by
  rintro W s i ⟨h1,h2,h3,h4,_⟩
  exact⟨h4,.inl ⟨h2,h3⟩⟩
 stayE:=by
  rintro W W' s ⟨h1,h2⟩ hz
  refine⟨h1,h2.imp (fun ⟨a,b⟩=>⟨a,b.move hz⟩) id⟩
theorem bNp (bw bd ba bs bl bx key value to:Nat) (hkey:key<5) (hval:value<5) (hto:to<5) (ats:List T5) (hsort:ats.Pairwise fun a c=>a.col key≤c.col key) (fb:Fl) (bts:List T5) (LvB:List Ext) (size room:Nat) (g:Gr) (hrise:bts.Pairwise fun a c=>a.c0<c.c0) (hcn:fb.count≤1000000):
  MkrCt bw bd ba bs (lkZ bw bl bx key value to ats fb bts LvB size g) size room ats (fun i=>aEv bts key value to (at5 ats i)) 87 [pv bl] []:=by
 rintro base W cd ca cs s i t hW hg hrm hsz ⟨h1,h2,h3,h4,h5,h6,h7⟩ ht hac
 subst hsz
 have hi:=(AK.1 ht).1
 have hat:at5 ats i=t:=by unfold at5;simp[AN,ht]
 obtain⟨hk,hany⟩:=h7 (t.col key) fun j u hj hu=>by
  obtain⟨hj2,rfl⟩:=AK.1 hu
  obtain⟨_,rfl⟩:=AK.1 ht
  exact List.pairwise_iff_getElem.1 hsort j i hj2 hi hj
 have hg':W.α.gs.Perm (g::base):=by simpa[lkZ,h2] using hg
 have hC:=bNo bw bd ba bs bl bx key value to hkey hval hto W cd ca cs hW fb bts LvB h5 h6 hrise g base hg' s h3 h4 t hk hany hac hcn
 refine Ct.convP hC (by unfold lkZ;refine aEk fun z=> ?_;simp only[AW,A8,AQ,A3,BI];omega) ?_
 rintro v H' ⟨cd',ca',W',s',u,k,e,rfl,rfl,hW',hE',hd',hσ',hl',hp1,hp2,hc⟩
 have hm:aAb W.δ.size fb.width s.pos≤aAb W.δ.size fb.width s'.pos:=aAk hp1
 rcases hc with⟨rfl,rfl,rfl,hg2,hr2,hk2,ha2,hl2⟩|⟨rfl,hf,hg2,hx⟩
 ·refine⟨[aAh bw bd ba bs,cd',ca',cs,(lkZ bw bl bx key value to ats fb bts LvB W.δ.size g).C {s' with op:=true}],⟨cd',ca',W',{s' with op:=true},_,true,0,rfl,rfl,hW',hE',hd',hσ',hl',hm,by simpa[lkZ] using hg2,.inl ⟨rfl,rfl,by dsimp only;rw[hat],?_⟩⟩,?_⟩
  ·refine⟨hE'.size,rfl,hr2,hp2,by rw[hd'];exact h5,by rw[hl'];exact h6,fun k hk=> ?_⟩
   have h8:=hk i t (Nat.lt_succ_self i) ht
   exact⟨⟨(hk2.up h8).nb,(hk2.up h8).yes,(hk2.up h8).no⟩,fun _=>by show s'.last≤k;omega⟩
  ·have hrow:aKc bl bx key value to {s' with op:=true}=aKc bl bx key value to s':=rfl
   refine aEk fun z=> ?_
   simp only[lkZ,hrow,AW,A8,AQ,BI];omega
 ·refine⟨[aAh bw bd ba bs,cd',ca',cs,(lkZ bw bl bx key value to ats fb bts LvB W.δ.size g).C {s' with op:=false}],⟨cd',ca',W',{s' with op:=false},u,k,6,rfl,rfl,hW',hE',hd',hσ',hl',hm,by simpa[lkZ] using hg2,.inr ⟨rfl,hf,hp2,.inr ⟨rfl,hx⟩⟩⟩,?_⟩
  have hrow:aKc bl bx key value to {s' with op:=false}=aKc bl bx key value to s':=rfl
  refine aEk fun z=> ?_
  simp only[lkZ,hrow,AW,A8,AQ,BI];omega
theorem max_wd {a b:Nat}:max (a:Int) (((b+1:Nat):Int))=((max a (b+1):Nat):Int):=by omega
theorem lkV_in {bts:List T5} {w:Nat} (h:∀t∈bts,okT w t) (k:Int) (v:Nat):aBa (lkV bts k v):=by
 unfold lkV
 split
 ·rename_i t ht
  have h1:=aBm (h t (List.mem_of_find?_eq_some ht))
  match v with
  |0=>exact h1.1
  |1=>exact h1.2.1
  |2=>exact h1.2.2.1
  |3=>exact h1.2.2.2.1
  |4=>exact h1.2.2.2.2
  |n+5=>exact aKv
 ·exact aHp
theorem aNh {bts:List T5} {w wa:Nat} (h:∀t∈bts,okT w t) (key value to:Nat) (hto:to<5) {t:T5} (ht:okT wa t):okT (max wa (to+1)) (aEv bts key value to t):=by
 obtain⟨a0,a1,a2,a3,a4⟩:=aBm ht
 have hv:=lkV_in h (t.col key) value
 unfold aEv
 generalize lkV bts (t.col key) value=x at*
 match to,hto with
 |0,_=>exact bIz hv a1 a2 a3 a4 (by omega) (fun h=>ht.2 1 (by omega)) (fun h=>ht.2 2 (by omega)) (fun h=>ht.2 3 (by omega)) (fun h=>ht.2 4 (by omega))
 |1,_=>exact bIz a0 hv a2 a3 a4 (by omega) (by omega) (fun h=>ht.2 2 (by omega)) (fun h=>ht.2 3 (by omega)) (fun h=>ht.2 4 (by omega))
 |2,_=>exact bIz a0 a1 hv a3 a4 (by omega) (by omega) (by omega) (fun h=>ht.2 3 (by omega)) (fun h=>ht.2 4 (by omega))
 |3,_=>exact bIz a0 a1 a2 hv a4 (by omega) (by omega) (by omega) (by omega) (fun h=>ht.2 4 (by omega))
 |4,_=>exact bIz a0 a1 a2 a3 hv (by omega) (by omega) (by omega) (by omega) (by omega)
theorem bNq (bw bd ba bs key value to:Nat) (W:Wk) (cd ca cs:aAc) (h:Wc bd ba bs W cd ca cs) (fa:Fl) (ats:List T5) (LvA:List Ext) (hfa:aAq W.δ.disk W.δ.size LvA fa ats) (hsa:∀e∈LvA,e∈W.live)
  (fb:Fl) (bts:List T5) (LvB:List Ext) (hfb:aAq W.δ.disk W.δ.size LvB fb bts) (hsb:∀e∈LvB,e∈W.live) (hkey:key<fa.width) (hval:value<fb.width) (hto:to<5)
  (hsort:ats.Pairwise fun a c=>a.col key≤c.col key) (hrise:bts.Pairwise fun a c=>a.c0<c.c0) (hr:3*W.δ.size≤W.α.room-W.α.used) (hfit:aAb W.δ.size (max fa.width (to+1)) fa.count≤big W.σ.free) (hac:W.δ.acts≤1000000000) (hca:fa.count≤1000000) (hcb:fb.count≤1000000):
  Ct AC 47 [pv bw,flv fa,.int .i64 (key:Int),flv fb,.int .i64 (value:Int),.int .i64 (to:Int)] [aAh bw bd ba bs,cd,ca,cs] fun v H'=>
   ∃cd' ca' cs' W' f' e,v= .tuple #[flv f',.int .i64 e]∧H'=[aAh bw bd ba bs,cd',ca',cs']∧Wc bd ba bs W' cd' ca' cs'∧Ev W W' (fa.blocks+fa.count+1+fb.blocks) (aAb W.δ.size (max fa.width (to+1)) fa.count)∧aBr W.live W W'∧W'.α.gs.Perm W.α.gs∧
    ((e=0∧W'.live.Perm (aCh f' W.live)∧f'.width=max fa.width (to+1)∧f'.count=fa.count∧aAq W'.δ.disk W.δ.size [f'.ext] f' (ats.map (aEv bts key value to)))∨(e=6∧f'=⟨0,0,0,0⟩∧W.δ.fault≠-1∧W'.live.Perm W.live)):=by
 have ha5:=hfa.w2
 have hb5:=hfb.w2
 have ha1:=hfa.w1
 have hflv:∀f:Fl,flv f= .agg #[.int .i64 (f.first:Int),.int .i64 (f.blocks:Int),.int .i64 (f.width:Int),.int .i64 (f.count:Int)]:=fun _=>rfl
 have hz:flv ⟨0,0,0,0⟩= .agg #[.int .i64 0,.int .i64 0,.int .i64 0,.int .i64 0]:=rfl
 have hCa:=aVc fa key hkey ha5
 have hCb:=aVc fb value hval hb5
 have hCn:=can_ct bw bd ba bs W.δ cd h.dev fa ha1 ha5 hfa.blk (by omega)
 have hRd:=aIk bw bd ba bs W cd ca cs h fb bts LvB hfb (by omega)
 have e1:AH .i64 ((to:Int)+1)=((to+1:Nat):Int):=by rw[aAd (by omega)];rfl
 have e2:max (fa.width:Int) ((to+1:Nat):Int)=((max fa.width (to+1):Nat):Int):=max_wd
 rw[hflv] at hCa hCb hCn hRd
 rw[hflv fa,hflv fb]
 refine Ct.introD Tryz.func47 rfl Tryz.ntmps47 (nle rfl) fun w0=> ?_;dsimp only[aAa,AD]
 repeat(first|(refine st ?_;intros)|(refine cq hCa ?_)|(refine cq hCb ?_)|(refine cq hCn ?_))
 refine R.call (hct:=hRd) (h:= ?_)
 rintro _ _ ⟨bx,g,ca1,α1,cx,cb,rfl,rfl,hW1,hE1,hg1,hgn,hr1⟩
 try dsimp only[AA,AB]
 have hu1:α1.used=W.α.used+W.δ.size:=by
  have:=hW1.ar.num.2.2.2
  dsimp only at this
  rw[this,(hg1.map (·.n)).sum_nat,h.ar.num.2.2.2];simp[hgn];omega
 have hrm1:α1.room=W.α.room:=hE1.room
 have hbb:fb.blocks≤fb.count:=by rw[hfb.blk];exact aAv (aAj h.dev.num.1.1 hfb.w1 hfb.w2)
 have hsz:8≤W.δ.size:=h.dev.num.1.1
 have hE:∀bl:Nat,Ct AC 86 [pv bw,flv fa,.int .i64 ((max fa.width (to+1):Nat):Int),.func (.func 87) #[pv bl] #[]]
   [aAh bw bd ba bs,cd,ca1,cs,aKc bl bx key value to ⟨0,false,false,T5.zero,0,false,cx,cb,true⟩,cx,cb] fun v H'=>
   ∃cd' ca' cs' W' r' f' e,v= .tuple #[flv f',.int .i64 e]∧H'=[aAh bw bd ba bs,cd',ca',cs',aKc bl bx key value to r',r'.cx,r'.cb]∧Wc bd ba bs W' cd' ca' cs'∧Ev {W with α:=α1} W' (fa.blocks+fa.count+1+fb.blocks) (aAb W.δ.size (max fa.width (to+1)) fa.count)∧aBr W.live W W'∧RSt bw bx fb bts g W.α.gs W' r'.cx r'.cb∧
    ((e=0∧W'.live.Perm (aCh f' W.live)∧f'.width=max fa.width (to+1)∧f'.count=fa.count∧aAq W'.δ.disk W.δ.size [f'.ext] f' (ats.map (aEv bts key value to)))∨(e=6∧f'=⟨0,0,0,0⟩∧W.δ.fault≠-1∧W'.live.Perm W.live)):=by
  intro bl
  have h1:=bNm bw bd ba bs (lkZ bw bl bx key value to ats fb bts LvB W.δ.size g) {W with α:=α1} cd ca1 cs hW1 (lkZ_ok bw bl bx key value to ats fb bts LvB W.δ.size g W.live hsb) fa ats LvA hfa hsa (max fa.width (to+1)) (by omega) (by omega)
   (fun i=>aEv bts key value to (at5 ats i)) (fun i hi=>aNh hfb.fit key value to hto (hfa.fit _ (by
    have hil:i<ats.length:=by rw[hfa.len];exact hi
    unfold at5;rw[AN,AE hil]
    exact B4 hil))) 87 inferInstance [pv bl] []
   (bNp bw bd ba bs bl bx key value to (by omega) (by omega) hto ats hsort fb bts LvB W.δ.size α1.room g hrise hcb) ⟨0,false,false,T5.zero,0,false,cx,cb,true⟩ W.α.gs hg1
   ⟨rfl,rfl,hr1,AS _,hfb,hsb,fun k _=>⟨⟨fun _=>rfl,fun h=>(by cases h),fun h=>(by cases h)⟩,fun h=>(by cases h)⟩⟩ fb.blocks (fun W2 r2 hr2=>by
    show aAb W.δ.size fb.width r2.pos≤_
    rw[hfb.blk];exact aAk hr2.1) (by omega) (by dsimp only;omega) hfit hac hca
  refine Ct.convP h1 (by unfold lkZ;refine aEk fun z=> ?_;simp only[AW,A8,AQ,A3,BI]) ?_
  rintro v H' ⟨cd',ca',cs',W',r',f',e,rfl,rfl,a1,a2,a3,a4,a5,a6⟩
  refine⟨[aAh bw bd ba bs,cd',ca',cs',aKc bl bx key value to r',r'.cx,r'.cb],⟨cd',ca',cs',W',r',f',e,rfl,rfl,a1,a2,a3,?_,?_⟩,by unfold lkZ;refine aEk fun z=> ?_;simp only[AW,A8,AQ,A3,BI]⟩
  ·rcases a5.2 with⟨b1,b2⟩|⟨b1,b2⟩
   ·exact .inl ⟨by simpa[lkZ,b1] using a4,_,b2⟩
   ·exact .inr ⟨by simpa[lkZ,b1] using a4,b2⟩
  ·have hmap:aCz (fun i=>aEv bts key value to (at5 ats i)) fa.count=ats.map (aEv bts key value to):=by
    unfold aCz
    apply CD
    intro i
    rw[BP,BP]
    by_cases hi:i<fa.count
    ·have hil:i<ats.length:=by rw[hfa.len];exact hi
     rw[List.getElem?_range hi,AE hil]
     show some (aEv bts key value to (at5 ats i))=_
     unfold at5;rw[AN,AE hil];rfl
    ·rw[BC (by simp;omega),BC (by rw[hfa.len];omega)];rfl
   rw[←hmap]
   exact a6
 have hE:=fun bl=>hE bl
 unfold aKc at hE
 dsimp only at hE
 rw[hflv fa] at hE
 repeat(first|(refine st ?_;intros)|(refine cq hCa ?_)|(refine cq hCb ?_)|(refine cq hCn ?_))
 rename_i b7 b9 b12 bl
 rw[e2]
 refine R.call (hct:=hE bl) (h:= ?_)
 rintro _ _ ⟨cd2,ca2,cs2,W2,r2,f2,e,rfl,rfl,hW2,hE2,hK2,hR2,hc2⟩
 dsimp only[AA,AB]
 rw[hflv]
 have hRc:=aBh bw bd ba bs W2 cd2 ca2 cs2 hW2 bx fb bts g W.α.gs r2.cx r2.cb hR2
 repeat(first|(refine st ?_;intros)|(refine cq hCa ?_)|(refine cq hCb ?_)|(refine cq hCn ?_))
 refine Go.SL.Lv.call (hc:=hRc) (h:= ?_)
 rintro _ _ ⟨ca8,α8,cx8,rfl,hW8,hE8,hg8⟩
 try dsimp only[AA,AB]
 (refine Go.SL.Lv.nil (Hr:=[aAh bw bd ba bs,cd2,ca8,cs2]) Tryz.results47 (hR:= ?_);exact⟨cd2,ca8,cs2,{W2 with α:=α8},f2,e,rfl,rfl,hW8,((hE1.trans hE2).trans hE8).weak (by omega) (by omega),hK2,hg8,hc2⟩)
def LayerR (bw bd ba bs:Nat) (W:Wk) (A T:Nat) (er:Option Nat) (ts:List T5) (wd:Nat) (v:Value) (H':Hp):Prop:=
 ∃f e cd' ca' cs' W',v= .tuple #[flv f,.int .i64 e]∧H'=[aAh bw bd ba bs,cd',ca',cs']∧Wc bd ba bs W' cd' ca' cs'∧aDp (aLx bw bd ba bs 0 W) W W' A T er ts f e∧(e=0→f.width=wd)
def bKw (bw bd ba bs:Nat) (W:Wk) (cd cs:aAc) (A T:Nat) (er:Option Nat) (ts:List T5) (wd:Nat) (v:Value) (H':Hp):Prop:=
 (8*W.δ.size≤W.α.room-W.α.used∧LayerR bw bd ba bs W A T er ts wd v H')∨
 (W.α.room-W.α.used<8*W.δ.size∧v= .tuple #[flv ⟨0,0,0,0⟩,.int .i64 7]∧∃ca' α',H'=[aAh bw bd ba bs,cd,ca',cs]∧Wc bd ba bs {W with α:=α'} cd ca' cs∧α'.gs.Perm W.α.gs∧α'.room=W.α.room)
theorem aMm {bw bd ba bs bj:Nat} {W W':Wk} {J:Jb} {f:Fl} {ts:List T5} {G2:List (Fl×List T5)} {A T:Nat} (h:bFc (aLx bw bd ba bs bj W) J [f] W') (hG:J.G=(f,ts)::G2) (hA:J.acts≤W.δ.acts+A) (hT:J.took≤T):
  aDp (aLx bw bd ba bs 0 W) W W' A T J.er ts (if J.e=0 then f else⟨0,0,0,0⟩) J.e:=by
 refine⟨h.gs,h.room,h.size,h.n,BA h.acts hA,?_,?_,fun x hx=>h.keep x hx,?_⟩
 ·have:=h.tk
  have h2:(aLx bw bd ba bs bj W).b0=big W.σ.free:=rfl
  omega
 ·intro hf
  exact h.flt (fun h2=>h2 hf)
 ·by_cases he:J.e=0
  ·obtain⟨h1,h2,h3⟩:=h.good he [(f,ts)] G2 (by rw[hG];exact .refl _) rfl
   rw[if_pos he]
   exact .inl ⟨he,h3,h1,h2 _ AI⟩
  ·obtain⟨h1,h2⟩:=h.bad he
   rw[if_neg he]
   exact .inr ⟨he,rfl,h1,h2⟩
theorem bJb (p:Jp) (hp:p.Ok) (J:Jb) (C:aAc) (hJ:aQq p J C) (f:Fl) (b:Nat):
  Ct AC 52 [pv p.bj,.slice (some ⟨b,0,none⟩) 1 1] [C,[(b,row (fl4 f) 27)]] fun v H'=>∃cd ca cs W,v= .int .i64 J.e∧H'=[aAh p.bw p.bd p.ba p.bs,cd,ca,cs,[(b,row (fl4 f) 27)]]∧Wc p.bd p.ba p.bs W cd ca cs∧bFc p J [f] W:=
 bNi p hp J C hJ [f] (by simp) _ 1 _ (vec1 b f)
theorem aVd {p:Jp} {e:Int} {cd ca cs:aAc}:([aFa p.bj p.bw e none 0 0,aAh p.bw p.bd p.ba p.bs,cd,ca,cs]:Hp).flatten.Perm ([aJf p e cd ca cs none 0 0 []]:Hp).flatten:=by
 unfold aJf;refine aEk fun z=> ?_;simp only[AW,A8,AQ,BI];omega
abbrev o1:T5:=⟨1,0,0,0,0⟩
abbrev o12:T5:=⟨1,2,0,0,0⟩
theorem aGl {p:Jp} {x:Fl×List T5} (h:In0 p x):x.2.length=x.1.count∧(∀t∈x.2,okT x.1.width t)∧x.1.blocks=aAb p.size x.1.width x.1.count∧1≤x.1.width∧x.1.width≤5:=by
 obtain⟨Lv,h,_⟩:=h
 exact⟨h.len,h.fit,h.blk,h.w1,h.w2⟩
theorem aSf:aBa 1:=⟨by decide,by decide⟩
theorem bBo {a b:Nat} (h:a≤b):aEi a≤aEi b:=by
 unfold aEi
 exact DA (by omega) (Nat.add_le_add_left (aRy (by omega)) _)
theorem bFg (p:Jp) (hp:p.Ok) (J:Jb) (he:J.e=0) (fa fb:Fl) (ats bts:List T5) (ha:(fa,ats)∈J.G∨In0 p (fa,ats)) (hb:(fb,bts)∈J.G∨In0 p (fb,bts)) (hca:fa.count≤100000) (hcb:fb.count≤100000)
  (key value to:Nat) (hkey:key<fa.width) (hval:value<fb.width) (hto:to<5) (hsort:ats.Pairwise fun a c=>a.col key≤c.col key) (hrise:bts.Pairwise fun a c=>a.c0<c.c0)
  (A T:Nat) (hT:aAb p.size (max fa.width (to+1)) fa.count≤T) (hroom:Fits p J T) (hA:fa.blocks+fa.count+1+fb.blocks≤A) (hac:J.acts+A≤1000000000)
  (W:Wk) (cd ca cs:aAc) (held:List (Fl×List T5)) (hW:Wc p.bd p.ba p.bs W cd ca cs) (hJW:aLf p J held W):
  Ct AC 47 [pv p.bw,flv fa,.int .i64 (key:Int),flv fb,.int .i64 (value:Int),.int .i64 (to:Int)] [aAh p.bw p.bd p.ba p.bs,cd,ca,cs] fun v H'=>
   ∃f e cd' ca' cs' W',v= .tuple #[flv f,.int .i64 e]∧H'=[aAh p.bw p.bd p.ba p.bs,cd',ca',cs']∧Wc p.bd p.ba p.bs W' cd' ca' cs'∧aDp p W W' A T none (ats.map (aEv bts key value to)) f e∧
    (f.count≤fa.count∧f.blocks≤aAb p.size (max fa.width (to+1)) fa.count∧(e=0→f.width=max fa.width (to+1)∧f.count=fa.count)):=by
 obtain⟨LvA,hfoa,hsa⟩:=hJW.file (ha.imp (fun h=>(hJW.ok he).1.mem_iff.2 h) id)
 obtain⟨LvB,hfob,hsb⟩:=hJW.file (hb.imp (fun h=>(hJW.ok he).1.mem_iff.2 h) id)
 dsimp only at hfoa hfob
 obtain⟨⟨hs1,hs2⟩,_⟩:=hW.dev.num
 have hus:=hJW.used hp hW
 have hbig:=hJW.big hW he hroom
 have hjac:=hJW.acts
 have hnb:aAb W.δ.size (max fa.width (to+1)) fa.count≤T:=by rw[hJW.size];exact hT
 refine(bNq p.bw p.bd p.ba p.bs key value to W cd ca cs hW fa ats LvA hfoa hsa fb bts LvB hfob hsb hkey hval hto hsort hrise (by omega) (by omega) (by omega) (by omega) (by omega)).mono ?_
 rintro v H' ⟨cd',ca',cs',W',f,e,rfl,rfl,hW',hE,hK,hg,hc⟩
 refine⟨f,e,cd',ca',cs',W',rfl,rfl,hW',⟨hg,hE.room,hE.size,hE.n,by have:=hE.acts.2;omega,by have:=hE.big;omega,hE.fault,hK,?_⟩,?_⟩
 ·rcases hc with⟨a,b,_,_,c⟩|⟨a,b,c,d⟩
  ·exact .inl ⟨a,rfl,b,c⟩
  ·exact .inr ⟨by omega,b,d,.inl ⟨a,c⟩⟩
 ·rcases hc with⟨a,b,c1,c2,c⟩|⟨a,rfl,c,d⟩
  ·refine⟨by omega,?_,fun _=>⟨c1,c2⟩⟩
   rw[c.blk,c1,c2,hJW.size];exact AG _
  ·exact⟨AS _,AS _,fun h=>by omega⟩
def aFz (bj b8 b4 b5:Nat) (fa fb:Fl):Hp:=[[(b8,row [pv bj] 82)],[(b4,row (fl4 fa) 27)],[(b5,row (fl4 fb) 27)]]
structure Rm (p:Jp) (B m k a:Nat):Prop where
 ok:p.Ok
 le:B≤m
 bs:B≤1000
 room:m*(k+p.L0.length+1)+(k*B+aBb p.L0)≤p.n
 kk:k≤100
 acts:a≤500000000
structure aHf (p:Jp) (B k a s0:Nat) (e:Int) (er:Option Nat) (Gf:List (Fl×List T5)) (C:aAc):Prop where
 job:aQq p ⟨e,er,Gf,a+s0*30000,s0*30000⟩ C
 len:Gf.length≤k
 blk:∀x∈Gf,x.1.blocks≤B
theorem aQt {B:Nat}:∀{l:List Nat},(∀x∈l,x≤B)→l.sum≤l.length*B
 |[],_=>by simp
 |x::l,h=>by
  have h1:=h x AI
  have h2:=aQt (l:=l) (fun y hy=>h y (AJ _ hy))
  simp only[List.sum_cons,AL,DM,Nat.one_mul];omega
theorem Rm.fits {p:Jp} {B m k a:Nat} (h:Rm p B m k a) {Gf:List (Fl×List T5)} (hl:Gf.length≤k) (hb:∀x∈Gf,x.1.blocks≤B) {T:Nat} (hT:T≤m) (e:Int) (er:Option Nat) (x y:Nat):Fits p ⟨e,er,Gf,x,y⟩ T:=by
 left
 unfold bNh
 dsimp only
 have h1:T*(Gf.length+p.L0.length+1)≤m*(k+p.L0.length+1):=DA hT (by omega)
 have h2:=aQt (B:=B) (l:=Gf.map (·.1.blocks)) (by intro y hy;obtain⟨x,hx,rfl⟩:=AT.1 hy;exact hb x hx)
 rw[AX] at h2
 have h3:Gf.length*B≤k*B:=A5 _ hl
 have:=h.room
 omega
structure FB (b c w n:Nat) (e:Int) (f:Fl):Prop where
 cnt:f.count≤b
 blk:f.blocks≤c
 ok:e=0→f.width=w∧f.count=n
theorem FB.mono {b c w n:Nat} {e e':Int} {f:Fl} (h:FB b c w n e f) (he:e'=0→e=0):FB b c w n e' f:=⟨h.cnt,h.blk,fun h0=>h.ok (he h0)⟩
theorem aQq.er0 {p:Jp} {J:Jb} {C:aAc} (h:aQq p J C) (he:J.e=0):J.er=none:=by
 obtain⟨W,cd,ca,cs,held,ph,cap,ch,_,_,_,hJW⟩:=h
 exact(hJW.ok he).2
theorem aHf.er0 {p:Jp} {B k a s0:Nat} {e:Int} {er:Option Nat} {Gf:List (Fl×List T5)} {C:aAc} (h:aHf p B k a s0 e er Gf C) (he:e=0):er=none:=h.job.er0 he
theorem nbS {s w n c:Nat} (hs:8≤s) (h1:1≤w) (h5:w≤5) (hc:n≤c∨(w≤3∧n≤2*c)):aAb s w n≤c:=by
 have hp:=aAj hs h1 h5
 rcases hc with hc|⟨hw,hc⟩
 ·exact BA (aAv hp) hc
 ·have h2:2≤aAf s w:=by
   have:3*2≤s-2:=by omega
   exact(Nat.le_div_iff_mul_le (by omega)).2 (by
    have:2*w≤2*3:=BU _ hw
    omega)
  unfold aAb
  generalize aAf s w=q at*
  have:n+q-1<(c+1)*q:=by
   have h3:c*2≤c*q:=BU _ h2
   rw[DM,Nat.one_mul]
   omega
  have:=(Nat.div_lt_iff_lt_mul (by omega)).2 this
  omega
inductive Pk {α:Type} (x:α):List α→List α→Prop
 |here {l:List α}:Pk x (x::l) l
 |there {y:α} {l l':List α}:Pk x l l'→Pk x (y::l) (y::l')
theorem Pk.perm {α:Type} {x:α} {l l':List α} (h:Pk x l l'):l.Perm (x::l'):=by
 induction h with
 |here=>exact .refl _
 |there _ ih=>exact(ih.cons _).trans (.swap _ _ _)
inductive Pks {α:Type}:List α→List α→List α→Prop
 |nil {l:List α}:Pks [] l l
 |cons {x:α} {xs l l1 l2:List α}:Pk x l l1→Pks xs l1 l2→Pks (x::xs) l l2
theorem Pks.perm {α:Type} {xs l l':List α} (h:Pks xs l l'):l.Perm (xs++l'):=by
 induction h with
 |nil=>exact .refl _
 |cons h1 _ ih=>exact h1.perm.trans (ih.cons _)
section
variable {p:Jp} {B m k a s0:Nat} {e:Int} {er:Option Nat} {Gf:List (Fl×List T5)} {C:aAc}
theorem aQq.weak {J J':Jb} (h:aQq p J C) (he:J'.e=J.e) (her:J'.er=J.er) (hG:J'.G=J.G) (ha:J.acts≤J'.acts) (ht:J.took≤J'.took):aQq p J' C:=by
 obtain⟨W,cd,ca,cs,held,ph,cap,ch,h1,h2,h3,h4⟩:=h
 refine⟨W,cd,ca,cs,held,ph,cap,ch,by rw[he];exact h1,h2,h3,{h4 with acts:=BA h4.acts ha,tk:=BA h4.tk (by omega),ok:= ?_,why:= ?_}⟩
 ·rw[he,her,hG];exact h4.ok
 ·rw[he,her];exact h4.why
theorem aHf.push (h:aHf p B k a s0 e er Gf C) (hl:Gf.length+1≤k) {e':Int} {er':Option Nat} {f:Fl} {ts:List T5} {C':aAc} {A T:Nat} (q:Nat) (hJ:aQq p ⟨e',er',(f,ts)::Gf,a+s0*30000+A,s0*30000+T⟩ C') (hA:A≤q*30000) (hT:T≤q*30000) (hb:f.blocks≤B):aHf p B k a (s0+q) e' er' ((f,ts)::Gf) C' where
 job:=by
  have e1:(s0+q)*30000=s0*30000+q*30000:=DM _ _ _
  exact hJ.weak rfl rfl rfl (by dsimp only;omega) (by dsimp only;omega)
 len:=by simpa using hl
 blk:=by
  intro x hx
  rcases AM.1 hx with rfl|hx
  ·exact hb
  ·exact h.blk x hx
theorem SMake (hR:Rm p B m k a) (hJ:aHf p B k a s0 e er Gf C) {K:Type} (M:aAt K) (k0:K) (width bound c κ:Nat) (hwd:1≤width∧width≤5) (mk:Nat) (hcal:Callable AC mk) (us:List Value) (ok:K→T5→Prop) (hM:aGi M width ok mk [] us)
  (hκ:∀k t,ok k t→(M.outs k t).length≤κ) (hκb:κ≤5) (l:List (Fl×List T5)) (hs:∀x∈l,x∈Gf∨In0 p x) (h0:∀x∈l,x.1.count≤1000∧x.1.blocks≤1000) (hll:l.length≤4) (pa:Option Addr) (cap:Nat) (cf:aAc) (hV:Vec 27 4 pa l.length cap (aAi (l.map (·.1))) cf)
  (hok:e=0→M.oks ok k0 (cat l)) (hbd:e=0→(M.all k0 (cat l)).length≤bound)
  (hc:bound≤c∨(width≤3∧bound≤2*c)) (hcB:c≤B) (hl:Gf.length+1≤k) (hst:s0≤10000):
  Ct AC 42 [pv p.bj,.int .i64 (width:Int),.int .i64 (bound:Int),.func (.func mk) #[] us.toArray,.slice pa l.length cap] (C::cf::M.C k0) fun v H'=>
   ∃f C' e' k',v=flv f∧H'=C'::cf::M.C k'∧aHf p B k a (s0+1) e' (er.or (M.bad k0 (cat l))) ((f,M.all k0 (cat l))::Gf) C'∧FB bound c width (M.all k0 (cat l)).length e' f∧(e'=0→e=0∧k'=M.st k0 (cat l)∧M.bad k0 (cat l)=none):=by
 have hB:=hR.bs
 have hkk:=hR.kk
 have hac:=hR.acts
 have hm:=hR.le
 have hlen:=hJ.len
 have hnb:=nbS (s:=p.size) hR.ok.size.1 hwd.1 hwd.2 hc
 have hb2:bound≤2000:=by omega
 have hact:aEz κ l≤4*6000:=by
  unfold aEz
  refine BA (aQt (B:=6000) ?_) (by rw[AX];exact A5 _ hll)
  intro x hx
  obtain⟨y,hy,rfl⟩:=AT.1 hx
  have h1:=h0 y hy
  have h2:y.1.count*κ≤1000*5:=DA h1.1 hκb
  omega
 have h2:s0*30000≤10000*30000:=DA hst (AG _)
 refine(JMake p hR.ok _ C hJ.job M k0 width bound κ 24001 c hwd.1 hwd.2 (by omega) mk hcal [] us ok hM hκ (by omega) l hs (fun x hx=>by have:=h0 x hx;omega) pa cap cf hV hok hbd hnb
  (fun _=>hR.fits hJ.len hJ.blk (by omega) _ _ _ _) (by omega) (by dsimp only;omega) (by dsimp only;omega)).mono ?_
 rintro v H' ⟨f,C',e',k',rfl,rfl,h3,h4,h5,h6⟩
 have h7:f.blocks≤c:=BA h6 hnb
 exact⟨f,C',e',k',rfl,rfl,hJ.push hl 1 h3 (by omega) (by omega) (by omega),⟨h5,h7,fun h=>let ⟨_,_,c,d,_⟩:=h4 h;⟨c,d⟩⟩,fun h=>let ⟨a,b,_,_,d⟩:=h4 h;⟨a,b,d⟩⟩
theorem bKx (hR:Rm p B m k a) (hJ:aHf p B k a s0 e er Gf C) {K:Type} (M:aAt K) (k0:K) (width bound c κ:Nat) (hwd:1≤width∧width≤5) (mk:Nat) (hcal:Callable AC mk) (us:List Value) (ok:K→T5→Prop) (hM:aGi M width ok mk [] us)
  (hκ:∀k t,ok k t→(M.outs k t).length≤κ) (hκb:κ≤5) (f0:Fl) (ts:List T5) (hs:(f0,ts)∈Gf∨In0 p (f0,ts)) (h0:f0.count≤1000∧f0.blocks≤1000) (hok:e=0→M.oks ok k0 ts) (hbd:e=0→(M.all k0 ts).length≤bound)
  (hc:bound≤c∨(width≤3∧bound≤2*c)) (hcB:c≤B) (hl:Gf.length+1≤k) (hst:s0≤10000) (b:Nat):
  Ct AC 42 [pv p.bj,.int .i64 (width:Int),.int .i64 (bound:Int),.func (.func mk) #[] us.toArray,.slice (some ⟨b,0,none⟩) 1 1] (C::[(b,row (fl4 f0) 27)]::M.C k0) fun v H'=>
   ∃f C' e' k',v=flv f∧H'=C'::[(b,row (fl4 f0) 27)]::M.C k'∧aHf p B k a (s0+1) e' (er.or (M.bad k0 ts)) ((f,M.all k0 ts)::Gf) C'∧FB bound c width (M.all k0 ts).length e' f∧(e'=0→e=0∧k'=M.st k0 ts∧M.bad k0 ts=none):=by
 have h:=SMake hR hJ M k0 width bound c κ hwd mk hcal us ok hM hκ hκb [(f0,ts)] (by simpa using hs) (by simpa using h0) (by simp) _ 1 _ (vec1 b f0)
 rw[bNj] at h
 exact h hok hbd hc hcB hl hst
theorem bFh (hR:Rm p B m k a) (hJ:aHf p B k a s0 e er Gf C) {K:Type} (M:aAt K) (hne:∀k t,M.err k t=none) (k0:K) (width bound c κ:Nat) (hwd:1≤width∧width≤5) (mk:Nat) (hcal:Callable AC mk) (us:List Value) (ok:K→T5→Prop) (hM:aGi M width ok mk [] us)
  (hκ:∀k t,ok k t→(M.outs k t).length≤κ) (hκb:κ≤5) (f0:Fl) (ts:List T5) (hs:(f0,ts)∈Gf∨In0 p (f0,ts)) (h0:f0.count≤1000∧f0.blocks≤1000) (hok:e=0→M.oks ok k0 ts) (hbd:e=0→(M.all k0 ts).length≤bound)
  (hc:bound≤c∨(width≤3∧bound≤2*c)) (hcB:c≤B) (hl:Gf.length+1≤k) (hst:s0≤10000) (b:Nat):
  Ct AC 42 [pv p.bj,.int .i64 (width:Int),.int .i64 (bound:Int),.func (.func mk) #[] us.toArray,.slice (some ⟨b,0,none⟩) 1 1] (C::[(b,row (fl4 f0) 27)]::M.C k0) fun v H'=>
   ∃f C' e' k',v=flv f∧H'=C'::[(b,row (fl4 f0) 27)]::M.C k'∧aHf p B k a (s0+1) e' er ((f,M.all k0 ts)::Gf) C'∧FB bound c width (M.all k0 ts).length e' f∧(e'=0→e=0∧k'=M.st k0 ts):=by
 refine(bKx hR hJ M k0 width bound c κ hwd mk hcal us ok hM hκ hκb f0 ts hs h0 hok hbd hc hcB hl hst b).mono ?_
 rintro v H' ⟨f,C',e',k',h1,h2,h3,h4,h5⟩
 rw[aAt.bad_none hne,aNf] at h3
 exact⟨f,C',e',k',h1,h2,h3,h4,fun h=>⟨(h5 h).1,(h5 h).2.1⟩⟩
theorem SMap2 (hR:Rm p B m k a) (hJ:aHf p B k a s0 e er Gf C) (g:T5→T5) (width bound c:Nat) (hwd:1≤width∧width≤5) (mk:Nat) (hcal:Callable AC mk) (okt:T5→Prop) (hmk:∀bx t X R,PutC bx (g t) X R→Ct AC mk [tv t,aWf bx] [X] (bIy R)) (hokt:∀t,okt t→okT width (g t))
  (f0 f1:Fl) (ts us:List T5) (hs:(f0,ts)∈Gf∨In0 p (f0,ts)) (hs1:(f1,us)∈Gf∨In0 p (f1,us)) (h0:f0.count≤1000∧f0.blocks≤1000) (h1:f1.count≤1000∧f1.blocks≤1000) (hok:e=0→∀t∈ts++us,okt t) (hbd:e=0→ts.length+us.length≤bound)
  (hc:bound≤c∨(width≤3∧bound≤2*c)) (hcB:c≤B) (hl:Gf.length+1≤k) (hst:s0≤10000) (b:Nat):
  Ct AC 42 [pv p.bj,.int .i64 (width:Int),.int .i64 (bound:Int),.func (.func mk) #[] #[],.slice (some ⟨b,0,none⟩) 2 2] [C,[(b,row (fl4 f0++fl4 f1) 27)]] fun v H'=>
   ∃f C' e',v=flv f∧H'=[C',[(b,row (fl4 f0++fl4 f1) 27)]]∧aHf p B k a (s0+1) e' er ((f,(ts++us).map g)::Gf) C'∧FB bound c width (ts.length+us.length) e' f∧(e'=0→e=0):=by
 have h:=SMake hR hJ (mMap g) () width bound c 1 hwd mk hcal [] _ (aGi.tail hmk hokt) (fun _ _ _=>AG _) (by omega) [(f0,ts),(f1,us)] (by simpa using⟨hs,hs1⟩) (by simpa using⟨h0,h1⟩) (by simp) _ 2 _ (vec2 b f0 f1)
 rw[bNk] at h
 have h:=h (fun h=>aAt.oks_of (M:=mMap g) (I:=fun _=>True) (Q:=okt) (fun _ t _ h=>⟨h,trivial⟩) (ts++us) () trivial (hok h)) (by rw[aSd,AX,AF];exact hbd) hc hcB hl hst
 refine h.mono ?_
 rintro v H' ⟨f,C',e',k',h1,h2,h3,h4,h5⟩
 rw[aAt.bad_none (fun _ _=>rfl),aNf] at h3
 rw[aSd] at h3 h4
 rw[AX,AF] at h4
 exact⟨f,C',e',h1,h2,h3,h4,fun h=>(h5 h).1⟩
theorem aXo (hR:Rm p B m k a) (hJ:aHf p B k a s0 e er Gf C) (f:Fl) (ts:List T5) (G':List (Fl×List T5)) (o:T5) (ho:aGb o=true) (once:Bool) {b c w n:Nat} (hf:FB b c w n e f) (hP:Pk (f,ts) Gf G') (hb:b≤1000) (hcB:c≤B) (hT:aEi c≤m) (hst:s0≤10000):
  Ct AC 44 [pv p.bj,flv f,tv o,.bool once] [C] fun v H'=>
   ∃g C' e',v=flv g∧H'=[C']∧aHf p B k a (s0+1) e' er ((g,srt (ltO o) once ts)::G') C'∧FB b c w (srt (ltO o) once ts).length e' g∧(e'=0→e=0):=by
 have hB:=hR.bs
 have hac:=hR.acts
 have hcn:=hf.cnt
 have hbl:=hf.blk
 have h2:s0*30000≤10000*30000:=DA hst (AG _)
 have hle:=hP.perm.length_eq
 have hT2:aEi f.blocks≤aEi c:=bBo hbl
 have hsm:aEi f.blocks≤30000:=by
  have h1:=bIt (b:=f.blocks) (m:=1000) (l:=5) (by omega) (by decide)
  exact BA h1 (nle rfl)
 refine(JSort p hR.ok _ C hJ.job f ts G' o ho once 20000 (aEi f.blocks) (fun _=>hP.perm) (fun _=>AG _) (fun _=>hR.fits hJ.len hJ.blk (by omega) _ _ _ _) (fun _=>aXi (by omega)) (by dsimp only;omega) (by omega)).mono ?_
 rintro v H' ⟨g,C',e',rfl,rfl,h3,h4,h5,h6⟩
 refine⟨g,C',e',rfl,rfl,⟨?_,?_,?_⟩,⟨by omega,by omega,fun h=> ?_⟩,fun h=>(h4 h).1⟩
 ·have e1:(s0+1)*30000=s0*30000+1*30000:=DM _ _ _
  refine h3.weak rfl rfl rfl (by dsimp only;omega) ?_
  show s0*30000+aEi f.blocks≤(s0+1)*30000
  rw[e1]
  exact Nat.add_le_add_left hsm _
 ·have:=hJ.len;simp only[AL] at hle⊢;omega
 ·intro x hx
  rcases AM.1 hx with rfl|hx
  ·dsimp only;omega
  ·exact hJ.blk x (hP.perm.mem_iff.2 (AJ _ hx))
 ·obtain⟨h7,h8,h9⟩:=h4 h
  exact⟨h8.trans (hf.ok h7).1,h9⟩
theorem bJc (hR:Rm p B m k a) (hJ:aHf p B k a s0 e er Gf C) (fts G':List (Fl×List T5)) (hP:Pks fts Gf G') (hfl:fts.length≤1000) (pa:Option Addr) (cap:Nat) (cf:aAc) (hV:Vec 27 4 pa (fts.map (·.1)).length cap (aAi (fts.map (·.1))) cf):
  Ct AC 110 [pv p.bj,.slice pa (fts.map (·.1)).length cap] [C,cf] fun v H'=>∃C',v= .tuple #[]∧H'=[C',cf]∧aHf p B k a s0 e er G' C':=by
 refine(JFree p hR.ok _ C hJ.job (fts.map (·.1)) fts G' (fun _=>⟨hP.perm,rfl⟩) (by rw[AX];exact hfl) pa cap cf hV).mono ?_
 rintro v H' ⟨C',rfl,rfl,h⟩
 have hle:=hP.perm.length_eq
 exact⟨C',rfl,rfl,h,by have:=hJ.len;rw[AF] at hle;omega,fun x hx=>hJ.blk x (hP.perm.mem_iff.2 (List.mem_append_right _ hx))⟩
theorem SRun (hR:Rm p B m k a) (hJ:aHf p B k a s0 e er Gf C) (mk:Nat) (hcal:Callable AC mk) (us:List Value) (Hx:Hp) (A T q:Nat) (er':Option Nat) (ts:List T5) (hA:A≤q*30000) (hT:T≤q*30000) {b c w n:Nat}
  (hst:e=0→∀x y,x≤a+s0*30000→aFy p ⟨e,er,Gf,x,y⟩ mk us Hx A T er' ts fun f e Hx'=>Hx'=Hx∧FB b c w n e f) (hcB:c≤B) (hl:Gf.length+1≤k):
  Ct AC 45 [pv p.bj,.func (.func mk) #[] us.toArray] (C::Hx) fun v H'=>∃f C' e',v=flv f∧H'=C'::Hx∧aHf p B k a (s0+q) e' (er.or er') ((f,ts)::Gf) C'∧FB b c w n e' f∧(e'=0→e=0):=by
 have hkk:=hR.kk
 refine(JRunK p hR.ok _ C hJ.job mk hcal us Hx A T er' ts _ (fun h=>hst h _ _ (AG _)) (by have:=hJ.len;dsimp only;omega)).mono ?_
 rintro v H' ⟨f,C',e',rfl,rfl,h3,h4⟩
 dsimp only at h3 h4
 have hf:FB b c w n e' f∧(e'=0→e=0):=by
  rcases h4 with⟨h5,h6⟩|⟨h5,h6,rfl⟩
  ·exact⟨h6,fun _=>h5⟩
  ·exact⟨⟨AS _,AS _,fun h=>absurd (h6▸h) h5⟩,fun h=>absurd (h6▸h) h5⟩
 have:=hf.1.blk
 exact⟨f,C',e',rfl,rfl,hJ.push hl q h3 hA hT (by omega),hf.1,hf.2⟩
def bFi (p:Jp) (J:Jb) (fa fb:Fl) (key value to A T:Nat) (ts:List T5) (R:Fl→Int→Prop):Prop:=
 ∀W cd ca cs held,Wc p.bd p.ba p.bs W cd ca cs→aLf p J held W→
  Ct AC 47 [pv p.bw,flv fa,.int .i64 (key:Int),flv fb,.int .i64 (value:Int),.int .i64 (to:Int)] [aAh p.bw p.bd p.ba p.bs,cd,ca,cs] fun v H'=>
   ∃f e cd' ca' cs' W',v= .tuple #[flv f,.int .i64 e]∧H'=[aAh p.bw p.bd p.ba p.bs,cd',ca',cs']∧Wc p.bd p.ba p.bs W' cd' ca' cs'∧aDp p W W' A T none ts f e∧R f e
theorem SLook (hR:Rm p B m k a) (hlen:Gf.length≤k) (hblk:∀x∈Gf,x.1.blocks≤B) (fa fb:Fl) (ats bts:List T5) (hsa:(fa,ats)∈Gf∨In0 p (fa,ats)) (hsb:(fb,bts)∈Gf∨In0 p (fb,bts)) (key value to w c:Nat) (ha:fa.count≤1000∧fa.blocks≤1000) (hb:fb.count≤1000∧fb.blocks≤1000)
  (hkey:key<fa.width) (hval:value<fb.width) (hto:to<5) (hwm:max fa.width (to+1)=w) (hw5:w≤5) (hsort:ats.Pairwise fun a c=>a.col key≤c.col key) (hrise:bts.Pairwise fun a c=>a.c0<c.c0)
  (hc:fa.count≤c∨(w≤3∧fa.count≤2*c)) (hcB:c≤B) (x y:Nat) (hx:x≤900000000):
  bFi p ⟨0,er,Gf,x,y⟩ fa fb key value to 10000 c (ats.map (aEv bts key value to)) (fun f e=>FB fa.count c w fa.count e f):=by
 intro W cd ca cs held hW hJW
 have hm:=hR.le
 have hB:=hR.bs
 have hw1:1≤w:=by omega
 have hnb:=nbS (s:=p.size) hR.ok.size.1 hw1 hw5 hc
 rw[←hwm] at hnb
 refine(bFg p hR.ok _ rfl fa fb ats bts hsa hsb (by omega) (by omega) key value to hkey hval hto hsort hrise 10000 c hnb (hR.fits hlen hblk (by omega) _ _ _ _) (by omega) (by dsimp only;omega) W cd ca cs held hW hJW).mono ?_
 rintro v H' ⟨f,e,cd',ca',cs',W',h1,h2,h3,h4,h5,h6,h7⟩
 exact⟨f,e,cd',ca',cs',W',h1,h2,h3,h4,h5,BA h6 hnb,fun h=>by rw[←hwm];exact h7 h⟩
theorem aSg (hR:Rm p B m k a) (hJ:aHf p B k a s0 e er Gf C) (mk:Nat) (hcal:Callable AC mk) {us:List Value} {Hx:Hp} (fa fb:Fl) (ats bts:List T5) (key value to w c:Nat) (hsa:(fa,ats)∈Gf∨In0 p (fa,ats)) (hsb:(fb,bts)∈Gf∨In0 p (fb,bts))
  (hcl:∀(J:Jb) (A T:Nat) (ts:List T5) (R:Fl→Int→Prop),bFi p J fa fb key value to A T ts R→aFy p J mk us Hx A T none ts fun f e Hx'=>Hx'=Hx∧R f e)
  {ba ca wa na bb cb wb nb:Nat} (hfa:FB ba ca wa na e fa) (hfb:FB bb cb wb nb e fb) (hbb:ba≤1000∧ca≤1000∧bb≤1000∧cb≤1000) (hkey:key<wa) (hval:value<wb) (hto:to<5) (hwm:max wa (to+1)=w) (hw5:w≤5)
  (hsort:e=0→ats.Pairwise fun a c=>a.col key≤c.col key) (hrise:e=0→bts.Pairwise fun a c=>a.c0<c.c0) (hc:ba≤c∨(w≤3∧ba≤2*c)) (hcB:c≤B) (hl:Gf.length+1≤k) (hst:s0≤10000):
  Ct AC 45 [pv p.bj,.func (.func mk) #[] us.toArray] (C::Hx) fun v H'=>∃f C' e',v=flv f∧H'=C'::Hx∧aHf p B k a (s0+1) e' er ((f,ats.map (aEv bts key value to))::Gf) C'∧FB ba c w na e' f∧(e'=0→e=0):=by
 have hB:=hR.bs
 have hac:=hR.acts
 have h1:=hfa.cnt
 have h2:=hfa.blk
 have h3:=hfb.cnt
 have h4:=hfb.blk
 have h5:s0*30000≤10000*30000:=DA hst (AG _)
 have h:=SRun hR hJ mk hcal us Hx 10000 c 1 none (ats.map (aEv bts key value to)) (by decide) (by omega) (b:=ba) (c:=c) (w:=w) (n:=na) (fun he x y hx=>by
  subst he
  obtain⟨q1,q2⟩:=hfa.ok rfl
  obtain⟨q3,q4⟩:=hfb.ok rfl
  have hS:=SLook hR hJ.len hJ.blk (er:=er) fa fb ats bts hsa hsb key value to w c (by omega) (by omega) (by omega) (by omega) hto (by rw[q1];exact hwm) hw5 (hsort rfl) (hrise rfl) (by omega) hcB x y (by omega)
  have hS2:=hcl _ _ _ _ _ hS
  intro W cd ca cs held ph cap h1 h2
  refine(hS2 W cd ca cs held ph cap h1 h2).mono ?_
  rintro v H' ⟨f,e,cd',ca',cs',W',Hx',a1,a2,a3,a4,a5,a6⟩
  exact⟨f,e,cd',ca',cs',W',Hx',a1,a2,a3,a4,a5,⟨BA a6.cnt (by omega),a6.blk,fun h=>⟨(a6.ok h).1,by rw[(a6.ok h).2];exact q2⟩⟩⟩) hcB hl
 rw[aNf] at h
 exact h
theorem bFj (hR:Rm p B m k a) (hJ:aHf p B k a s0 e er Gf C) (f:Fl) (b:Nat):
  Ct AC 52 [pv p.bj,.slice (some ⟨b,0,none⟩) 1 1] [C,[(b,row (fl4 f) 27)]] fun v H'=>∃cd ca cs W,v= .int .i64 e∧H'=[aAh p.bw p.bd p.ba p.bs,cd,ca,cs,[(b,row (fl4 f) 27)]]∧Wc p.bd p.ba p.bs W cd ca cs∧bFc p ⟨e,er,Gf,a+s0*30000,s0*30000⟩ [f] W:=
 bJb p hR.ok _ C hJ.job f b
end
theorem bJd (bj bw:Nat) (e:Int) (p:Option Addr) (n cap:Nat) (m:Nat) (hm:m≤1000):
  Ct AC 93 [pv bj,.int .i64 (m:Int)] [aFa bj bw e p n cap] fun v H'=>v= .tuple #[]∧H'=[aFa bj bw (if e=0 then(m:Int) else e) p n cap]:=by
 unfold aFa
 by_cases he:e=0
 ·subst he
  rw[if_pos rfl]
  refine Ct.intro Tryz.func93 rfl Tryz.ntmps93 (nle rfl) fun w0=> ?_;dsimp only[aAa,AD]
  repeat(refine st ?_;intros)
  (refine Dn.postEnd (Hr:=[[(bj,row [pv bw,.int .i64 (m:Int),.slice p n cap] 95)]]) Tryz.results93 (hR:= ?_);exact⟨rfl,rfl⟩)
 ·rw[if_neg he]
  refine Ct.intro Tryz.func93 rfl Tryz.ntmps93 (nle rfl) fun w0=> ?_;dsimp only[aAa,AD]
  repeat(refine st ?_;intros)
  (refine Dn.postEnd (Hr:=[[(bj,row [pv bw,.int .i64 e,.slice p n cap] 95)]]) Tryz.results93 (hR:= ?_);exact⟨rfl,rfl⟩)
theorem aHf.orE {p:Jp} {B k a s0:Nat} {e:Int} {er:Option Nat} {Gf:List (Fl×List T5)} {C:aAc} (h:aHf p B k a s0 e er Gf C) (x:Option Nat) (hx:e=0→x=none):aHf p B k a s0 e (er.or x) Gf C:=by
 obtain⟨⟨W,cd,ca,cs,held,ph,cap,ch,h1,hW,hV,hJW⟩,hl,hb⟩:=h
 refine⟨⟨W,cd,ca,cs,held,ph,cap,ch,h1,hW,hV,{hJW with ok:=fun h=> ?_,why:=fun h=> ?_}⟩,hl,hb⟩
 ·obtain⟨a,b⟩:=hJW.ok h
  dsimp only at b
  exact⟨a,by rw[b,hx h];rfl⟩
 ·refine(hJW.why h).imp id ?_
  rintro⟨n,h1,h2⟩
  dsimp only at h1 h2
  exact⟨n,by rw[h1];rfl,h2⟩
theorem SFail {p:Jp} {B k a s0:Nat} {e:Int} {er:Option Nat} {Gf:List (Fl×List T5)} {C:aAc} (hJ:aHf p B k a s0 e er Gf C) (m:Nat) (hm0:m≠0) (hm:m≤1000) (x:Option Nat) (hx:e=0→x=some m):
  Ct AC 93 [pv p.bj,.int .i64 (m:Int)] [C] fun v H'=>∃e' C',v= .tuple #[]∧H'=[C']∧aHf p B k a s0 e' (er.or x) Gf C'∧e'≠0:=by
 obtain⟨⟨W,cd,ca,cs,held,ph,cap,ch,rfl,hW,hV,hJW⟩,hl,hb⟩:=hJ
 refine Ct.convP (Ct.wide (bJd p.bj p.bw e ph held.length cap m hm) [aAh p.bw p.bd p.ba p.bs,cd,ca,cs,ch]) (by unfold aJf;refine aEk fun z=> ?_;simp only[AW,A8,AQ,A3,BI];omega) ?_
 rintro v H' ⟨H1,⟨rfl,rfl⟩,rfl⟩
 have hne:(if e=0 then(m:Int) else e)≠0:=by split<;>omega
 refine⟨[aJf p (if e=0 then(m:Int) else e) cd ca cs ph held.length cap ch],⟨_,_,rfl,rfl,⟨⟨W,cd,ca,cs,held,ph,cap,ch,rfl,hW,hV,{hJW with ok:=fun h=>absurd h hne,why:=fun _=> ?_}⟩,hl,hb⟩,hne⟩,?_⟩
 ·have hv:∀z:Int,z=(if e=0 then(m:Int) else e)→(z=6∧p.fl)∨∃n:Nat,er.or x=some n∧z=(n:Int):=by
   rintro z rfl
   by_cases he:e=0
   ·have:=(hJW.ok he).2
    dsimp only at this
    rw[if_pos he,this,hx he]
    exact .inr ⟨m,rfl,rfl⟩
   ·rw[if_neg he]
    refine(hJW.why he).imp id ?_
    rintro⟨n,h1,h2⟩
    dsimp only at h1 h2
    exact⟨n,by rw[h1];rfl,h2⟩
  exact hv _ rfl
 ·unfold aJf;refine aEk fun z=> ?_;simp only[AW,A8,AQ,A3,BI];omega
def mFl (Cx:Hp) (f:T5→List T5):aAt Unit:=⟨fun _=>Cx,fun _ t=>f t,fun _ _=>(),fun _ _=>none⟩
theorem aXp (Cx:Hp) (f:T5→List T5):∀(ts:List T5) (k:Unit),(mFl Cx f).all k ts=ts.flatMap f
 |[],_=>rfl
 |t::ts,k=>by simp only[aAt.all,aXp Cx f ts,A6];rfl
theorem mFl_C (Cx:Hp) (f:T5→List T5) (k:Unit):(mFl Cx f).C k=Cx:=rfl
theorem aDw {f:T5→List T5} {g:T5→T5} (h:∀t,f t=[g t]) (ts:List T5):ts.flatMap f=ts.map g:=by
 induction ts with
 |nil=>rfl
 |cons t ts ih=>rw[A6,ih,h];rfl
theorem flatLe {f:T5→List T5} {n:Nat} (ts:List T5) (h:∀t∈ts,(f t).length≤n):(ts.flatMap f).length≤ts.length*n:=by
 induction ts with
 |nil=>simp
 |cons t ts ih=>
  have h1:=h t AI
  have h2:=ih fun u hu=>h u (AJ _ hu)
  rw[A6,AF,AL,Nat.succ_mul];omega
theorem bNr {p:Jp} {B m k a s0:Nat} {e:Int} {er:Option Nat} {Gf:List (Fl×List T5)} {C:aAc} (hR:Rm p B m k a) (hJ:aHf p B k a s0 e er Gf C) (Cx:Hp) (f:T5→List T5) (width bound c κ:Nat) (hwd:1≤width∧width≤5) (mk:Nat) (hcal:Callable AC mk) (us:List Value) (okt:T5→Prop)
  (hM:aGi (mFl Cx f) width (fun _ t=>okt t) mk [] us) (hκ:∀t,okt t→(f t).length≤κ) (hκb:κ≤5) (f0:Fl) (ts:List T5) (hs:(f0,ts)∈Gf∨In0 p (f0,ts)) (h0:f0.count≤1000∧f0.blocks≤1000) (hok:e=0→∀t∈ts,okt t) (hbd:e=0→(ts.flatMap f).length≤bound)
  (hc:bound≤c∨(width≤3∧bound≤2*c)) (hcB:c≤B) (hl:Gf.length+1≤k) (hst:s0≤10000) (b:Nat):
  Ct AC 42 [pv p.bj,.int .i64 (width:Int),.int .i64 (bound:Int),.func (.func mk) #[] us.toArray,.slice (some ⟨b,0,none⟩) 1 1] (C::[(b,row (fl4 f0) 27)]::Cx) fun v H'=>
   ∃g C' e',v=flv g∧H'=C'::[(b,row (fl4 f0) 27)]::Cx∧aHf p B k a (s0+1) e' er ((g,ts.flatMap f)::Gf) C'∧FB bound c width (ts.flatMap f).length e' g∧(e'=0→e=0):=by
 have h:=bFh hR hJ (mFl Cx f) (fun _ _=>rfl) () width bound c κ hwd mk hcal us _ hM (fun _ t ht=>hκ t ht) hκb f0 ts hs h0
  (fun h=>aAt.oks_of (M:=mFl Cx f) (I:=fun _=>True) (Q:=okt) (fun _ t _ h=>⟨h,trivial⟩) ts () trivial (hok h)) (by rw[aXp];exact hbd) hc hcB hl hst b
 simp only[aXp,mFl_C] at h
 refine h.mono ?_
 rintro v H' ⟨g,C',e',k',h1,h2,h3,h4,h5⟩
 exact⟨g,C',e',h1,h2,h3,h4,fun h=>(h5 h).1⟩
theorem bKy (x y:Int):(if aLm x y≠0 then aLm x y else 0)<0↔x<y:=by unfold aLm;split<;>(repeat' split)<;>omega
theorem aOq (a b:T5):ltO o1 a b=true↔a.c0<b.c0:=by
 have hf:aGb o1=true:=by decide
 unfold ltO aJo
 rw[decide_eq_true_iff,if_pos hf]
 exact bKy a.c0 b.c0
theorem bNs (x y z w:Int):(if aLm x y≠0 then aLm x y else if aLm z w≠0 then aLm z w else 0)<0↔x<y∨x=y∧z<w:=by unfold aLm;(repeat' split)<;>omega
theorem aKd (a b:T5):ltO o12 a b=true↔a.c0<b.c0∨a.c0=b.c0∧a.c1<b.c1:=by
 have hf:aGb o12=true:=by decide
 unfold ltO aJo
 rw[decide_eq_true_iff,if_pos hf]
 exact bNs a.c0 b.c0 a.c1 b.c1
theorem bFk (once:Bool) (l:List T5):(srt (ltO o12) once l).Pairwise fun a c=>a.c0<c.c0∨a.c0=c.c0∧(if once then a.c1<c.c1 else a.c1≤c.c1):=by
 refine(aKu (aBv o12) once l).imp fun {a b} h=> ?_
 cases once with
 |true=>
  simp only[if_true] at h⊢
  exact(aKd a b).1 h
 |false=>
  simp only[CN,if_false] at h⊢
  have h1:¬ltO o12 b a=true:=by rw[h];decide
  rw[aKd] at h1
  omega
theorem bNt {o:T5} {once:Bool} {l:List T5} {z:T5} (h:z∈l):∃w∈srt (ltO o) once l,eqv (ltO o) z w=true:=by
 have h1:=aZl (aBv o) once l z
 have hz:eqv (ltO o) z z=true:=by
  rw[aCv]
  have:ltO o z z=false:=by
   cases h2:ltO o z z with
   |false=>rfl
   |true=>have:=(aBv o).asym z z h2;rw[h2] at this;cases this
  exact⟨this,this⟩
 have h2:z∈l.filter (eqv (ltO o) z):=B3.2 ⟨h,hz⟩
 cases h3:(srt (ltO o) once l).filter (eqv (ltO o) z) with
 |nil=>
  exfalso
  rw[h3] at h1
  cases h4:l.filter (eqv (ltO o) z) with
  |nil=>rw[h4] at h2;cases h2
  |cons a b=>
   rw[h4] at h1
   cases once<;>simp[aGu] at h1
 |cons a b=>
  have h4:a∈(srt (ltO o) once l).filter (eqv (ltO o) z):=by rw[h3];exact AI
  obtain⟨h5,h6⟩:=B3.1 h4
  exact⟨a,h5,h6⟩
theorem aVe {a b:T5}:eqv (ltO o1) a b=true↔a.c0=b.c0:=by
 have h1:ltO o1 a b=false↔¬a.c0<b.c0:=by rw[←aOq];simp
 have h2:ltO o1 b a=false↔¬b.c0<a.c0:=by rw[←aOq];simp
 rw[aCv,h1,h2];omega
theorem bNu (a:T5):eqv (ltO o1) a=fun b=>decide (a.c0=b.c0):=by
 funext b
 cases h:eqv (ltO o1) a b with
 |true=>exact(decide_eq_true (aVe.1 h)).symm
 |false=>
  refine(decide_eq_false fun h2=> ?_).symm
  rw[aVe.2 h2] at h;cases h
theorem aXq (l:List T5):(srt (ltO o1) true l).Pairwise fun a c=>a.c0<c.c0:=
 (aKu (aBv o1) true l).imp fun {a b} h=>(aOq a b).1 (by simpa using h)
theorem bJe {l:List T5} {z:T5}:z∈srt (ltO o1) true l↔(l.filter fun b=>decide (z.c0=b.c0)).head? =some z:=by
 have hp:=aZl (aBv o1) true l z
 have hs:=aXq l
 rw[bNu] at hp
 simp only[aGu,if_true] at hp
 have hh:∀m:List T5,m.head? =some z↔m.take 1=[z]:=by
  intro m;cases m<;>simp
 rw[hh,hp]
 constructor
 ·intro hz
  have hm:z∈(srt (ltO o1) true l).filter fun b=>decide (z.c0=b.c0):=B3.2 ⟨hz,by simp⟩
  have hpw:((srt (ltO o1) true l).filter fun b=>decide (z.c0=b.c0)).Pairwise fun a c=>a.c0<c.c0:=hs.sublist List.filter_sublist
  have hal:∀y∈(srt (ltO o1) true l).filter fun b=>decide (z.c0=b.c0),z.c0=y.c0:=fun y hy=>by simpa using(B3.1 hy).2
  generalize (srt (ltO o1) true l).filter (fun b=>decide (z.c0=b.c0))=m at*
  match m,hm,hpw,hal with
  |[a],hm,_,_=>simp only[AY] at hm;subst hm;rfl
  |a::b::m,_,hpw,hal=>
   have h1:=B7 hpw (AI (a:=b) (l:=m))
   have h2:=hal a (by simp)
   have h3:=hal b (by simp)
   omega
 ·intro h
  have h1:z∈((srt (ltO o1) true l).filter fun b=>decide (z.c0=b.c0)).take 1:=by rw[h];exact AY.2 rfl
  exact(B3.1 (List.mem_of_mem_take h1)).1
theorem okT2eq {a b:T5} (ha:okT 2 a) (hb:okT 2 b) (h0:a.c0=b.c0) (h1:a.c1=b.c1):a=b:=by
 have e2:a.c2=b.c2:=by have x:=ha.2 2 (by omega);have y:=hb.2 2 (by omega);exact x.trans y.symm
 have e3:a.c3=b.c3:=by have x:=ha.2 3 (by omega);have y:=hb.2 3 (by omega);exact x.trans y.symm
 have e4:a.c4=b.c4:=by have x:=ha.2 4 (by omega);have y:=hb.2 4 (by omega);exact x.trans y.symm
 cases a;cases b
 simp only[T5.mk.injEq]
 exact⟨h0,h1,e2,e3,e4⟩
theorem aVf {m:List T5} (hm:∀t∈m,okT 2 t) {z:T5}:z∈srt (ltO o1) true (srt (ltO o12) false m)↔z∈m∧∀y∈m,y.c0=z.c0→z.c1≤y.c1:=by
 rw[bJe]
 have hs:((srt (ltO o12) false m).filter fun b=>decide (z.c0=b.c0)).Pairwise fun a c=>a.c0<c.c0∨a.c0=c.c0∧a.c1≤c.c1:=((bFk false m).imp fun h=>by simpa using h).sublist List.filter_sublist
 have hmem:∀y,y∈(srt (ltO o12) false m).filter (fun b=>decide (z.c0=b.c0))↔y∈m∧y.c0=z.c0:=fun y=>by
  rw[B3,(aEj m).mem_iff];simp[eq_comm]
 generalize (srt (ltO o12) false m).filter (fun b=>decide (z.c0=b.c0))=s at*
 constructor
 ·intro h
  match s,h with
  |a::s,h=>
   simp only[List.head?_cons,A9] at h
   subst h
   refine⟨((hmem a).1 AI).1,fun y hy hq=> ?_⟩
   rcases AM.1 ((hmem y).2 ⟨hy,hq⟩) with rfl|h2
   ·omega
   ·have:=B7 hs h2;omega
 ·rintro⟨hz,hle⟩
  have h1:=(hmem z).2 ⟨hz,rfl⟩
  match s,h1 with
  |a::s,h1=>
   simp only[List.head?_cons,A9]
   obtain⟨ha,hq⟩:=(hmem a).1 AI
   rcases AM.1 h1 with rfl|h2
   ·rfl
   ·have h3:=B7 hs h2
    have h4:=hle a ha hq
    exact okT2eq (hm a ha) (hm z hz) hq (by omega)
theorem bFl {lt:T5→T5→Bool} (h:Swo lt) {x:T5}:∀{s:List T5},Sd lt true s→((∃y∈s,eqv lt x y=true)→(aUv lt true x s).length=s.length)∧((∀y∈s,eqv lt x y=false)→(aUv lt true x s).length=s.length+1)
 |[],_=>⟨fun ⟨_,h,_⟩=>(nomatch h),fun _=>rfl⟩
 |y::s,hs=>by
  obtain⟨h1,h2⟩:=BH.1 hs
  obtain⟨i1,i2⟩:=bFl h (x:=x) (s:=s) h2
  unfold aUv
  cases hyx:lt y x with
  |true=>
   have hny:eqv lt x y=false:=by simp[eqv,hyx]
   simp only[if_true,AL]
   refine⟨?_,fun ha=>by rw[i2 fun z hz=>ha z (AJ _ hz)]⟩
   rintro⟨z,hz,he⟩
   rcases AM.1 hz with rfl|hz
   ·rw[hny] at he;cases he
   ·rw[i1 ⟨z,hz,he⟩]
  |false=>
   simp only[CN,if_false]
   cases hxy:lt x y with
   |true=>
    simp only[Bool.not_true,Bool.and_false,CN,if_false,AL,and_true]
    refine⟨?_,fun _=>trivial⟩
    rintro⟨z,hz,he⟩
    exfalso
    rcases AM.1 hz with rfl|hz
    ·simp[eqv,hxy] at he
    ·have h3:=h1 z hz
     simp only[if_true] at h3
     obtain⟨a,b⟩:=aCv.1 he
     have:=h.ntrans x z y a (h.asym _ _ h3)
     rw[hxy] at this;cases this
   |false=>
    simp only[Bool.not_false,Bool.and_true,if_true,AL]
    refine⟨fun _=>trivial,fun ha=> ?_⟩
    have:=ha y AI
    simp[eqv,hxy,hyx] at this
theorem aZo:∀(l:List T5),(srt (ltO o1) true l).length=l.length↔l.Pairwise fun a c=>a.c0≠c.c0
 |[]=>by simp[srt]
 |x::l=>by
  have ih:=aZo l
  have hle:=aXj (lt:=ltO o1) (once:=true) l
  obtain⟨h1,h2⟩:=bFl (aBv o1) (x:=x) (aKu (aBv o1) true l)
  rw[BH]
  simp only[srt,AL]
  by_cases hx:∀y∈srt (ltO o1) true l,eqv (ltO o1) x y=false
  ·rw[h2 hx]
   have h3:∀y∈l,x.c0≠y.c0:=by
    intro y hy hq
    obtain⟨w,hw,he⟩:=bNt (o:=o1) (once:=true) hy
    have h4:=hx w hw
    have h5:=aVe.1 he
    rw[aVe.2 (hq.trans h5)] at h4;cases h4
   constructor
   ·intro h;exact⟨h3,ih.1 (by omega)⟩
   ·rintro⟨_,h⟩;rw[ih.2 h]
  ·have hx2:∃y∈srt (ltO o1) true l,eqv (ltO o1) x y=true:=by
    simp only[Classical.not_forall,Bool.not_eq_false] at hx
    obtain⟨y,hy,he⟩:=hx
    exact⟨y,hy,he⟩
   rw[h1 hx2]
   obtain⟨y,hy,he⟩:=hx2
   constructor
   ·intro h;omega
   ·rintro⟨h3,_⟩
    exact absurd (aVe.1 he) (h3 y (aGk hy))
def aJr (v:Nat→Int) (i:Nat):Nat→Int
 |0=>v i
 |n+1=>min (aJr v i n) (v (i+n+1))
theorem aOr (v:Nat→Int) (i:Nat):∀(n j:Nat),j≤n→aJr v i n≤v (i+j)
 |0,j,h=>by
  obtain rfl:j=0:=by omega
  exact Int.le_refl _
 |n+1,j,h=>by
  simp only[aJr]
  by_cases hj:j≤n
  ·have:=aOr v i n j hj;omega
  ·obtain rfl:j=n+1:=by omega
   have:i+(n+1)=i+n+1:=by omega
   rw[this];omega
theorem aLy (v:Nat→Int) (i:Nat):∀n:Nat,∃j,j≤n∧aJr v i n=v (i+j)
 |0=>⟨0,AG _,rfl⟩
 |n+1=>by
  obtain⟨j,hj,h⟩:=aLy v i n
  simp only[aJr]
  by_cases hc:aJr v i n≤v (i+n+1)
  ·exact⟨j,by omega,by rw[←h];omega⟩
  ·exact⟨n+1,AG _,by
    have:i+(n+1)=i+n+1:=by omega
    rw[this];omega⟩
theorem bNv {v:Nat→Int} {i n:Nat} {x:Int} (h1:∀j,j≤n→x≤v (i+j)) (h2:∃j,j≤n∧x=v (i+j)):x=aJr v i n:=by
 obtain⟨j,hj,rfl⟩:=h2
 obtain⟨k,hk,h3⟩:=aLy v i n
 have:=aOr v i n j hj
 have:=h1 k hk
 omega
theorem aZp (v:Nat→Int) (i n m:Nat) (h:m≤n+1):min (aJr v i n) (aJr v (i+m) n)=aJr v i (n+m):=by
 obtain⟨a,ha,h1⟩:=aLy v i n
 obtain⟨b,hb,h2⟩:=aLy v (i+m) n
 refine bNv (fun j hj=> ?_) ?_
 ·by_cases hj2:j≤n
  ·have:=aOr v i n j hj2;omega
  ·have h3:=aOr v (i+m) n (j-m) (by omega)
   have:i+m+(j-m)=i+j:=by omega
   rw[this] at h3;omega
 ·by_cases hc:aJr v i n≤aJr v (i+m) n
  ·exact⟨a,by omega,by rw[←h1];omega⟩
  ·exact⟨m+b,by omega,by
    have:i+(m+b)=i+m+b:=by omega
    rw[this,←h2];omega⟩
def at0 (ts:List T5) (i:Nat):Int:=(ts.getD i T5.zero).c0
theorem aOs {ts:List T5} {i:Nat} {t:T5} (h:ts[i]? =some t):at0 ts i=t.c0:=by unfold at0;rw[AN,h];rfl
def bFm (on:Nat) (ts:List T5):List T5:=aCz (fun i=>⟨min (at0 ts i) (at0 ts (i+on)),0,0,0,0⟩) (ts.length-on)
def aTb (vts:List T5) (k:Nat):List T5:=aCz (fun i=>⟨aJr (at0 vts) i (2^k-1),0,0,0,0⟩) (vts.length+1-2^k)
theorem aQu {out:Nat→T5} {n i:Nat} (h:i<n):(aCz out n)[i]? =some (out i):=by simp[aCz,h]
theorem aVg {out out':Nat→T5} {n:Nat} (h:∀i,i<n→out i=out' i):aCz out n=aCz out' n:=by
 unfold aCz
 exact List.map_congr_left fun i hi=>h i (List.mem_range.1 hi)
theorem aNi (vts:List T5) (k:Nat):(aTb vts k).length=vts.length+1-2^k:=by unfold aTb;rw[aGx]
theorem aXr {vts:List T5} {k i:Nat} (h:i+2^k≤vts.length):at0 (aTb vts k) i=aJr (at0 vts) i (2^k-1):=by
 unfold aTb
 have:=Nat.two_pow_pos k
 rw[aOs (aQu (by omega))]
theorem bFn {vts:List T5} (h:∀t∈vts,okT 1 t):aTb vts 0=vts:=by
 apply CD
 intro i
 by_cases hi:i<vts.length
 ·have h1:vts[i]? =some vts[i]:=AE hi
  unfold aTb
  rw[aQu (by simpa using hi),h1]
  have h2:=(h vts[i] (B4 hi)).2
  simp only[Nat.pow_zero,Nat.sub_self,aJr,aOs h1,A9]
  generalize vts[i]=t at*
  cases t
  simp only[T5.mk.injEq,true_and]
  exact⟨(h2 1 (by omega)).symm,(h2 2 (by omega)).symm,(h2 3 (by omega)).symm,(h2 4 (by omega)).symm⟩
 ·rw[BC (by rw[aNi];simpa using hi),BC (by omega)]
theorem bFo (vts:List T5) (k:Nat):bFm (2^k) (aTb vts k)=aTb vts (k+1):=by
 have hp:=Nat.two_pow_pos k
 have e:2^(k+1)=2^k+2^k:=by rw[Nat.pow_succ];omega
 unfold bFm
 rw[aNi]
 have hl:vts.length+1-2^k-2^k=vts.length+1-2^(k+1):=by omega
 rw[hl]
 unfold aTb
 refine aVg fun i hi=> ?_
 rw[show aCz (fun i=>(⟨aJr (at0 vts) i (2^k-1),0,0,0,0⟩:T5)) (vts.length+1-2^k)=aTb vts k from rfl,aXr (by omega),aXr (by omega),aZp _ _ _ _ (by omega)]
 have:2^k-1+2^k=2^(k+1)-1:=by omega
 rw[this]
def okQ (n:Nat) (q:T5):Prop:=0≤q.c0∧0≤q.c1∧q.c1≤q.c2∧q.c2<n
instance (n:Nat) (q:T5):Decidable (okQ n q):=by unfold okQ;infer_instance
def bHn (n:Nat) (qts:List T5):Prop:=(∀q∈qts,okQ n q)∧qts.Pairwise fun a c=>a.c0≠c.c0
def lgQ (q:T5):Nat:=Nat.log2 (q.c2-q.c1+1).toNat
theorem aZq {n:Nat} {q:T5} (h:okQ n q):((2^lgQ q:Nat):Int)≤q.c2-q.c1+1∧q.c2-q.c1+1<((2^(lgQ q+1):Nat):Int):=by
 unfold okQ at h
 unfold lgQ
 generalize hx:(q.c2-q.c1+1).toNat=x
 have hx0:x≠0:=by omega
 have h1:=Nat.log2_self_le hx0
 have h2:=Nat.lt_log2_self (n:=x)
 omega
def aIb (q:T5):List T5:=[⟨(lgQ q:Int),q.c1,q.c0,0,0⟩,⟨(lgQ q:Int),q.c2-((2^lgQ q:Nat):Int)+1,q.c0,0,0⟩]
def aAx (qts:List T5):List T5:=srt (ltO o12) false (qts.flatMap aIb)
def aCt (vts:List T5) (p:T5):T5:=⟨p.c2,aJr (at0 vts) p.c1.toNat (2^p.c0.toNat-1),0,0,0⟩
def aBn (vts qts:List T5):List T5:=srt (ltO o1) true (srt (ltO o12) false ((aAx qts).map (aCt vts)))
def okP (n:Nat) (p:T5):Prop:=0≤p.c0∧0≤p.c1∧p.c1+((2^p.c0.toNat:Nat):Int)≤n
theorem bJf {n:Nat} {q:T5} (h:okQ n q):∀p∈aIb q,okP n p:=by
 have h1:=aZq h
 have h2:=Nat.two_pow_pos (lgQ q)
 unfold okQ at h
 intro p hp
 unfold aIb at hp
 simp only[AM,CJ,or_false] at hp
 rcases hp with rfl|rfl
 ·unfold okP;dsimp only;rw[AP];omega
 ·unfold okP;dsimp only;rw[AP];omega
theorem aJg {qts:List T5} {p:T5}:p∈aAx qts↔∃q∈qts,p∈aIb q:=by
 unfold aAx
 rw[(aEj _).mem_iff,CF]
theorem aQv (qts:List T5):(aAx qts).length=2*qts.length:=by
 unfold aAx
 rw[(aEj _).length_eq]
 induction qts with
 |nil=>rfl
 |cons q l ih=>rw[A6,AF,ih];simp[aIb];omega
theorem aSh (qts:List T5):(aAx qts).Pairwise fun a c=>a.c0<c.c0∨a.c0=c.c0∧a.c1≤c.c1:=(bFk false _).imp fun h=>by simpa using h
def ansQ (vts:List T5) (q:T5):T5:=⟨q.c0,aJr (at0 vts) q.c1.toNat (q.c2-q.c1).toNat,0,0,0⟩
theorem bFp {vts:List T5} {n:Nat} {q:T5} (h:okQ n q):min (aJr (at0 vts) q.c1.toNat (2^lgQ q-1)) (aJr (at0 vts) (q.c2-((2^lgQ q:Nat):Int)+1).toNat (2^lgQ q-1))=aJr (at0 vts) q.c1.toNat (q.c2-q.c1).toNat:=by
 have h1:=aZq h
 have h2:=Nat.two_pow_pos (lgQ q)
 rw[Nat.pow_succ] at h1
 unfold okQ at h
 have h3:=aZp (at0 vts) q.c1.toNat (2^lgQ q-1) ((q.c2-q.c1+1).toNat-2^lgQ q) (by omega)
 have e1:q.c1.toNat+((q.c2-q.c1+1).toNat-2^lgQ q)=(q.c2-((2^lgQ q:Nat):Int)+1).toNat:=by omega
 have e2:2^lgQ q-1+((q.c2-q.c1+1).toNat-2^lgQ q)=(q.c2-q.c1).toNat:=by omega
 rw[e1,e2] at h3
 exact h3
theorem aGy {vts:List T5} (h:∀t∈vts,aBa t.c0) (i n:Nat):aBa (aJr (at0 vts) i n):=by
 obtain⟨j,_,h1⟩:=aLy (at0 vts) i n
 rw[h1]
 by_cases hi:i+j<vts.length
 ·rw[aOs (AE hi)];exact h _ (B4 hi)
 ·unfold at0;rw[AN,BC (by omega)];exact aKv
theorem aGa {vts qts:List T5} {y:T5}:y∈(aAx qts).map (aCt vts)↔∃q∈qts,y=⟨q.c0,aJr (at0 vts) q.c1.toNat (2^lgQ q-1),0,0,0⟩∨y=⟨q.c0,aJr (at0 vts) (q.c2-((2^lgQ q:Nat):Int)+1).toNat (2^lgQ q-1),0,0,0⟩:=by
 rw[AT]
 constructor
 ·rintro⟨p,hp,rfl⟩
  obtain⟨q,hq,h⟩:=aJg.1 hp
  refine⟨q,hq,?_⟩
  unfold aIb at h
  simp only[AM,CJ,or_false] at h
  rcases h with rfl|rfl
  ·left;simp[aCt]
  ·right;simp[aCt]
 ·rintro⟨q,hq,rfl|rfl⟩
  ·exact⟨⟨(lgQ q:Int),q.c1,q.c0,0,0⟩,aJg.2 ⟨q,hq,by simp[aIb]⟩,by simp[aCt]⟩
  ·exact⟨⟨(lgQ q:Int),q.c2-((2^lgQ q:Nat):Int)+1,q.c0,0,0⟩,aJg.2 ⟨q,hq,by simp[aIb]⟩,by simp[aCt]⟩
theorem bFq {α:Type} {f:α→Int}:∀{l:List α},l.Pairwise (fun a c=>f a≠f c)→∀{x y:α},x∈l→y∈l→f x=f y→x=y
 |[],_,x,y,h,_,_=>nomatch h
 |a::l,hp,x,y,hx,hy,he=>by
  rw[BH] at hp
  rcases AM.1 hx with rfl|hx2
  ·rcases AM.1 hy with rfl|hy2
   ·rfl
   ·exact absurd he (hp.1 y hy2)
  ·rcases AM.1 hy with rfl|hy2
   ·exact absurd he.symm (hp.1 x hx2)
   ·exact bFq hp.2 hx2 hy2 he
theorem bBp {vts qts:List T5} (hv:∀t∈vts,aBa t.c0) (hi:∀q∈qts,aBa q.c0) (hq:bHn vts.length qts) {z:T5}:z∈aBn vts qts↔∃q∈qts,z=ansQ vts q:=by
 have hok:∀t∈(aAx qts).map (aCt vts),okT 2 t:=by
  intro t ht
  obtain⟨q,hm,rfl|rfl⟩:=aGa.1 ht
  ·exact bBm (hi q hm) (aGy hv _ _)
  ·exact bBm (hi q hm) (aGy hv _ _)
 unfold aBn
 rw[aVf hok]
 have hone:∀{q q':T5},q∈qts→q'∈qts→q.c0=q'.c0→q=q':=fun h1 h2 h3=>bFq (f:=fun t:T5=>t.c0) hq.2 h1 h2 h3
 constructor
 ·rintro⟨hz,hle⟩
  obtain⟨q,hm,h⟩:=aGa.1 hz
  have h2:=bFp (vts:=vts) (hq.1 q hm)
  have ha:=hle _ (aGa.2 ⟨q,hm,.inl rfl⟩) (by rcases h with rfl|rfl<;>rfl)
  have hb:=hle _ (aGa.2 ⟨q,hm,.inr rfl⟩) (by rcases h with rfl|rfl<;>rfl)
  refine⟨q,hm,?_⟩
  unfold ansQ
  rw[←h2]
  rcases h with rfl|rfl
  ·dsimp only at ha hb⊢
   congr 1;omega
  ·dsimp only at ha hb⊢
   congr 1;omega
 ·rintro⟨q,hm,rfl⟩
  have h2:=bFp (vts:=vts) (hq.1 q hm)
  unfold ansQ
  constructor
  ·rw[←h2]
   refine aGa.2 ⟨q,hm,?_⟩
   by_cases hc:aJr (at0 vts) q.c1.toNat (2^lgQ q-1)≤aJr (at0 vts) (q.c2-((2^lgQ q:Nat):Int)+1).toNat (2^lgQ q-1)
   ·left;congr 1;omega
   ·right;congr 1;omega
  ·intro y hy h0
   dsimp only at h0⊢
   obtain⟨q',hm',h⟩:=aGa.1 hy
   have hqq:q'=q:=hone hm' hm (by rw[←h0];rcases h with rfl|rfl<;>rfl)
   subst hqq
   rw[←h2]
   rcases h with rfl|rfl
   ·dsimp only;omega
   ·dsimp only;omega
theorem aHq (vts qts:List T5):(aBn vts qts).Pairwise fun a c=>a.c0<c.c0:=aXq _
theorem aSi:∀{a b:List T5},a.Pairwise (fun x y=>x.c0<y.c0)→b.Pairwise (fun x y=>x.c0<y.c0)→(∀z,z∈a↔z∈b)→a=b
 |[],[],_,_,_=>rfl
 |[],y::b,_,_,h=>absurd ((h y).2 AI) (by simp)
 |x::a,[],_,_,h=>absurd ((h x).1 AI) (by simp)
 |x::a,y::b,ha,hb,h=>by
  rw[BH] at ha hb
  have hxy:x=y:=by
   rcases AM.1 ((h x).1 AI) with h1|h1
   ·exact h1
   ·rcases AM.1 ((h y).2 AI) with h2|h2
    ·exact h2.symm
    ·have:=ha.1 y h2;have:=hb.1 x h1;omega
  subst hxy
  congr 1
  refine aSi ha.2 hb.2 fun z=> ?_
  have hz:=h z
  simp only[AM] at hz
  constructor
  ·intro h1
   rcases hz.1 (.inr h1) with rfl|h2
   ·have:=ha.1 z h1;omega
   ·exact h2
  ·intro h1
   rcases hz.2 (.inr h1) with rfl|h2
   ·have:=hb.1 z h1;omega
   ·exact h2
abbrev oK (col:Nat):T5:=⟨(col:Int)+1,0,0,0,0⟩
theorem ltO_oK {col:Nat} (h:col<5) (a b:T5):ltO (oK col) a b=true↔a.col col<b.col col:=by
 have hc:col=0∨col=1∨col=2∨col=3∨col=4:=by omega
 rcases hc with rfl|rfl|rfl|rfl|rfl
 all_goals
  rw[ltO,aJo,decide_eq_true_iff,if_pos (by decide)]
  exact bKy _ _
theorem bFr {col:Nat} (h:col<5):aGb (oK col)=true:=by
 have hc:col=0∨col=1∨col=2∨col=3∨col=4:=by omega
 rcases hc with rfl|rfl|rfl|rfl|rfl<;>decide
theorem srt_oK {col:Nat} (h:col<5) (l:List T5):(srt (ltO (oK col)) false l).Pairwise fun a c=>a.col col≤c.col col:=by
 refine(aKu (aBv (oK col)) false l).imp fun {a b} hh=> ?_
 have h1:¬ltO (oK col) b a=true:=by
  intro h2
  simp only[CN,if_false] at hh
  rw[hh] at h2;cases h2
 rw[ltO_oK h] at h1
 omega
def aOt (v col:Nat) (hts ts:List T5):List T5:=(srt (ltO (oK col)) false ts).map (aEv hts col v col)
theorem aIo (v col:Nat) (hts ts:List T5):(aOt v col hts ts).length=ts.length:=by unfold aOt;rw[AX,(aEj _).length_eq]
theorem aQw (v col:Nat) (hts ts:List T5):(aOt v col hts ts).Perm (ts.map (aEv hts col v col)):=(aEj (lt:=ltO (oK col)) ts).map _
theorem aZr {w wa:Nat} {hts ts:List T5} (hh:∀t∈hts,okT wa t) (h:∀t∈ts,okT w t) (v col:Nat) (hc:col<w) (hw:w≤5):∀t∈aOt v col hts ts,okT w t:=by
 intro t ht
 unfold aOt at ht
 obtain⟨u,hu,rfl⟩:=AT.1 ht
 have:=aNh hh col v col (by omega) (h u (aGk hu))
 rwa[show max w (col+1)=w by omega] at this
def bNw (t:T5):List T5:=[⟨t.c0,1,0,0,0⟩]
theorem lwM:aGi (mFl [] (bNw)) 2 (fun _ t=>okT 3 t) 107 [] []:=by
 rintro bx Pst Br bnd hP ps X ⟨⟩ t hX hk hb
 have htv:tv t= .agg #[.int .i64 t.c0,.int .i64 t.c1,.int .i64 t.c2,.int .i64 t.c3,.int .i64 t.c4]:=rfl
 rw[htv]
 unfold aWf
 simp only[AB,AA]
 show Ct _ _ _ [X] _
 have ti:=aBm hk
 have ho:(mFl [] (bNw)).outs () t=[⟨t.c0,1,0,0,0⟩]:=by show bNw t=_;unfold bNw;rfl
 have hb':ps.length+1≤bnd:=by rw[ho] at hb;exact hb
 have hP1:=hP ps X ⟨t.c0,1,0,0,0⟩ hX (by first|exact hk|exact bBm (by first|exact ti.1|exact ti.2.1|exact ti.2.2.1|exact ti.2.2.2.1|exact ti.2.2.2.2|exact aKv|exact aSf|exact aHp|exact aCb _|assumption|(unfold aBa at*;omega)) (by first|exact ti.1|exact ti.2.1|exact ti.2.2.1|exact ti.2.2.2.1|exact ti.2.2.2.2|exact aKv|exact aSf|exact aHp|exact aCb _|assumption|(unfold aBa at*;omega))) (by omega)
 rw[show tv ⟨t.c0,1,0,0,0⟩= .agg #[.int .i64 t.c0,.int .i64 1,.int .i64 0,.int .i64 0,.int .i64 0] from rfl] at hP1
 refine Ct.intro Tryz.func107 rfl Tryz.ntmps107 (nle rfl) fun w0=> ?_;dsimp only[aAa,AD]
 repeat(refine st ?_;intros)
 refine R.callV (hct:=by exact hP1) (h:= ?_)
 rintro _ _ ⟨X',rfl,⟨rfl,hX'⟩|⟨rfl,hB⟩⟩
 try dsimp only[AA,AB]
 ·repeat(refine st ?_;intros)
  (refine Dn.post (Hr:=[X']) Tryz.results107 (hR:= ?_);exact⟨X',(),rfl,.inl ⟨rfl,rfl,(by trivial),by rw[ho];exact hX'⟩⟩)
 ·repeat(refine st ?_;intros)
  (refine Dn.post (Hr:=[X']) Tryz.results107 (hR:= ?_);exact⟨X',(),rfl,.inr (.inl ⟨rfl,hB⟩)⟩)
theorem lwL (p:Jp) (fa fb:Fl) (b8 b4 b5:Nat) (J:Jb) (A T:Nat) (ts:List T5) (Rl:Fl→Int→Prop) (hL:bFi p J fa fb 0 1 3 A T ts Rl):
  aFy p J 108 [pv b8,pv b4,pv b5] (aFz p.bj b8 b4 b5 fa fb) A T none ts fun f e Hx'=>Hx'=aFz p.bj b8 b4 b5 fa fb∧Rl f e:=by
 intro W cd ca cs held ph capj hW hJW
 have hL:=hL W cd ca cs held hW hJW
 have hflv:∀f:Fl,flv f= .agg #[.int .i64 (f.first:Int),.int .i64 (f.blocks:Int),.int .i64 (f.width:Int),.int .i64 (f.count:Int)]:=fun _=>rfl
 have hfl4:∀f:Fl,fl4 f=[.int .i64 (f.first:Int),.int .i64 (f.blocks:Int),.int .i64 (f.width:Int),.int .i64 (f.count:Int)]:=fun _=>rfl
 rw[hflv fa,hflv fb] at hL
 unfold aFa aFz
 rw[hfl4 fa,hfl4 fb]
 refine Ct.intro Tryz.func108 rfl Tryz.ntmps108 (nle rfl) fun w0=> ?_;dsimp only[aAa,AD]
 repeat(first|(refine st ?_;intros)|refine G.draw [] (h:= ?_))
 refine R.callX (hct:=hL) (h:= ?_)
 rintro _ _ ⟨f,e,cd',ca',cs',W',rfl,rfl,hW',hS,hR⟩
 dsimp only[AA,AB]
 refine nx ?_
 rw[hflv]
 repeat(first|(refine st ?_;intros)|refine G.draw [] (h:= ?_))
 (refine Dn.post (Hr:=[[(p.bj,row [pv p.bw,.int .i64 0,.slice ph held.length capj] 95)],aAh p.bw p.bd p.ba p.bs,cd',ca',cs',[(b8,row [pv p.bj] 82)],[(b4,row (fl4 fa) 27)],[(b5,row (fl4 fb) 27)]]) Tryz.results108 (hR:= ?_);exact⟨f,e,cd',ca',cs',W',_,rfl,rfl,hW',hS,rfl,hR⟩)
def aQx (t:T5):List T5:=(if t.c3=1 then[] else(if t.c1=t.c2 then[] else[⟨t.c0,t.c1,t.c2,0,0⟩]))
theorem lwR:aGi (mFl [] (aQx)) 3 (fun _ t=>okT 4 t) 109 [] []:=by
 rintro bx Pst Br bnd hP ps X ⟨⟩ t hX hk hb
 have htv:tv t= .agg #[.int .i64 t.c0,.int .i64 t.c1,.int .i64 t.c2,.int .i64 t.c3,.int .i64 t.c4]:=rfl
 rw[htv]
 unfold aWf
 simp only[AB,AA]
 show Ct _ _ _ [X] _
 have ti:=aBm hk
 by_cases h1:t.c3=1
 ·
  have ho:(mFl [] (aQx)).outs () t=[]:=by show aQx t=_;unfold aQx;rw[if_pos h1]
  refine Ct.intro Tryz.func109 rfl Tryz.ntmps109 (nle rfl) fun w0=> ?_;dsimp only[aAa,AD]
  repeat(refine st ?_;intros)
  (refine Dn.post (Hr:=[X]) Tryz.results109 (hR:= ?_);exact⟨X,(),rfl,.inl ⟨rfl,rfl,(by trivial),by rw[ho,AQ];exact hX⟩⟩)
 ·
  by_cases h2:t.c1=t.c2
  ·
   have ho:(mFl [] (aQx)).outs () t=[]:=by show aQx t=_;unfold aQx;rw[if_neg h1,if_pos h2]
   refine Ct.intro Tryz.func109 rfl Tryz.ntmps109 (nle rfl) fun w0=> ?_;dsimp only[aAa,AD]
   repeat(refine st ?_;intros)
   (refine Dn.post (Hr:=[X]) Tryz.results109 (hR:= ?_);exact⟨X,(),rfl,.inl ⟨rfl,rfl,(by trivial),by rw[ho,AQ];exact hX⟩⟩)
  ·
   have ho:(mFl [] (aQx)).outs () t=[⟨t.c0,t.c1,t.c2,0,0⟩]:=by show aQx t=_;unfold aQx;rw[if_neg h1,if_neg h2]
   have hb':ps.length+1≤bnd:=by rw[ho] at hb;exact hb
   have hP1:=hP ps X ⟨t.c0,t.c1,t.c2,0,0⟩ hX (by first|exact hk|exact bKv (by first|exact ti.1|exact ti.2.1|exact ti.2.2.1|exact ti.2.2.2.1|exact ti.2.2.2.2|exact aKv|exact aSf|exact aHp|exact aCb _|assumption|(unfold aBa at*;omega)) (by first|exact ti.1|exact ti.2.1|exact ti.2.2.1|exact ti.2.2.2.1|exact ti.2.2.2.2|exact aKv|exact aSf|exact aHp|exact aCb _|assumption|(unfold aBa at*;omega)) (by first|exact ti.1|exact ti.2.1|exact ti.2.2.1|exact ti.2.2.2.1|exact ti.2.2.2.2|exact aKv|exact aSf|exact aHp|exact aCb _|assumption|(unfold aBa at*;omega))) (by omega)
   rw[show tv ⟨t.c0,t.c1,t.c2,0,0⟩= .agg #[.int .i64 t.c0,.int .i64 t.c1,.int .i64 t.c2,.int .i64 0,.int .i64 0] from rfl] at hP1
   refine Ct.intro Tryz.func109 rfl Tryz.ntmps109 (nle rfl) fun w0=> ?_;dsimp only[aAa,AD]
   repeat(refine st ?_;intros)
   refine R.callV (hct:=by exact hP1) (h:= ?_)
   rintro _ _ ⟨X',rfl,⟨rfl,hX'⟩|⟨rfl,hB⟩⟩
   try dsimp only[AA,AB]
   ·repeat(refine st ?_;intros)
    (refine Dn.post (Hr:=[X']) Tryz.results109 (hR:= ?_);exact⟨X',(),rfl,.inl ⟨rfl,rfl,(by trivial),by rw[ho];exact hX'⟩⟩)
   ·repeat(refine st ?_;intros)
    (refine Dn.post (Hr:=[X']) Tryz.results109 (hR:= ?_);exact⟨X',(),rfl,.inr (.inl ⟨rfl,hB⟩)⟩)
def aXs (s:Int) (t:T5):List T5:=[⟨t.c1,AH .i64 (s*t.c2),0,0,0⟩,⟨t.c2,AH .i64 (s*t.c1),0,0,0⟩]
theorem lwE (bs:Nat) (s:Int):aGi (mFl [[(bs,row [.int .i64 s] 2)]] (aXs s)) 2 (fun _ t=>okT 3 t) 112 [] [pv bs]:=by
 rintro bx Pst Br bnd hP ps X ⟨⟩ t hX hk hb
 have htv:tv t= .agg #[.int .i64 t.c0,.int .i64 t.c1,.int .i64 t.c2,.int .i64 t.c3,.int .i64 t.c4]:=rfl
 rw[htv]
 unfold aWf
 simp only[AB,AA]
 show Ct _ _ _ [X,[(bs,row [.int .i64 s] 2)]] _
 have ti:=aBm hk
 have ho:(mFl [[(bs,row [.int .i64 s] 2)]] (aXs s)).outs () t=[⟨t.c1,AH .i64 (s*t.c2),0,0,0⟩,⟨t.c2,AH .i64 (s*t.c1),0,0,0⟩]:=by show aXs s t=_;unfold aXs;rfl
 have hb':ps.length+2≤bnd:=by rw[ho] at hb;exact hb
 have hP1:=hP ps X ⟨t.c1,AH .i64 (s*t.c2),0,0,0⟩ hX (by first|exact hk|exact bBm (by first|exact ti.1|exact ti.2.1|exact ti.2.2.1|exact ti.2.2.2.1|exact ti.2.2.2.2|exact aKv|exact aSf|exact aHp|exact aCb _|assumption|(unfold aBa at*;omega)) (by first|exact ti.1|exact ti.2.1|exact ti.2.2.1|exact ti.2.2.2.1|exact ti.2.2.2.2|exact aKv|exact aSf|exact aHp|exact aCb _|assumption|(unfold aBa at*;omega))) (by omega)
 rw[show tv ⟨t.c1,AH .i64 (s*t.c2),0,0,0⟩= .agg #[.int .i64 t.c1,.int .i64 (AH .i64 (s*t.c2)),.int .i64 0,.int .i64 0,.int .i64 0] from rfl] at hP1
 have hP2:=fun X' h=>hP (ps++[⟨t.c1,AH .i64 (s*t.c2),0,0,0⟩]) X' ⟨t.c2,AH .i64 (s*t.c1),0,0,0⟩ h (by first|exact hk|exact bBm (by first|exact ti.1|exact ti.2.1|exact ti.2.2.1|exact ti.2.2.2.1|exact ti.2.2.2.2|exact aKv|exact aSf|exact aHp|exact aCb _|assumption|(unfold aBa at*;omega)) (by first|exact ti.1|exact ti.2.1|exact ti.2.2.1|exact ti.2.2.2.1|exact ti.2.2.2.2|exact aKv|exact aSf|exact aHp|exact aCb _|assumption|(unfold aBa at*;omega))) (by rw[AF,List.length_singleton];omega)
 rw[show tv ⟨t.c2,AH .i64 (s*t.c1),0,0,0⟩= .agg #[.int .i64 t.c2,.int .i64 (AH .i64 (s*t.c1)),.int .i64 0,.int .i64 0,.int .i64 0] from rfl] at hP2
 refine Ct.intro Tryz.func112 rfl Tryz.ntmps112 (nle rfl) fun w0=> ?_;dsimp only[aAa,AD]
 repeat(refine st ?_;intros)
 refine R.callV (hct:=by exact hP1) (h:= ?_)
 rintro _ _ ⟨X',rfl,⟨rfl,hX'⟩|⟨rfl,hB⟩⟩
 try dsimp only[AA,AB]
 ·repeat(refine st ?_;intros)
  refine R.callV (hct:=by exact hP2 _ hX') (h:= ?_)
  rintro _ _ ⟨X2,rfl,⟨rfl,hX2⟩|⟨rfl,hB⟩⟩
  try dsimp only[AA,AB]
  ·repeat(refine st ?_;intros)
   (refine Dn.post (Hr:=[X2,[(bs,row [.int .i64 s] 2)]]) Tryz.results112 (hR:= ?_);exact⟨X2,(),rfl,.inl ⟨rfl,rfl,(by trivial),by rw[ho];simpa using hX2⟩⟩)
  ·repeat(refine st ?_;intros)
   (refine Dn.post (Hr:=[X2,[(bs,row [.int .i64 s] 2)]]) Tryz.results112 (hR:= ?_);exact⟨X2,(),rfl,.inr (.inl ⟨rfl,hB⟩)⟩)
 ·repeat(refine st ?_;intros)
  (refine Dn.post (Hr:=[X',[(bs,row [.int .i64 s] 2)]]) Tryz.results112 (hR:= ?_);exact⟨X',(),rfl,.inr (.inl ⟨rfl,hB⟩)⟩)
def bNx (s:Int) (t:T5):List T5:=[⟨t.c2,AH .i64 (s*t.c2),0,0,0⟩]
theorem lwO (bs:Nat) (s:Int):aGi (mFl [[(bs,row [.int .i64 s] 2)]] (bNx s)) 2 (fun _ t=>okT 5 t) 113 [] [pv bs]:=by
 rintro bx Pst Br bnd hP ps X ⟨⟩ t hX hk hb
 have htv:tv t= .agg #[.int .i64 t.c0,.int .i64 t.c1,.int .i64 t.c2,.int .i64 t.c3,.int .i64 t.c4]:=rfl
 rw[htv]
 unfold aWf
 simp only[AB,AA]
 show Ct _ _ _ [X,[(bs,row [.int .i64 s] 2)]] _
 have ti:=aBm hk
 have ho:(mFl [[(bs,row [.int .i64 s] 2)]] (bNx s)).outs () t=[⟨t.c2,AH .i64 (s*t.c2),0,0,0⟩]:=by show bNx s t=_;unfold bNx;rfl
 have hb':ps.length+1≤bnd:=by rw[ho] at hb;exact hb
 have hP1:=hP ps X ⟨t.c2,AH .i64 (s*t.c2),0,0,0⟩ hX (by first|exact hk|exact bBm (by first|exact ti.1|exact ti.2.1|exact ti.2.2.1|exact ti.2.2.2.1|exact ti.2.2.2.2|exact aKv|exact aSf|exact aHp|exact aCb _|assumption|(unfold aBa at*;omega)) (by first|exact ti.1|exact ti.2.1|exact ti.2.2.1|exact ti.2.2.2.1|exact ti.2.2.2.2|exact aKv|exact aSf|exact aHp|exact aCb _|assumption|(unfold aBa at*;omega))) (by omega)
 rw[show tv ⟨t.c2,AH .i64 (s*t.c2),0,0,0⟩= .agg #[.int .i64 t.c2,.int .i64 (AH .i64 (s*t.c2)),.int .i64 0,.int .i64 0,.int .i64 0] from rfl] at hP1
 refine Ct.intro Tryz.func113 rfl Tryz.ntmps113 (nle rfl) fun w0=> ?_;dsimp only[aAa,AD]
 repeat(refine st ?_;intros)
 refine R.callV (hct:=by exact hP1) (h:= ?_)
 rintro _ _ ⟨X',rfl,⟨rfl,hX'⟩|⟨rfl,hB⟩⟩
 try dsimp only[AA,AB]
 ·repeat(refine st ?_;intros)
  (refine Dn.post (Hr:=[X',[(bs,row [.int .i64 s] 2)]]) Tryz.results113 (hR:= ?_);exact⟨X',(),rfl,.inl ⟨rfl,rfl,(by trivial),by rw[ho];exact hX'⟩⟩)
 ·repeat(refine st ?_;intros)
  (refine Dn.post (Hr:=[X',[(bs,row [.int .i64 s] 2)]]) Tryz.results113 (hR:= ?_);exact⟨X',(),rfl,.inr (.inl ⟨rfl,hB⟩)⟩)
theorem lwT (bx:Nat) (t:T5) (X:aAc) (Rr:Value→aAc→Prop) (h:PutC bx ((fun t=>t) t) X Rr):Ct AC 114 [tv t,aWf bx] [X] (bIy Rr):=by
 have htv:tv t= .agg #[.int .i64 t.c0,.int .i64 t.c1,.int .i64 t.c2,.int .i64 t.c3,.int .i64 t.c4]:=rfl
 rw[htv]
 unfold aWf
 refine Ct.intro Tryz.func114 rfl Tryz.ntmps114 (nle rfl) fun w0=> ?_;dsimp only[aAa,AD]
 repeat(refine st ?_;intros)
 refine R.callV (hct:=by exact h) (h:= ?_)
 rintro _ _ ⟨X',rfl,hR⟩
 try dsimp only[AA,AB]
 repeat(refine st ?_;intros)
 (refine Dn.post (Hr:=[X']) Tryz.results114 (hR:= ?_);exact⟨X',rfl,hR⟩)
def bNy (t:T5):List T5:=[⟨t.c1,0,0,0,0⟩]
theorem lwV:aGi (mFl [] (bNy)) 1 (fun _ t=>okT 2 t) 115 [] []:=by
 rintro bx Pst Br bnd hP ps X ⟨⟩ t hX hk hb
 have htv:tv t= .agg #[.int .i64 t.c0,.int .i64 t.c1,.int .i64 t.c2,.int .i64 t.c3,.int .i64 t.c4]:=rfl
 rw[htv]
 unfold aWf
 simp only[AB,AA]
 show Ct _ _ _ [X] _
 have ti:=aBm hk
 have ho:(mFl [] (bNy)).outs () t=[⟨t.c1,0,0,0,0⟩]:=by show bNy t=_;unfold bNy;rfl
 have hb':ps.length+1≤bnd:=by rw[ho] at hb;exact hb
 have hP1:=hP ps X ⟨t.c1,0,0,0,0⟩ hX (by first|exact hk|exact okT1 (by first|exact ti.1|exact ti.2.1|exact ti.2.2.1|exact ti.2.2.2.1|exact ti.2.2.2.2|exact aKv|exact aSf|exact aHp|exact aCb _|assumption|(unfold aBa at*;omega))) (by omega)
 rw[show tv ⟨t.c1,0,0,0,0⟩= .agg #[.int .i64 t.c1,.int .i64 0,.int .i64 0,.int .i64 0,.int .i64 0] from rfl] at hP1
 refine Ct.intro Tryz.func115 rfl Tryz.ntmps115 (nle rfl) fun w0=> ?_;dsimp only[aAa,AD]
 repeat(refine st ?_;intros)
 refine R.callV (hct:=by exact hP1) (h:= ?_)
 rintro _ _ ⟨X',rfl,⟨rfl,hX'⟩|⟨rfl,hB⟩⟩
 try dsimp only[AA,AB]
 ·repeat(refine st ?_;intros)
  (refine Dn.post (Hr:=[X']) Tryz.results115 (hR:= ?_);exact⟨X',(),rfl,.inl ⟨rfl,rfl,(by trivial),by rw[ho];exact hX'⟩⟩)
 ·repeat(refine st ?_;intros)
  (refine Dn.post (Hr:=[X']) Tryz.results115 (hR:= ?_);exact⟨X',(),rfl,.inr (.inl ⟨rfl,hB⟩)⟩)
def bNz (t:T5):List T5:=[⟨t.c2,t.c2,AH .i64 (AH .i64 (t.c2+t.c3)-1),0,0⟩]
theorem lwQ:aGi (mFl [] (bNz)) 3 (fun _ t=>okT 5 t) 62 [] []:=by
 rintro bx Pst Br bnd hP ps X ⟨⟩ t hX hk hb
 have htv:tv t= .agg #[.int .i64 t.c0,.int .i64 t.c1,.int .i64 t.c2,.int .i64 t.c3,.int .i64 t.c4]:=rfl
 rw[htv]
 unfold aWf
 simp only[AB,AA]
 show Ct _ _ _ [X] _
 have ti:=aBm hk
 have ho:(mFl [] (bNz)).outs () t=[⟨t.c2,t.c2,AH .i64 (AH .i64 (t.c2+t.c3)-1),0,0⟩]:=by show bNz t=_;unfold bNz;rfl
 have hb':ps.length+1≤bnd:=by rw[ho] at hb;exact hb
 have hP1:=hP ps X ⟨t.c2,t.c2,AH .i64 (AH .i64 (t.c2+t.c3)-1),0,0⟩ hX (by first|exact hk|exact bKv (by first|exact ti.1|exact ti.2.1|exact ti.2.2.1|exact ti.2.2.2.1|exact ti.2.2.2.2|exact aKv|exact aSf|exact aHp|exact aCb _|assumption|(unfold aBa at*;omega)) (by first|exact ti.1|exact ti.2.1|exact ti.2.2.1|exact ti.2.2.2.1|exact ti.2.2.2.2|exact aKv|exact aSf|exact aHp|exact aCb _|assumption|(unfold aBa at*;omega)) (by first|exact ti.1|exact ti.2.1|exact ti.2.2.1|exact ti.2.2.2.1|exact ti.2.2.2.2|exact aKv|exact aSf|exact aHp|exact aCb _|assumption|(unfold aBa at*;omega))) (by omega)
 rw[show tv ⟨t.c2,t.c2,AH .i64 (AH .i64 (t.c2+t.c3)-1),0,0⟩= .agg #[.int .i64 t.c2,.int .i64 t.c2,.int .i64 (AH .i64 (AH .i64 (t.c2+t.c3)-1)),.int .i64 0,.int .i64 0] from rfl] at hP1
 refine Ct.intro Tryz.func62 rfl Tryz.ntmps62 (nle rfl) fun w0=> ?_;dsimp only[aAa,AD]
 repeat(refine st ?_;intros)
 refine R.callV (hct:=by exact hP1) (h:= ?_)
 rintro _ _ ⟨X',rfl,⟨rfl,hX'⟩|⟨rfl,hB⟩⟩
 try dsimp only[AA,AB]
 ·repeat(refine st ?_;intros)
  (refine Dn.post (Hr:=[X']) Tryz.results62 (hR:= ?_);exact⟨X',(),rfl,.inl ⟨rfl,rfl,(by trivial),by rw[ho];exact hX'⟩⟩)
 ·repeat(refine st ?_;intros)
  (refine Dn.post (Hr:=[X']) Tryz.results62 (hR:= ?_);exact⟨X',(),rfl,.inr (.inl ⟨rfl,hB⟩)⟩)
theorem lwB (p:Jp) (fa fb:Fl) (b8 b4 b5:Nat) (J:Jb) (A T:Nat) (ts:List T5) (Rl:Fl→Int→Prop) (hL:bFi p J fa fb 0 1 2 A T ts Rl):
  aFy p J 67 [pv b8,pv b4,pv b5] (aFz p.bj b8 b4 b5 fa fb) A T none ts fun f e Hx'=>Hx'=aFz p.bj b8 b4 b5 fa fb∧Rl f e:=by
 intro W cd ca cs held ph capj hW hJW
 have hL:=hL W cd ca cs held hW hJW
 have hflv:∀f:Fl,flv f= .agg #[.int .i64 (f.first:Int),.int .i64 (f.blocks:Int),.int .i64 (f.width:Int),.int .i64 (f.count:Int)]:=fun _=>rfl
 have hfl4:∀f:Fl,fl4 f=[.int .i64 (f.first:Int),.int .i64 (f.blocks:Int),.int .i64 (f.width:Int),.int .i64 (f.count:Int)]:=fun _=>rfl
 rw[hflv fa,hflv fb] at hL
 unfold aFa aFz
 rw[hfl4 fa,hfl4 fb]
 refine Ct.intro Tryz.func67 rfl Tryz.ntmps67 (nle rfl) fun w0=> ?_;dsimp only[aAa,AD]
 repeat(first|(refine st ?_;intros)|refine G.draw [] (h:= ?_))
 refine R.callX (hct:=hL) (h:= ?_)
 rintro _ _ ⟨f,e,cd',ca',cs',W',rfl,rfl,hW',hS,hR⟩
 dsimp only[AA,AB]
 refine nx ?_
 rw[hflv]
 repeat(first|(refine st ?_;intros)|refine G.draw [] (h:= ?_))
 (refine Dn.post (Hr:=[[(p.bj,row [pv p.bw,.int .i64 0,.slice ph held.length capj] 95)],aAh p.bw p.bd p.ba p.bs,cd',ca',cs',[(b8,row [pv p.bj] 82)],[(b4,row (fl4 fa) 27)],[(b5,row (fl4 fb) 27)]]) Tryz.results67 (hR:= ?_);exact⟨f,e,cd',ca',cs',W',_,rfl,rfl,hW',hS,rfl,hR⟩)
def bOa (t:T5):List T5:=[⟨t.c0,t.c1,AH .i64 (-t.c2),0,0⟩]
theorem lwN:aGi (mFl [] (bOa)) 3 (fun _ t=>okT 3 t) 68 [] []:=by
 rintro bx Pst Br bnd hP ps X ⟨⟩ t hX hk hb
 have htv:tv t= .agg #[.int .i64 t.c0,.int .i64 t.c1,.int .i64 t.c2,.int .i64 t.c3,.int .i64 t.c4]:=rfl
 rw[htv]
 unfold aWf
 simp only[AB,AA]
 show Ct _ _ _ [X] _
 have ti:=aBm hk
 have ho:(mFl [] (bOa)).outs () t=[⟨t.c0,t.c1,AH .i64 (-t.c2),0,0⟩]:=by show bOa t=_;unfold bOa;rfl
 have hb':ps.length+1≤bnd:=by rw[ho] at hb;exact hb
 have hP1:=hP ps X ⟨t.c0,t.c1,AH .i64 (-t.c2),0,0⟩ hX (by first|exact hk|exact bKv (by first|exact ti.1|exact ti.2.1|exact ti.2.2.1|exact ti.2.2.2.1|exact ti.2.2.2.2|exact aKv|exact aSf|exact aHp|exact aCb _|assumption|(unfold aBa at*;omega)) (by first|exact ti.1|exact ti.2.1|exact ti.2.2.1|exact ti.2.2.2.1|exact ti.2.2.2.2|exact aKv|exact aSf|exact aHp|exact aCb _|assumption|(unfold aBa at*;omega)) (by first|exact ti.1|exact ti.2.1|exact ti.2.2.1|exact ti.2.2.2.1|exact ti.2.2.2.2|exact aKv|exact aSf|exact aHp|exact aCb _|assumption|(unfold aBa at*;omega))) (by omega)
 rw[show tv ⟨t.c0,t.c1,AH .i64 (-t.c2),0,0⟩= .agg #[.int .i64 t.c0,.int .i64 t.c1,.int .i64 (AH .i64 (-t.c2)),.int .i64 0,.int .i64 0] from rfl] at hP1
 refine Ct.intro Tryz.func68 rfl Tryz.ntmps68 (nle rfl) fun w0=> ?_;dsimp only[aAa,AD]
 repeat(refine st ?_;intros)
 refine R.callV (hct:=by exact hP1) (h:= ?_)
 rintro _ _ ⟨X',rfl,⟨rfl,hX'⟩|⟨rfl,hB⟩⟩
 try dsimp only[AA,AB]
 ·repeat(refine st ?_;intros)
  (refine Dn.post (Hr:=[X']) Tryz.results68 (hR:= ?_);exact⟨X',(),rfl,.inl ⟨rfl,rfl,(by trivial),by rw[ho];exact hX'⟩⟩)
 ·repeat(refine st ?_;intros)
  (refine Dn.post (Hr:=[X']) Tryz.results68 (hR:= ?_);exact⟨X',(),rfl,.inr (.inl ⟨rfl,hB⟩)⟩)
end Go.Proofs.YtammjnjpheobaaaGreat
namespace Go.SL
variable {P:Program} {ops:Array Oper} {Q:Exit→Act→World→Prop} {cls:Nat→Oper→Cls} {w0:World} {S:List Nat} {n:Nat} {l:List (Nat×Oper)} {L:aBe} {D:List Deferred} {H:Hp} {qs:List Rd} {k:Nat}
end Go.SL
namespace Go.Proofs.YtammjnjpheobaaaGreat
open Go.SL Go.Spc Go.Tup Go.Srt
theorem aFy.mono {p:Jp} {J:Jb} {mk:Nat} {us:List Value} {Hx:Hp} {A T:Nat} {er:Option Nat} {ts:List T5} {R R':Fl→Int→Hp→Prop} (h:aFy p J mk us Hx A T er ts R) (hr:∀f e Hx',R f e Hx'→R' f e Hx'):aFy p J mk us Hx A T er ts R':=by
 intro W cd ca cs held ph cap h1 h2
 refine(h W cd ca cs held ph cap h1 h2).mono ?_
 rintro v H' ⟨f,e,cd',ca',cs',W',Hx',a1,a2,a3,a4,a5⟩
 exact⟨f,e,cd',ca',cs',W',Hx',a1,a2,a3,a4,hr _ _ _ a5⟩
theorem aLf.lives {p:Jp} {J:Jb} {held:List (Fl×List T5)} {W:Wk} (h:aLf p J held W) (he:J.e=0):W.live.length≤J.G.length+p.L0.length∧aBb W.live=(J.G.map (·.1.blocks)).sum+aBb p.L0:=by
 obtain⟨hp,_⟩:=h.ok he
 have h1:=h.live.length_eq
 have h2:=aGd (held.map (·.1)) p.L0
 have h3:aBb W.live=_:=(aFp h.live).trans (aFx _ _)
 have h4:=hp.length_eq
 have h5:(held.map (·.1)).map (·.blocks)=held.map (·.1.blocks):=by simp
 have h6:=(hp.map (·.1.blocks)).sum_nat
 rw[AX] at h2
 rw[h5,h6] at h3
 exact⟨by omega,h3⟩
theorem vec3 (b:Nat) (f1 f2 f3:Fl):Vec 27 4 (some ⟨b,0,none⟩) [f1,f2,f3].length 3 (aAi [f1,f2,f3]) [(b,row (fl4 f1++(fl4 f2++fl4 f3)) 27)]:=
 ⟨rfl,.inr ⟨b,[],rfl,by simp[aAi,fl4],by simp[aAi],by simp,by decide⟩⟩
def aZs (bj b8 b4 bc b5:Nat) (fa fb:Fl) (key:Nat):Hp:=[[(b8,row [pv bj] 82)],[(b4,row (fl4 fa) 27)],[(bc,row [.int .i64 (key:Int)] 3)],[(b5,row (fl4 fb) 27)]]
theorem nbLook (p:Jp) (fa fb:Fl) (b8 b4 bc b5:Nat) (J:Jb) (A T:Nat) (ts:List T5) (Rl:Fl→Int→Prop) (key:Nat) (hL:bFi p J fa fb key 2 key A T ts Rl):
  aFy p J 146 [pv b8,pv b4,pv bc,pv b5] (aZs p.bj b8 b4 bc b5 fa fb key) A T none ts fun f' e Hx'=>Hx'=aZs p.bj b8 b4 bc b5 fa fb key∧Rl f' e:=by
 intro W cd ca cs held ph capj hW hJW
 have hL:=hL W cd ca cs held hW hJW
 have hflv:∀f:Fl,flv f= .agg #[.int .i64 (f.first:Int),.int .i64 (f.blocks:Int),.int .i64 (f.width:Int),.int .i64 (f.count:Int)]:=fun _=>rfl
 have hfl4:∀f:Fl,fl4 f=[.int .i64 (f.first:Int),.int .i64 (f.blocks:Int),.int .i64 (f.width:Int),.int .i64 (f.count:Int)]:=fun _=>rfl
 rw[hflv fa,hflv fb] at hL
 unfold aFa aZs
 rw[hfl4 fa,hfl4 fb]
 refine Ct.intro Tryz.func146 rfl Tryz.ntmps146 (nle rfl) fun w0=> ?_;dsimp only[aAa,AD]
 repeat(first|(refine st ?_;intros)|refine G.draw [] (h:= ?_))
 refine R.callX (hct:=hL) (h:= ?_)
 rintro _ _ ⟨f',e,cd',ca',cs',W',rfl,rfl,hW',hS,hR⟩
 dsimp only[AA,AB]
 refine nx ?_
 rw[hflv]
 repeat(first|(refine st ?_;intros)|refine G.draw [] (h:= ?_))
 (refine Dn.post (Hr:=[[(p.bj,row [pv p.bw,.int .i64 0,.slice ph held.length capj] 95)],aAh p.bw p.bd p.ba p.bs,cd',ca',cs',[(b8,row [pv p.bj] 82)],[(b4,row [.int .i64 (fa.first:Int),.int .i64 (fa.blocks:Int),.int .i64 (fa.width:Int),.int .i64 (fa.count:Int)] 27)],[(bc,row [.int .i64 (key:Int)] 3)],[(b5,row [.int .i64 (fb.first:Int),.int .i64 (fb.blocks:Int),.int .i64 (fb.width:Int),.int .i64 (fb.count:Int)] 27)]]) Tryz.results146 (hR:= ?_);exact⟨f',e,cd',ca',cs',W',_,rfl,rfl,hW',hS,rfl,hR⟩)
theorem aOu {p:Jp} {B m k a s0:Nat} {e:Int} {er:Option Nat} {Gf:List (Fl×List T5)} {C:aAc} (hR:Rm p B m k a) (hJ:aHf p B k a s0 e er Gf C) (f ft:Fl) (ts hts:List T5) (G':List (Fl×List T5)) (col:Nat) (hcol:col<4)
  {b c n w bt ct wt nt:Nat} (hF:FB b c w n e f) (hFt:FB bt ct wt nt e ft) (hP:Pk (f,ts) Gf G') (hin:(ft,hts)∈G'∨In0 p (ft,hts)) (hcw:col<w) (hw5:w≤5) (hv:2<wt) (hrise:e=0→hts.Pairwise fun a c=>a.c0<c.c0) (htn:e=0→ts.length=n)
  (hb:b≤1000∧c≤1000∧bt≤1000∧ct≤1000) (hbc:b≤c∨(w≤3∧b≤2*c)) (hcB:c≤B) (hT:aEi c≤m) (hk:Gf.length+1≤k) (hst:s0≤9900):
  Ct AC 111 [pv p.bj,flv f,.int .i64 (col:Int),flv ft] [C] fun v H'=>∃g C' e',v=flv g∧H'=[C']∧aHf p B k a (s0+2) e' er ((g,aOt 2 col hts ts)::G') C'∧FB b c w n e' g∧(e'=0→e=0):=by
 have hflv:∀f:Fl,flv f= .agg #[.int .i64 (f.first:Int),.int .i64 (f.blocks:Int),.int .i64 (f.width:Int),.int .i64 (f.count:Int)]:=fun _=>rfl
 have hfl4:∀f:Fl,fl4 f=[.int .i64 (f.first:Int),.int .i64 (f.blocks:Int),.int .i64 (f.width:Int),.int .i64 (f.count:Int)]:=fun _=>rfl
 have hto:tv (oK col)= .agg #[.int .i64 ((col:Int)+1),.int .i64 0,.int .i64 0,.int .i64 0,.int .i64 0]:=rfl
 have hwr:AH .i64 ((col:Int)+1)=(col:Int)+1:=aAd (by omega)
 have hle:=hP.perm.length_eq
 rw[AL] at hle
 have hS1:=aXo hR hJ f ts G' (oK col) (bFr (by omega)) false hF hP hb.1 hcB hT (by omega)
 rw[hflv,hto] at hS1
 rw[hflv,hflv ft]
 refine Ct.intro Tryz.func111 rfl Tryz.ntmps111 (nle rfl) fun w0=> ?_;dsimp only[aAa,AD]
 repeat(refine st ?_;intros)
 repeat(refine st ?_;intros)
 refine R.callX (hct:=hS1) (h:= ?_)
 rintro _ _ ⟨g1,C1,e1,rfl,rfl,hJ1,hF1,hE1⟩
 dsimp only[AA,AB]
 refine nx ?_
 try rw[hflv]
 have hR2:=fun b8 b4 bc b5=>aSg hR hJ1 146 inferInstance g1 ft (srt (ltO (oK col)) false ts) hts col 2 col w c (by first|exact .inr (by assumption)|exact .inl (by repeat(first|exact AI|apply AJ))) (hin.imp (fun h=>AJ _ h) id) (fun J A T ts' R h=>nbLook p g1 ft b8 b4 bc b5 J A T ts' R col h) hF1 (hFt.mono hE1) ⟨hb.1,hb.2.1,hb.2.2⟩ hcw hv (by omega) (by omega) hw5
  (fun _=>srt_oK (by omega) _) (fun h=>hrise (hE1 h)) hbc hcB (by simp only[AL];omega) (by omega)
 simp only[aZs,hfl4] at hR2
 repeat(refine st ?_;intros)
 refine R.callX (hct:=hR2 _ _ _ _) (h:= ?_)
 rintro _ _ ⟨g2,C2,e2,rfl,rfl,hJ2,hF2,hE2⟩
 dsimp only[AA,AB]
 refine nx ?_
 try rw[hflv]
 have hFr:=fun b=>bJc hR hJ2 [(g1,srt (ltO (oK col)) false ts)] ((g2,aOt 2 col hts ts)::G') (.cons (.there .here) .nil) (by simp) _ 1 _ (vec1 b g1)
 simp only[hfl4,A0,DY,AA,AB] at hFr
 repeat(refine st ?_;intros)
 refine R.callX (hct:=hFr _) (h:= ?_)
 rintro _ _ ⟨C3,rfl,rfl,hJ3⟩
 dsimp only[AA,AB]
 refine nx ?_
 repeat(refine st ?_;intros)
 (refine Dn.post (Hr:=[C3]) Tryz.results111 (hR:= ?_);exact⟨g2,C3,e2,rfl,rfl,hJ3,⟨hF2.cnt,hF2.blk,fun h=>⟨(hF2.ok h).1,by rw[(hF2.ok h).2,(aEj _).length_eq,htn (hE1 (hE2 h))]⟩⟩,fun h=>hE1 (hE2 h)⟩)
def aPs (ff ed:List T5):List T5:=ed.map (aEv (ff.map fun t=>⟨t.c0,1,0,0,0⟩) 0 1 3)
def aKe (ff ed:List T5):List T5:=(aPs ff ed).flatMap aQx
def aBg (tt ff ed:List T5):List T5:=aOt 2 2 tt (aOt 2 1 tt (aKe ff ed))
theorem aZt (t:T5):(aQx t).length≤1:=by unfold aQx;split<;>(try split)<;>simp
theorem aVh (ff ed:List T5):(aKe ff ed).length≤ed.length:=by
 have h:=flatLe (f:=aQx) (n:=1) (aPs ff ed) fun t _=>aZt t
 unfold aKe
 unfold aPs at h⊢
 rw[AX] at h
 omega
theorem aXt (tt ff ed:List T5):(aBg tt ff ed).length≤ed.length:=by
 unfold aBg;rw[aIo,aIo];exact aVh ff ed
theorem bOb {ff:List T5} (h:∀t∈ff,okT 3 t):∀t∈ff.map (fun t=>(⟨t.c0,1,0,0,0⟩:T5)),okT 2 t:=by
 intro t ht
 obtain⟨u,hu,rfl⟩:=AT.1 ht
 exact bBm (aBm (h u hu)).1 aSf
theorem aZu {ff ed:List T5} (hf:∀t∈ff,okT 3 t) (he:∀t∈ed,okT 3 t):∀t∈aPs ff ed,okT 4 t:=by
 intro t ht
 unfold aPs at ht
 obtain⟨u,hu,rfl⟩:=AT.1 ht
 exact aNh (bOb hf) 0 1 3 (by omega) (he u hu)
theorem bJg {ff ed:List T5} (hf:∀t∈ff,okT 3 t) (he:∀t∈ed,okT 3 t):∀t∈aKe ff ed,okT 3 t:=by
 intro t ht
 unfold aKe at ht
 obtain⟨u,hu,ht⟩:=CF.1 ht
 have ti:=aBm (aZu hf he u hu)
 unfold aQx at ht
 split at ht
 ·cases ht
 ·split at ht
  ·cases ht
  ·rw[AY] at ht;subst ht
   exact bKv ti.1 ti.2.1 ti.2.2.1
theorem aLz {tt ff ed:List T5} (ht:∀t∈tt,okT 5 t) (hf:∀t∈ff,okT 3 t) (he:∀t∈ed,okT 3 t):∀t∈aBg tt ff ed,okT 3 t:=
 aZr ht (aZr ht (bJg hf he) 2 1 (by omega) (by omega)) 2 2 (by omega) (by omega)
theorem bFs {p:Jp} {B m k a s0:Nat} {e:Int} {er:Option Nat} {Gf:List (Fl×List T5)} {C:aAc} (hR:Rm p B m k a) (hJ:aHf p B k a s0 e er Gf C) (tf ff ef:Fl) (tt fl ed:List T5) (h1:In0 p (tf,tt)) (h2:In0 p (ff,fl)) (h3:In0 p (ef,ed)) (hw1:tf.width=5) (hw2:ff.width=3) (hw3:ef.width=3)
  (c:Nat) (hc1:ff.count≤2*c) (hc2:ef.count≤2*c) (hct:tf.count≤1000) (hc:c≤500) (hcB:c≤B) (hT:aEi c≤m) (ht:tt.Pairwise fun a c=>a.c0<c.c0) (hf:fl.Pairwise fun a c=>a.c0<c.c0) (he:ed.Pairwise fun a c=>a.c0≤c.c0) (heB:ef.count≤B) (hk:Gf.length+3≤k) (hst:s0≤9000):
  Ct AC 61 [pv p.bj,flv tf,flv ff,flv ef] [C] fun v H'=>∃g C' e',v=flv g∧H'=[C']∧aHf p B k a (s0+7) e' er ((g,aBg tt fl ed)::Gf) C'∧FB ef.count c 3 (aBg tt fl ed).length e' g∧(e'=0→e=0):=by
 have hflv:∀f:Fl,flv f= .agg #[.int .i64 (f.first:Int),.int .i64 (f.blocks:Int),.int .i64 (f.width:Int),.int .i64 (f.count:Int)]:=fun _=>rfl
 have hfl4:∀f:Fl,fl4 f=[.int .i64 (f.first:Int),.int .i64 (f.blocks:Int),.int .i64 (f.width:Int),.int .i64 (f.count:Int)]:=fun _=>rfl
 obtain⟨t1,t2,t3,t4,t5⟩:=aGl h1
 obtain⟨f1,f2,f3,f4,f5⟩:=aGl h2
 obtain⟨d1,d2,d3,d4,d5⟩:=aGl h3
 dsimp only at t1 t2 t3 t4 t5 f1 f2 f3 f4 f5 d1 d2 d3 d4 d5
 have hp:=hR.ok
 have hB:=hR.bs
 have htb:tf.blocks≤tf.count:=by rw[t3];exact aAv (aAj hp.size.1 t4 t5)
 have hfb:ff.blocks≤ff.count:=by rw[f3];exact aAv (aAj hp.size.1 f4 f5)
 have hdb:ef.blocks≤ef.count:=by rw[d3];exact aAv (aAj hp.size.1 d4 d5)
 rw[hw1] at t2
 rw[hw2] at f2
 rw[hw3] at d2
 have hFT:∀e,FB tf.count tf.count 5 tf.count e tf:=fun e=>⟨AG _,htb,fun _=>⟨hw1,rfl⟩⟩
 have hFE:∀e,FB ef.count ef.count 3 ef.count e ef:=fun e=>⟨AG _,hdb,fun _=>⟨hw3,rfl⟩⟩
 have hM1:=fun b=>bNr hR hJ [] bNw 2 ff.count c 1 (by omega) 107 inferInstance [] (okT 3) lwM (fun t _=>AG _) (by omega) ff fl (.inr h2) (by omega) (fun _=>f2)
  (fun h=>by rw[aDw (f:=bNw) (g:=fun t=>⟨t.c0,1,0,0,0⟩) (fun _=>rfl),AX];omega) (.inr ⟨by omega,by omega⟩) hcB (by omega) (by omega) b
 simp only[hfl4] at hM1
 rw[aDw (f:=bNw) (g:=fun t=>⟨t.c0,1,0,0,0⟩) (fun _=>rfl)] at hM1
 rw[hflv tf,hflv ff,hflv ef]
 refine Ct.intro Tryz.func61 rfl Tryz.ntmps61 (nle rfl) fun w0=> ?_;dsimp only[aAa,AD]
 repeat(first|(refine st ?_;intros)|refine G.drawOrd (id:=5) [0,1,2,3,5,4,6,7] [(4,.eff [0,5])] (h:= ?_))
 repeat(first|(refine st ?_;intros)|refine G.drawOrd (id:=5) [0,1,2,3,5,4,6,7] [(4,.eff [0,5])] (h:= ?_))
 refine R.callX (hct:=hM1 _) (h:= ?_)
 rintro _ _ ⟨g1,C1,e1,rfl,rfl,hJ1,hF1,hE1⟩
 dsimp only[AA,AB]
 refine nx ?_
 try rw[hflv]
 have hF1c:=hF1.cnt
 have hF1b:=hF1.blk
 have hR2:=fun b8 b4 b5=>aSg hR hJ1 108 inferInstance ef g1 ed (fl.map fun t=>⟨t.c0,1,0,0,0⟩) 0 1 3 4 B (.inr h3) (by first|exact .inr (by assumption)|exact .inl (by repeat(first|exact AI|apply AJ))) (lwL _ ef g1 b8 b4 b5) (hFE e1) hF1 (by omega) (by omega) (by omega) (by omega) (by omega) (by omega)
  (fun _=>he) (fun _=>by rw[List.pairwise_map];exact hf) (.inl heB) (AG _) (by simp only[AL,AU];omega) (by omega)
 simp only[aFz,hfl4] at hR2
 rw[show ed.map (aEv (fl.map fun t=>⟨t.c0,1,0,0,0⟩) 0 1 3)=aPs fl ed from rfl] at hR2
 repeat(first|(refine st ?_;intros)|refine G.drawOrd (id:=5) [0,1,2,3,5,4,6,7] [(4,.eff [0,5])] (h:= ?_))
 refine R.callX (hct:=hR2 _ _ _) (h:= ?_)
 rintro _ _ ⟨g2,C2,e2,rfl,rfl,hJ2,hF2,hE2⟩
 dsimp only[AA,AB]
 refine nx ?_
 try rw[hflv]
 have hF2c:=hF2.cnt
 have hF2b:=hF2.blk
 have hM3:=fun b=>bNr hR hJ2 [] aQx 3 ef.count c 1 (by omega) 109 inferInstance [] (okT 4) lwR (fun t _=>aZt t) (by omega) g2 (aPs fl ed) (by first|exact .inr (by assumption)|exact .inl (by repeat(first|exact AI|apply AJ))) (by omega) (fun _=>aZu f2 d2)
  (fun h=>by have:=aVh fl ed;unfold aKe at this;omega) (.inr ⟨by omega,by omega⟩) hcB (by simp only[AL,AU];omega) (by omega) b
 simp only[hfl4] at hM3
 rw[show(aPs fl ed).flatMap aQx=aKe fl ed from rfl] at hM3
 repeat(first|(refine st ?_;intros)|refine G.drawOrd (id:=5) [0,1,2,3,5,4,6,7] [(4,.eff [0,5])] (h:= ?_))
 refine R.callX (hct:=hM3 _) (h:= ?_)
 rintro _ _ ⟨g3,C3,e3,rfl,rfl,hJ3,hF3,hE3⟩
 dsimp only[AA,AB]
 refine nx ?_
 try rw[hflv]
 have hFr:=fun b=>bJc hR hJ3 [(g1,fl.map fun t=>⟨t.c0,1,0,0,0⟩),(g2,aPs fl ed)] ((g3,aKe fl ed)::Gf) (.cons (.there (.there .here)) (.cons (.there .here) .nil)) (by simp) _ 2 _ (vec2 b g1 g2)
 simp only[hfl4,A0,DY,AA,AB] at hFr
 repeat(first|(refine st ?_;intros)|refine G.drawOrd (id:=5) [0,1,2,3,5,4,6,7] [(4,.eff [0,5])] (h:= ?_))
 refine R.callX (hct:=hFr _) (h:= ?_)
 rintro _ _ ⟨C4,rfl,rfl,hJ4⟩
 dsimp only[AA,AB]
 refine nx ?_
 have hN5:=aOu hR hJ4 g3 tf (aKe fl ed) tt Gf 1 (by omega) hF3 (hFT e3) .here (.inr h1) (by omega) (by omega) (by omega) (fun _=>ht) (fun _=>rfl) (by omega) (.inr ⟨by omega,by omega⟩) hcB hT (by simp only[AL,AU];omega) (by omega)
 rw[hflv g3,hflv tf] at hN5
 repeat(first|(refine st ?_;intros)|refine G.drawOrd (id:=5) [0,1,2,3,5,4,6,7] [(4,.eff [0,5])] (h:= ?_))
 refine R.callX (hct:=hN5) (h:= ?_)
 rintro _ _ ⟨g5,C5,e5,rfl,rfl,hJ5,hF5,hE5⟩
 dsimp only[AA,AB]
 refine nx ?_
 try rw[hflv]
 have hN6:=aOu hR hJ5 g5 tf (aOt 2 1 tt (aKe fl ed)) tt Gf 2 (by omega) hF5 (hFT e5) .here (.inr h1) (by omega) (by omega) (by omega) (fun _=>ht) (fun _=>aIo _ _ _ _) (by omega) (.inr ⟨by omega,by omega⟩) hcB hT (by simp only[AL,AU];omega) (by omega)
 rw[hflv g5,hflv tf] at hN6
 repeat(first|(refine st ?_;intros)|refine G.drawOrd (id:=5) [0,1,2,3,5,4,6,7] [(4,.eff [0,5])] (h:= ?_))
 refine R.callX (hct:=hN6) (h:= ?_)
 rintro _ _ ⟨g6,C6,e6,rfl,rfl,hJ6,hF6,hE6⟩
 dsimp only[AA,AB]
 refine nx ?_
 try rw[hflv]
 repeat(first|(refine st ?_;intros)|refine G.drawOrd (id:=5) [0,1,2,3,5,4,6,7] [(4,.eff [0,5])] (h:= ?_))
 (refine Dn.post (Hr:=[C6]) Tryz.results61 (hR:= ?_);exact⟨g6,C6,e6,rfl,rfl,hJ6,⟨hF6.cnt,hF6.blk,fun h=>by rw[show(aBg tt fl ed).length=(aKe fl ed).length by unfold aBg;rw[aIo,aIo]];exact hF6.ok h⟩,fun h=>hE1 (hE2 (hE3 (hE5 (hE6 h))))⟩)
end Go.Proofs.YtammjnjpheobaaaGreat
