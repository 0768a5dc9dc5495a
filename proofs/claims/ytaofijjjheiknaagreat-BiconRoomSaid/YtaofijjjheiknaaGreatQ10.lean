/-
  Parts of the proof, put together (10). No condition.
-/
import Derived.Laws.MathBits
import Derived.Test.YtaofijjjheiknaaGreatQ9
set_option linter.unusedVariables false
set_option linter.unusedSimpArgs false
set_option linter.unnecessarySimpa false
set_option maxHeartbeats 4000000
open Bool renaming false_eq_true→CE
open Go.IntKind renaming wrap→AL
open Go.Proofs.Tryz renaming prog→AC
open List renaming cons_append→AA,nil_append→AB,mem_cons_self→AE,mem_cons_of_mem→AF,getElem?_eq_getElem→AG,length_append→AH,length_cons→AJ,getElem?_eq_some_iff→AK,mem_cons→AM,mem_map→AN,length_nil→AO,getD_eq_getElem?_getD→AP,append_nil→AQ,length_map→AR,mem_append→AS,mem_singleton→AW,flatten_cons→AX,map_cons→AZ,flatten_append→A3,flatten_nil→A4,flatMap_cons→A7,count_append→A8,pairwise_cons→BF,getElem?_map→BM,drop_eq_getElem_cons→BO,mem_filter→BQ,getElem?_drop→BS,getElem?_take→BW,getElem?_eq_none→BY,rel_of_pairwise_cons→CB,map_nil→CG,flatMap_append→CJ
open Nat renaming reduceAdd→AD,le_refl→AI,zero_le→AU,le_trans→A5,mul_le_mul_right→BB,succ_mul→BH,mul_le_mul_left→CF,lt_trichotomy→CK,mul_le_mul→DN,add_mul→DV
open Option.some renaming injEq→BG
open Go.Proofs.Tryz
open Go.Value renaming int→Z9
open Go.IntKind renaming i64→Z8
namespace Go.Proofs.YtaofijjjheiknaaGreat
open Go.SL Go.Spc Go.Tup Go.Srt
theorem iS (f:Fl) (k:Nat) (hk:k<f.width) (h5:f.width≤5):CtQ AC 167 [flv f,Z9 Z8 k] [] (.bool true):=by
 have aa:flv f= .agg #[Z9 Z8 f.first,Z9 Z8 f.blocks,Z9 Z8 f.width,Z9 Z8 f.count]:=rfl;rw[aa];refine cG func167 fun _=>?_;repeat(refine sA ?_;intros)
 (refine dP [] ?_;exact⟨congrArg Value.bool (Dt oM),rfl⟩)
theorem can_ct (bw bd ba bs:Nat) (δ:Dv) (cd:Aa) (h:Dg bd δ cd) (f:Fl) (h1:1≤f.width) (h5:f.width≤5) (hb:f.blocks=Ac δ.size f.width f.count) (hc:f.count≤100000000):CtQ AC 168 [pv bw,flv f] [Ab bw bd ba bs,cd] (.bool true):=by
 have aa:flv f= .agg #[Z9 Z8 f.first,Z9 Z8 f.blocks,Z9 Z8 f.width,Z9 Z8 f.count]:=rfl;rw[aa];have hH:=Qb bw bd ba bs δ cd h f.width h1 h5;have hp:=Bh h.num.1.1 h1 h5;have hh:Ad δ.size f.width≤δ.size:=A5 (Nat.div_le_self _ _) oM;have hs:=h.num.1.2;have e1:AL .i64 ((f.count:Int)+(Ad δ.size f.width:Int))=((f.count+Ad δ.size f.width:Nat):Int):=Ah oM;have e2:AL .i64 (((f.count+Ad δ.size f.width:Nat):Int)-1)=((f.count+Ad δ.size f.width-1:Nat):Int):=by rw[Ah oM];omega
 have e3:((f.count+Ad δ.size f.width-1:Nat):Int).tdiv (Ad δ.size f.width:Int)=(f.blocks:Int):=by rw[Int.tdiv_eq_ediv_of_nonneg oM,hb];rfl
 have e4:AL .i64 (((f.count+Ad δ.size f.width-1:Nat):Int).tdiv (Ad δ.size f.width:Int))=(f.blocks:Int):=by
  rw[e3,Ah];have:f.blocks≤f.count:=by rw[hb];exact Dl hp
  omega
 generalize Ad δ.size f.width=hd at*;refine cG func168 fun _=>?_;repeat(refine sA ?_;intros)
 (refine dP [Ab bw bd ba bs,cd] ?_;exact⟨congrArg Value.bool (Dt rfl),rfl⟩)
def lkZ (bw bl bx key value to:Nat) (ats:List T5) (fb:Fl) (bts:List T5) (LvB:List Ext) (size:Nat) (g:Gr):Mkr LkS where
 own s:=if s.op then[g] else[]
 C s:=[Iy bl bx key value to s,s.cx,s.cb].flatten
 J W s i:=W.δ.size=size∧s.op=true∧De bw bx W fb bts g s.pos s.cx s.cb∧s.pos≤fb.count∧Be W.δ.disk size LvB fb bts∧(∀e∈LvB,e∈W.live)∧
  ∀k:Int,(∀j t,j<i→ats[j]? =some t→t.col key≤k)→Gi bts s k∧(s.any=true→s.last≤k)
 E W s:=s.pos≤fb.count∧((s.op=true∧De bw bx W fb bts g s.pos s.cx s.cb)∨(s.op=false∧Kv bx s.cx))
 pot s:=Ac size fb.width s.pos
theorem lkZ_ok (bw bl bx key value to:Nat) (ats:List T5) (fb:Fl) (bts:List T5) (LvB:List Ext) (size:Nat) (g:Gr) (Lv:List Ext) (hs:∀e∈LvB,e∈Lv):(lkZ bw bl bx key value to ats fb bts LvB size g).Ok Lv where
 stay:=by rintro W W' s i ⟨h1,h2,h3,h4,h5,h6,h7⟩ hz hK hl _;exact⟨hz.trans h1,h2,h3.move hz,h4,h5.keep fun x ⟨e,he,h8⟩=>hK x ⟨e,hs e he,h8⟩,fun e he=>hl e (hs e he),h7⟩
 fin:=by rintro W s i ⟨h1,h2,h3,h4,_⟩;exact⟨h4,.inl ⟨h2,h3⟩⟩
 stayE:=by rintro W W' s ⟨h1,h2⟩ hz;refine⟨h1,h2.imp (fun ⟨a,b⟩=>⟨a,b.move hz⟩) id⟩
theorem vC (bw bd ba bs bl bx key value to:Nat) (an:key<5) (am:value<5) (ax:to<5) (ats:List T5) (ae:ats.Pairwise fun a c=>a.col key≤c.col key) (fb:Fl) (bts:List T5) (LvB:List Ext) (size room:Nat) (g:Gr) (ag:bts.Pairwise fun a c=>a.c0<c.c0) (aw:fb.count≤1000000):MkrCt bw bd ba bs (lkZ bw bl bx key value to ats fb bts LvB size g) size room ats (fun i=>Bf bts key value to (at5 ats i)) 170 [pv bl] []:=by
 rintro ad W cd ca cs s i t hW hg a5 ay ⟨h1,h2,h3,h4,h5,h6,h7⟩ ht az;subst ay;have hi:=(AK.1 ht).1;have a0:at5 ats i=t:=by unfold at5;simp[AP,ht]
 obtain⟨hk,ao⟩:=h7 (t.col key) fun j u hj hu=>by obtain⟨a1,rfl⟩:=AK.1 hu;obtain⟨_,rfl⟩:=AK.1 ht;exact List.pairwise_iff_getElem.1 ae j i a1 hi hj
 have a2:W.α.gs.Perm (g::ad):=by simpa[lkZ,h2] using hg
 have hC:=vB bw bd ba bs bl bx key value to an am ax W cd ca cs hW fb bts LvB h5 h6 ag g ad a2 s h3 h4 t hk ao az aw;refine Ct.convP hC (by unfold lkZ;refine Cp fun z=>?_;simp only[AX,A4,AQ,A3,A8];omega) ?_;rintro v H' ⟨ab,ac,W',s',u,k,e,rfl,rfl,aq,ah,ai,au,aj,a3,av,hc⟩;have hm:Ac W.δ.size fb.width s.pos≤Ac W.δ.size fb.width s'.pos:=Da a3;rcases hc with⟨rfl,rfl,rfl,ak,a4,al,a6,a7⟩|⟨rfl,hf,ak,hx⟩
 ·refine⟨[Ab bw bd ba bs,ab,ac,cs,(lkZ bw bl bx key value to ats fb bts LvB W.δ.size g).C {s' with op:=true}],⟨ab,ac,W',{s' with op:=true},_,true,0,rfl,rfl,aq,ah,ai,au,aj,hm,by simpa[lkZ] using ak,.inl ⟨rfl,rfl,by dsimp only;rw[a0],?_⟩⟩,?_⟩
  ·refine⟨ah.size,rfl,a4,av,by rw[ai];exact h5,by rw[aj];exact h6,fun k hk=>?_⟩;have h8:=hk i t (Nat.lt_succ_self i) ht;exact⟨⟨(al.up h8).nb,(al.up h8).yes,(al.up h8).no⟩,fun _=>by show s'.last≤k;omega⟩
  ·have aa:Iy bl bx key value to {s' with op:=true}=Iy bl bx key value to s':=rfl;refine Cp fun z=>?_;simp only[lkZ,aa,AX,A4,AQ,A8];omega
 ·refine⟨[Ab bw bd ba bs,ab,ac,cs,(lkZ bw bl bx key value to ats fb bts LvB W.δ.size g).C {s' with op:=false}],⟨ab,ac,W',{s' with op:=false},u,k,6,rfl,rfl,aq,ah,ai,au,aj,hm,by simpa[lkZ] using ak,.inr ⟨rfl,hf,av,.inr ⟨rfl,hx⟩⟩⟩,?_⟩;have aa:Iy bl bx key value to {s' with op:=false}=Iy bl bx key value to s':=rfl;refine Cp fun z=>?_;simp only[lkZ,aa,AX,A4,AQ,A8];omega
theorem max_wd {a b:Nat}:max (a:Int) (((b+1:Nat):Int))=((max a (b+1):Nat):Int):=by omega
theorem lkV_in {bts:List T5} {w:Nat} (h:∀t∈bts,okT w t) (k:Int) (v:Nat):Av (lkV bts k v):=by
 unfold lkV;split
 ·rename_i t ht;have h1:=Dp (h t (List.mem_of_find?_eq_some ht))
  match v with
  |0=>exact h1.1
  |1=>exact h1.2.1
  |2=>exact h1.2.2.1
  |3=>exact h1.2.2.2.1
  |4=>exact h1.2.2.2.2
  |n+5=>exact Gu
 ·exact Mg
theorem Ly {bts:List T5} {w wa:Nat} (h:∀t∈bts,okT w t) (key value to:Nat) (aa:to<5) {t:T5} (ht:okT wa t):okT (max wa (to+1)) (Bf bts key value to t):=by
 obtain⟨a0,a1,a2,a3,a4⟩:=Dp ht;have hv:=lkV_in h (t.col key) value;unfold Bf;generalize lkV bts (t.col key) value=x at*
 match to,aa with
 |0,_=>exact Mq hv a1 a2 a3 a4 oM (fun h=>ht.2 1 oM) (fun h=>ht.2 2 oM) (fun h=>ht.2 3 oM) (fun h=>ht.2 4 oM)
 |1,_=>exact Mq a0 hv a2 a3 a4 oM oM (fun h=>ht.2 2 oM) (fun h=>ht.2 3 oM) (fun h=>ht.2 4 oM)
 |2,_=>exact Mq a0 a1 hv a3 a4 oM oM oM (fun h=>ht.2 3 oM) (fun h=>ht.2 4 oM)
 |3,_=>exact Mq a0 a1 a2 hv a4 oM oM oM oM (fun h=>ht.2 4 oM)
 |4,_=>exact Mq a0 a1 a2 a3 hv oM oM oM oM oM
theorem vD (bw bd ba bs key value to:Nat) (W:Wk) (cd ca cs:Aa) (h:Wc bd ba bs W cd ca cs) (fa:Fl) (ats:List T5) (LvA:List Ext) (aa:Be W.δ.disk W.δ.size LvA fa ats) (be:∀e∈LvA,e∈W.live) (fb:Fl) (bts:List T5) (LvB:List Ext) (ab:Be W.δ.disk W.δ.size LvB fb bts) (an:∀e∈LvB,e∈W.live) (am:key<fa.width) (ao:value<fb.width) (au:to<5) (aj:ats.Pairwise fun a c=>a.col key≤c.col key) (ai:bts.Pairwise fun a c=>a.c0<c.c0) (hr:3*W.δ.size≤W.α.room-W.α.used) (aq:Ac W.δ.size (max fa.width (to+1)) fa.count≤big W.σ.free) (bc:W.δ.acts≤1000000000) (a9:fa.count≤1000000) (bf:fb.count≤1000000):Ct AC 112 [pv bw,flv fa,Z9 Z8 key,flv fb,Z9 Z8 value,Z9 Z8 to] [Ab bw bd ba bs,cd,ca,cs] fun v H'=> ∃cd' ca' cs' W' f' e,v= .tuple #[flv f',Z9 Z8 e]∧H'=[Ab bw bd ba bs,cd',ca',cs']∧Wc bd ba bs W' cd' ca' cs'∧Ev W W' (fa.blocks+fa.count+1+fb.blocks) (Ac W.δ.size (max fa.width (to+1)) fa.count)∧Ap W.live W W'∧W'.α.gs.Perm W.α.gs∧((e=0∧W'.live.Perm (Az f' W.live)∧f'.width=max fa.width (to+1)∧f'.count=fa.count∧Be W'.δ.disk W.δ.size [f'.ext] f' (ats.map (Bf bts key value to)))∨(e=6∧f'=⟨0,0,0,0⟩∧W.δ.fault≠-1∧W'.live.Perm W.live)):=by
 have av:=aa.w2;have bg:=ab.w2;have bh:=aa.w1;have ac:=eQ0;have hz:=eQ1;have ae:=iS fa key am av;have ag:=iS fb value ao bg;have ah:=can_ct bw bd ba bs W.δ cd h.dev fa bh av aa.blk oM;have aw:=Ol bw bd ba bs W cd ca cs h fb bts LvB ab oM;have e1:AL .i64 ((to:Int)+1)=((to+1:Nat):Int):=by rw[Ah oM];rfl
 have e2:max (fa.width:Int) ((to+1:Nat):Int)=((max fa.width (to+1):Nat):Int):=max_wd;rw[ac] at ae ag ah aw;rw[ac fa,ac fb];refine Ct.introD func112 rfl ntmps112 (nle rfl) fun _=>?_;dsimp only[Cy,AD];repeat(refine sA ?_;intros)
 refine cL aw ?_;rintro _ _ ⟨bx,g,ax,α1,cx,cb,rfl,rfl,ay,az,a0,bi,bk⟩;try dsimp only[AA,AB]
 have cj:α1.used=W.α.used+W.δ.size:=by have:=ay.ar.num.2.2.2;dsimp only at this;rw[this,(a0.map (·.n)).sum_nat,h.ar.num.2.2.2];simp[bi];omega
 have ci:α1.room=W.α.room:=az.room;have cm:fb.blocks≤fb.count:=by rw[ab.blk];exact Dl (Bh h.dev.num.1.1 ab.w1 ab.w2)
 have cu:8≤W.δ.size:=h.dev.num.1.1;have hE:∀bl:Nat,Ct AC 169 [pv bw,flv fa,Z9 Z8 ((max fa.width (to+1):Nat):Int),.func (.func 170) #[pv bl] #[]]
   [Ab bw bd ba bs,cd,ax,cs,Iy bl bx key value to ⟨0,false,false,T5.zero,0,false,cx,cb,true⟩,cx,cb] fun v H'=>
   ∃cd' ca' cs' W' r' f' e,v= .tuple #[flv f',Z9 Z8 e]∧H'=[Ab bw bd ba bs,cd',ca',cs',Iy bl bx key value to r',r'.cx,r'.cb]∧Wc bd ba bs W' cd' ca' cs'∧Ev {W with α:=α1} W' (fa.blocks+fa.count+1+fb.blocks) (Ac W.δ.size (max fa.width (to+1)) fa.count)∧Ap W.live W W'∧RSt bw bx fb bts g W.α.gs W' r'.cx r'.cb∧
    ((e=0∧W'.live.Perm (Az f' W.live)∧f'.width=max fa.width (to+1)∧f'.count=fa.count∧Be W'.δ.disk W.δ.size [f'.ext] f' (ats.map (Bf bts key value to)))∨(e=6∧f'=⟨0,0,0,0⟩∧W.δ.fault≠-1∧W'.live.Perm W.live)):=by
  intro bl;have h1:=uX bw bd ba bs (lkZ bw bl bx key value to ats fb bts LvB W.δ.size g) {W with α:=α1} cd ax cs ay (lkZ_ok bw bl bx key value to ats fb bts LvB W.δ.size g W.live an) fa ats LvA aa be (max fa.width (to+1)) oM oM
   (fun i=>Bf bts key value to (at5 ats i)) (fun i hi=>Ly ab.fit key value to au (aa.fit _ (by
    have ad:i<ats.length:=by rw[aa.len];exact hi
    unfold at5;rw[AP,AG ad];exact List.getElem_mem ad))) 170 inferInstance [pv bl] []
   (vC bw bd ba bs bl bx key value to oM oM au ats aj fb bts LvB W.δ.size α1.room g ai bf) ⟨0,false,false,T5.zero,0,false,cx,cb,true⟩ W.α.gs a0
   ⟨rfl,rfl,bk,AU _,ab,an,fun k _=>⟨⟨fun _=>rfl,fun h=>(by cases h),fun h=>(by cases h)⟩,fun h=>(by cases h)⟩⟩ fb.blocks (fun W2 r2 bp=>by
    show Ac W.δ.size fb.width r2.pos≤_;rw[ab.blk];exact Da bp.1) oM oD aq bc a9
  refine Ct.convP h1 (by unfold lkZ;refine Cp fun z=>?_;simp only[AX,A4,AQ,A3,A8]) ?_;rintro v H' ⟨cd',ca',cs',W',r',f',e,rfl,rfl,a1,a2,a3,a4,a5,a6⟩;refine⟨[Ab bw bd ba bs,cd',ca',cs',Iy bl bx key value to r',r'.cx,r'.cb],⟨cd',ca',cs',W',r',f',e,rfl,rfl,a1,a2,a3,?_,?_⟩,by unfold lkZ;refine Cp fun z=>?_;simp only[AX,A4,AQ,A3,A8]⟩
  ·rcases a5.2 with⟨b1,b2⟩|⟨b1,b2⟩
   ·exact .inl ⟨by simpa[lkZ,b1] using a4,_,b2⟩
   ·exact .inr ⟨by simpa[lkZ,b1] using a4,b2⟩
  ·have a7:Ld (fun i=>Bf bts key value to (at5 ats i)) fa.count=ats.map (Bf bts key value to):=by
    unfold Ld;apply List.ext_getElem?;intro i;rw[BM,BM];by_cases hi:i<fa.count
    ·have ad:i<ats.length:=by rw[aa.len];exact hi
     rw[List.getElem?_range hi,AG ad];show some (Bf bts key value to (at5 ats i))=_;unfold at5;rw[AP,AG ad];rfl
    ·rw[BY oA16,BY (by rw[aa.len];omega)];rfl
   rw[←a7];exact a6
 have hE:=fun bl=>hE bl;unfold Iy at hE;dsimp only at hE;rw[ac fa] at hE;repeat(refine sA ?_;intros)
 rename_i b7 b9 cv bl;rw[e2];refine cL (hE bl) ?_;rintro _ _ ⟨ak,bq,al,W2,r2,f2,e,rfl,rfl,bu,bv,bz,b3,b4⟩;dsimp only[AA,AB];rw[ac];have b5:=Tv bw bd ba bs W2 ak bq al bu bx fb bts g W.α.gs r2.cx r2.cb b3;repeat(refine sA ?_;intros)
 refine Go.SL.Lv.call (hc:=b5) (h:=?_);rintro _ _ ⟨a8,α8,cw,rfl,b6,b8,cg⟩;try dsimp only[AA,AB]
 (refine lN [Ab bw bd ba bs,ak,a8,al] ?_;exact⟨ak,a8,al,{W2 with α:=α8},f2,e,rfl,rfl,b6,((az.trans bv).trans b8).weak oM oM,bz,cg,b4⟩)
def LayerR (bw bd ba bs:Nat) (W:Wk) (A T:Nat) (er:Option Nat) (ts:List T5) (wd:Nat) (v:Value) (H':Hp):Prop:=
 ∃f e aa ab cs' W',v= .tuple #[flv f,Z9 Z8 e]∧H'=[Ab bw bd ba bs,aa,ab,cs']∧Wc bd ba bs W' aa ab cs'∧Hz (Bu bw bd ba bs 0 W) W W' A T er ts f e∧(e=0→f.width=wd)
def iT (bw bd ba bs:Nat) (W:Wk) (cd cs:Aa) (A T:Nat) (er:Option Nat) (ts:List T5) (wd:Nat) (v:Value) (H':Hp):Prop:=
 (8*W.δ.size≤W.α.room-W.α.used∧LayerR bw bd ba bs W A T er ts wd v H')∨
 (W.α.room-W.α.used<8*W.δ.size∧v= .tuple #[flv ⟨0,0,0,0⟩,Z9 Z8 7]∧∃aa α',H'=[Ab bw bd ba bs,cd,aa,cs]∧Wc bd ba bs {W with α:=α'} cd aa cs∧α'.gs.Perm W.α.gs∧α'.room=W.α.room)
theorem iU {bw bd ba bs bj:Nat} {W W':Wk} {J:Jb} {f:Fl} {ts:List T5} {G2:List (Fl×List T5)} {A T:Nat} (h:Sb (Bu bw bd ba bs bj W) J [f] W') (hG:J.G=(f,ts)::G2) (hA:J.acts≤W.δ.acts+A) (hT:J.took≤T):Hz (Bu bw bd ba bs 0 W) W W' A T J.er ts (if J.e=0 then f else⟨0,0,0,0⟩) J.e:=by
 refine⟨h.gs,h.room,h.size,h.n,A5 h.acts hA,?_,?_,fun x hx=>h.keep x hx,?_⟩
 ·have:=h.tk;have h2:(Bu bw bd ba bs bj W).b0=big W.σ.free:=rfl;omega
 ·intro hf;exact h.flt (fun h2=>h2 hf)
 ·by_cases he:J.e=0
  ·obtain⟨h1,h2,h3⟩:=h.good he [(f,ts)] G2 (by rw[hG];exact .refl _) rfl;rw[if_pos he];exact .inl ⟨he,h3,h1,h2 _ AE⟩
  ·obtain⟨h1,h2⟩:=h.bad he;rw[if_neg he];exact .inr ⟨he,rfl,h1,h2⟩
theorem vE (p:Jp) (hp:p.Ok) (J:Jb) (C:Aa) (hJ:Fm p J C) (f:Fl) (b:Nat):Ct AC 66 [pv p.bj,.slice (some ⟨b,0,none⟩) 1 1] [C,[(b,row (fl4 f) 42)]] fun v H'=>∃cd ca cs W,v=Z9 Z8 J.e∧H'=[Ab p.bw p.bd p.ba p.bs,cd,ca,cs,[(b,row (fl4 f) 42)]]∧Wc p.bd p.ba p.bs W cd ca cs∧Sb p J [f] W:=
 iO p hp J C hJ [f] oA19 _ 1 _ (Mr b f)
theorem aE {p:Jp} {e:Int} {cd ca cs:Aa}:([Bp p.bj p.bw e none 0 0,Ab p.bw p.bd p.ba p.bs,cd,ca,cs]:Hp).flatten.Perm ([Bv p e cd ca cs none 0 0 []]:Hp).flatten:=by unfold Bv;refine Cp fun z=>?_;simp only[AX,A4,AQ,A8];omega
abbrev o1:T5:=⟨1,0,0,0,0⟩
abbrev o12:T5:=⟨1,2,0,0,0⟩
theorem Kk {p:Jp} {x:Fl×List T5} (h:In0 p x):x.2.length=x.1.count∧(∀t∈x.2,okT x.1.width t)∧x.1.blocks=Ac p.size x.1.width x.1.count∧1≤x.1.width∧x.1.width≤5:=by obtain⟨Lv,h,_⟩:=h;exact⟨h.len,h.fit,h.blk,h.w1,h.w2⟩
theorem Oc:Av 1:=⟨by decide,by decide⟩
theorem vF {a b:Nat} (h:a≤b):Cf a≤Cf b:=by unfold Cf;exact DN oM (Nat.add_le_add_left (Zt oM) _)
theorem vG (p:Jp) (hp:p.Ok) (J:Jb) (he:J.e=0) (fa fb:Fl) (ats bts:List T5) (ha:(fa,ats)∈J.G∨In0 p (fa,ats)) (hb:(fb,bts)∈J.G∨In0 p (fb,bts)) (au:fa.count≤100000) (aq:fb.count≤100000) (key value to:Nat) (ai:key<fa.width) (ah:value<fb.width) (aj:to<5) (ae:ats.Pairwise fun a c=>a.col key≤c.col key) (ag:bts.Pairwise fun a c=>a.c0<c.c0) (A T:Nat) (hT:Ac p.size (max fa.width (to+1)) fa.count≤T) (ad:Ou p J T) (hA:fa.blocks+fa.count+1+fb.blocks≤A) (av:J.acts+A≤1000000000) (W:Wk) (cd ca cs:Aa) (held:List (Fl×List T5)) (hW:Wc p.bd p.ba p.bs W cd ca cs) (aa:Ea p J held W):Ct AC 112 [pv p.bw,flv fa,Z9 Z8 key,flv fb,Z9 Z8 value,Z9 Z8 to] [Ab p.bw p.bd p.ba p.bs,cd,ca,cs] fun v H'=> ∃f e cd' ca' cs' W',v= .tuple #[flv f,Z9 Z8 e]∧H'=[Ab p.bw p.bd p.ba p.bs,cd',ca',cs']∧Wc p.bd p.ba p.bs W' cd' ca' cs'∧Hz p W W' A T none (ats.map (Bf bts key value to)) f e∧(f.count≤fa.count∧f.blocks≤Ac p.size (max fa.width (to+1)) fa.count∧(e=0→f.width=max fa.width (to+1)∧f.count=fa.count)):=by
 obtain⟨LvA,ab,ak⟩:=aa.file (ha.imp (fun h=>(aa.ok he).1.mem_iff.2 h) id);obtain⟨LvB,ac,al⟩:=aa.file (hb.imp (fun h=>(aa.ok he).1.mem_iff.2 h) id);dsimp only at ab ac;obtain⟨⟨aw,ax⟩,_⟩:=hW.dev.num;have ay:=aa.used hp hW;have an:=aa.big hW he ad;have ao:=aa.acts;have az:Ac W.δ.size (max fa.width (to+1)) fa.count≤T:=by rw[aa.size];exact hT
 refine(vD p.bw p.bd p.ba p.bs key value to W cd ca cs hW fa ats LvA ab ak fb bts LvB ac al ai ah aj ae ag oM oM oM oM oM).mono ?_;rintro v H' ⟨cd',ca',cs',W',f,e,rfl,rfl,am,hE,hK,hg,hc⟩;refine⟨f,e,cd',ca',cs',W',rfl,rfl,am,⟨hg,hE.room,hE.size,hE.n,by have:=hE.acts.2;omega,by have:=hE.big;omega,hE.fault,hK,?_⟩,?_⟩
 ·rcases hc with⟨a,b,_,_,c⟩|⟨a,b,c,d⟩
  ·exact .inl ⟨a,rfl,b,c⟩
  ·exact .inr ⟨oM,b,d,.inl ⟨a,c⟩⟩
 ·rcases hc with⟨a,b,c1,c2,c⟩|⟨a,rfl,c,d⟩
  ·refine⟨oM,?_,fun _=>⟨c1,c2⟩⟩;rw[c.blk,c1,c2,aa.size];exact AI _
  ·exact⟨AU _,AU _,fun h=>by omega⟩
def Cu (bj b8 b4 b5:Nat) (fa fb:Fl):Hp:=[[(b8,row [pv bj] 84)],[(b4,row (fl4 fa) 42)],[(b5,row (fl4 fb) 42)]]
structure Rm (p:Jp) (B m k a:Nat):Prop where
 ok:p.Ok
 le:B≤m
 bs:B≤1000
 room:m*(k+p.L0.length+1)+(k*B+Bc p.L0)≤p.n
 kk:k≤100
 acts:a≤500000000
structure Ao (p:Jp) (B k a s0:Nat) (e:Int) (er:Option Nat) (Gf:List (Fl×List T5)) (C:Aa):Prop where
 job:Fm p ⟨e,er,Gf,a+s0*30000,s0*30000⟩ C
 len:Gf.length≤k
 blk:∀x∈Gf,x.1.blocks≤B
theorem Wj {B:Nat}:∀{l:List Nat},(∀x∈l,x≤B)→l.sum≤l.length*B
 |[],_=>by simp
 |x::l,h=>by have h1:=h x AE;have h2:=Wj (l:=l) (fun y hy=>h y (AF _ hy));simp only[List.sum_cons,AJ,DV,Nat.one_mul];omega
theorem Rm.fits {p:Jp} {B m k a:Nat} (h:Rm p B m k a) {Gf:List (Fl×List T5)} (hl:Gf.length≤k) (hb:∀x∈Gf,x.1.blocks≤B) {T:Nat} (hT:T≤m) (e:Int) (er:Option Nat) (x y:Nat):Ou p ⟨e,er,Gf,x,y⟩ T:=by left;unfold Zx;dsimp only;have h1:T*(Gf.length+p.L0.length+1)≤m*(k+p.L0.length+1):=DN hT oM;have h2:=Wj (B:=B) (l:=Gf.map (·.1.blocks)) (by intro y hy;obtain⟨x,hx,rfl⟩:=AN.1 hy;exact hb x hx);rw[AR] at h2;have h3:Gf.length*B≤k*B:=BB _ hl;have:=h.room;omega
structure FB (b c w n:Nat) (e:Int) (f:Fl):Prop where
 cnt:f.count≤b
 blk:f.blocks≤c
 ok:e=0→f.width=w∧f.count=n
theorem FB.mono {b c w n:Nat} {e e':Int} {f:Fl} (h:FB b c w n e f) (he:e'=0→e=0):FB b c w n e' f:=⟨h.cnt,h.blk,fun h0=>h.ok (he h0)⟩
theorem Fm.er0 {p:Jp} {J:Jb} {C:Aa} (h:Fm p J C) (he:J.e=0):J.er=none:=by obtain⟨W,cd,ca,cs,held,ph,cap,ch,_,_,_,aa⟩:=h;exact(aa.ok he).2
theorem Ao.er0 {p:Jp} {B k a s0:Nat} {e:Int} {er:Option Nat} {Gf:List (Fl×List T5)} {C:Aa} (h:Ao p B k a s0 e er Gf C) (he:e=0):er=none:=h.job.er0 he
theorem nbS {s w n c:Nat} (hs:8≤s) (h1:1≤w) (h5:w≤5) (hc:n≤c∨(w≤3∧n≤2*c)):Ac s w n≤c:=by
 have hp:=Bh hs h1 h5;rcases hc with hc|⟨hw,hc⟩
 ·exact A5 (Dl hp) hc
 ·have h2:2≤Ad s w:=by
   have:3*2≤s-2:=by omega
   exact(Nat.le_div_iff_mul_le oM).2 (by
    have:2*w≤2*3:=CF _ hw;omega)
  unfold Ac;generalize Ad s w=q at*;have:n+q-1<(c+1)*q:=by have h3:c*2≤c*q:=CF _ h2;rw[DV,Nat.one_mul];omega
  have:=(Nat.div_lt_iff_lt_mul oM).2 this;omega
inductive Pk {α:Type} (x:α):List α→List α→Prop
 |here {l:List α}:Pk x (x::l) l
 |there {y:α} {l l':List α}:Pk x l l'→Pk x (y::l) (y::l')
theorem Pk.perm {α:Type} {x:α} {l l':List α} (h:Pk x l l'):l.Perm (x::l'):=by
 induction h with
 |here=>exact .refl _
 |there _ ih=>exact(ih.cons _).trans (.swap _ _ _)
inductive Pks {α:Type}:List α→List α→List α→Prop
 |nil {l:List α}:Pks [] l l
 |cons {x:α} {xs l l1 l2:List α}:Pk x l l1→Pks xs l1 l2→Pks (x::xs) l l2
theorem Pks.perm {α:Type} {xs l l':List α} (h:Pks xs l l'):l.Perm (xs++l'):=by
 induction h with
 |nil=>exact .refl _
 |cons h1 _ ih=>exact h1.perm.trans (ih.cons _)
section
variable {p:Jp} {B m k a s0:Nat} {e:Int} {er:Option Nat} {Gf:List (Fl×List T5)} {C:Aa}
theorem Fm.weak {J J':Jb} (h:Fm p J C) (he:J'.e=J.e) (aa:J'.er=J.er) (hG:J'.G=J.G) (ha:J.acts≤J'.acts) (ht:J.took≤J'.took):Fm p J' C:=by
 obtain⟨W,cd,ca,cs,held,ph,cap,ch,h1,h2,h3,h4⟩:=h;refine⟨W,cd,ca,cs,held,ph,cap,ch,by rw[he];exact h1,h2,h3,{h4 with acts:=A5 h4.acts ha,tk:=A5 h4.tk oM,ok:=?_,why:=?_}⟩
 ·rw[he,aa,hG];exact h4.ok
 ·rw[he,aa];exact h4.why
theorem Ao.push (h:Ao p B k a s0 e er Gf C) (hl:Gf.length+1≤k) {e':Int} {aa:Option Nat} {f:Fl} {ts:List T5} {C':Aa} {A T:Nat} (q:Nat) (hJ:Fm p ⟨e',aa,(f,ts)::Gf,a+s0*30000+A,s0*30000+T⟩ C') (hA:A≤q*30000) (hT:T≤q*30000) (hb:f.blocks≤B):Ao p B k a (s0+q) e' aa ((f,ts)::Gf) C' where
 job:=by have e1:(s0+q)*30000=s0*30000+q*30000:=DV _ _ _;exact hJ.weak rfl rfl rfl oD oD
 len:=by simpa using hl
 blk:=by
  intro x hx;rcases AM.1 hx with rfl|hx
  ·exact hb
  ·exact h.blk x hx
theorem aF (hR:Rm p B m k a) (hJ:Ao p B k a s0 e er Gf C) {K:Type} (M:Aj K) (k0:K) (width bound c κ:Nat) (aa:1≤width∧width≤5) (mk:Nat) (ab:Callable AC mk) (us:List Value) (ok:K→T5→Prop) (hM:Bw M width ok mk [] us) (hκ:∀k t,ok k t→(M.outs k t).length≤κ) (ad:κ≤5) (l:List (Fl×List T5)) (hs:∀x∈l,x∈Gf∨In0 p x) (h0:∀x∈l,x.1.count≤1000∧x.1.blocks≤1000) (ae:l.length≤4) (pa:Option Addr) (cap:Nat) (cf:Aa) (hV:Vec 42 4 pa l.length cap (Ai (l.map (·.1))) cf) (ai:e=0→M.oks ok k0 (cat l)) (ah:e=0→(M.all k0 (cat l)).length≤bound) (hc:bound≤c∨(width≤3∧bound≤2*c)) (al:c≤B) (hl:Gf.length+1≤k) (ag:s0≤10000):Ct AC 52 [pv p.bj,Z9 Z8 width,Z9 Z8 bound,.func (.func mk) #[] us.toArray,.slice pa l.length cap] (C::cf::M.C k0) fun v H'=> ∃f C' e' k',v=flv f∧H'=C'::cf::M.C k'∧Ao p B k a (s0+1) e' (er.or (M.bad k0 (cat l))) ((f,M.all k0 (cat l))::Gf) C'∧FB bound c width (M.all k0 (cat l)).length e' f∧(e'=0→e=0∧k'=M.st k0 (cat l)∧M.bad k0 (cat l)=none):=by
 have hB:=hR.bs;have am:=hR.kk;have an:=hR.acts;have hm:=hR.le;have aj:=hJ.len;have ac:=nbS (s:=p.size) hR.ok.size.1 aa.1 aa.2 hc;have ao:bound≤2000:=oM;have ak:Hw κ l≤4*6000:=by unfold Hw;refine A5 (Wj (B:=6000) ?_) (by rw[AR];exact BB _ ae);intro x hx;obtain⟨y,hy,rfl⟩:=AN.1 hx;have h1:=h0 y hy;have h2:y.1.count*κ≤1000*5:=DN h1.1 ad;omega
 have h2:s0*30000≤10000*30000:=DN ag (AI _);refine(JMake p hR.ok _ C hJ.job M k0 width bound κ 24001 c aa.1 aa.2 oM mk ab [] us ok hM hκ oM l hs (fun x hx=>by have:=h0 x hx;omega) pa cap cf hV ai ah ac
  (fun _=>hR.fits hJ.len hJ.blk oM _ _ _ _) oM oD oD).mono ?_
 rintro v H' ⟨f,C',e',k',rfl,rfl,h3,h4,h5,h6⟩;have h7:f.blocks≤c:=A5 h6 ac;exact⟨f,C',e',k',rfl,rfl,hJ.push hl 1 h3 oM oM oM,⟨h5,h7,fun h=>let ⟨_,_,c,d,_⟩:=h4 h;⟨c,d⟩⟩,fun h=>let ⟨a,b,_,_,d⟩:=h4 h;⟨a,b,d⟩⟩
theorem iV (hR:Rm p B m k a) (hJ:Ao p B k a s0 e er Gf C) {K:Type} (M:Aj K) (k0:K) (width bound c κ:Nat) (ae:1≤width∧width≤5) (mk:Nat) (aa:Callable AC mk) (us:List Value) (ok:K→T5→Prop) (hM:Bw M width ok mk [] us) (hκ:∀k t,ok k t→(M.outs k t).length≤κ) (ab:κ≤5) (f0:Fl) (ts:List T5) (hs:(f0,ts)∈Gf∨In0 p (f0,ts)) (h0:f0.count≤1000∧f0.blocks≤1000) (ah:e=0→M.oks ok k0 ts) (ag:e=0→(M.all k0 ts).length≤bound) (hc:bound≤c∨(width≤3∧bound≤2*c)) (ac:c≤B) (hl:Gf.length+1≤k) (ad:s0≤10000) (b:Nat):Ct AC 52 [pv p.bj,Z9 Z8 width,Z9 Z8 bound,.func (.func mk) #[] us.toArray,.slice (some ⟨b,0,none⟩) 1 1] (C::[(b,row (fl4 f0) 42)]::M.C k0) fun v H'=> ∃f C' e' k',v=flv f∧H'=C'::[(b,row (fl4 f0) 42)]::M.C k'∧Ao p B k a (s0+1) e' (er.or (M.bad k0 ts)) ((f,M.all k0 ts)::Gf) C'∧FB bound c width (M.all k0 ts).length e' f∧(e'=0→e=0∧k'=M.st k0 ts∧M.bad k0 ts=none):=by
 have h:=aF hR hJ M k0 width bound c κ ae mk aa us ok hM hκ ab [(f0,ts)] (by simpa using hs) (by simpa using h0) oA19 _ 1 _ (Mr b f0);rw[uT] at h;exact h ah ag hc ac hl ad
theorem Wl (hR:Rm p B m k a) (hJ:Ao p B k a s0 e er Gf C) {K:Type} (M:Aj K) (ab:∀k t,M.err k t=none) (k0:K) (width bound c κ:Nat) (ag:1≤width∧width≤5) (mk:Nat) (aa:Callable AC mk) (us:List Value) (ok:K→T5→Prop) (hM:Bw M width ok mk [] us) (hκ:∀k t,ok k t→(M.outs k t).length≤κ) (ac:κ≤5) (f0:Fl) (ts:List T5) (hs:(f0,ts)∈Gf∨In0 p (f0,ts)) (h0:f0.count≤1000∧f0.blocks≤1000) (ai:e=0→M.oks ok k0 ts) (ah:e=0→(M.all k0 ts).length≤bound) (hc:bound≤c∨(width≤3∧bound≤2*c)) (ad:c≤B) (hl:Gf.length+1≤k) (ae:s0≤10000) (b:Nat):Ct AC 52 [pv p.bj,Z9 Z8 width,Z9 Z8 bound,.func (.func mk) #[] us.toArray,.slice (some ⟨b,0,none⟩) 1 1] (C::[(b,row (fl4 f0) 42)]::M.C k0) fun v H'=> ∃f C' e' k',v=flv f∧H'=C'::[(b,row (fl4 f0) 42)]::M.C k'∧Ao p B k a (s0+1) e' er ((f,M.all k0 ts)::Gf) C'∧FB bound c width (M.all k0 ts).length e' f∧(e'=0→e=0∧k'=M.st k0 ts):=by
 refine(iV hR hJ M k0 width bound c κ ag mk aa us ok hM hκ ac f0 ts hs h0 ai ah hc ad hl ae b).mono ?_;rintro v H' ⟨f,C',e',k',h1,h2,h3,h4,h5⟩;rw[Aj.bad_none ab,Ms] at h3;exact⟨f,C',e',k',h1,h2,h3,h4,fun h=>⟨(h5 h).1,(h5 h).2.1⟩⟩
theorem SMap2 (hR:Rm p B m k a) (hJ:Ao p B k a s0 e er Gf C) (g:T5→T5) (width bound c:Nat) (ai:1≤width∧width≤5) (mk:Nat) (ab:Callable AC mk) (aa:T5→Prop) (ae:∀bx t X R,PutC bx (g t) X R→Ct AC mk [tv t,Im bx] [X] (Wh R)) (ac:∀t,aa t→okT width (g t)) (f0 f1:Fl) (ts us:List T5) (hs:(f0,ts)∈Gf∨In0 p (f0,ts)) (ad:(f1,us)∈Gf∨In0 p (f1,us)) (h0:f0.count≤1000∧f0.blocks≤1000) (h1:f1.count≤1000∧f1.blocks≤1000) (ak:e=0→∀t∈ts++us,aa t) (aj:e=0→ts.length+us.length≤bound) (hc:bound≤c∨(width≤3∧bound≤2*c)) (ag:c≤B) (hl:Gf.length+1≤k) (ah:s0≤10000) (b:Nat):Ct AC 52 [pv p.bj,Z9 Z8 width,Z9 Z8 bound,.func (.func mk) #[] #[],.slice (some ⟨b,0,none⟩) 2 2] [C,[(b,row (fl4 f0++fl4 f1) 42)]] fun v H'=> ∃f C' e',v=flv f∧H'=[C',[(b,row (fl4 f0++fl4 f1) 42)]]∧Ao p B k a (s0+1) e' er ((f,(ts++us).map g)::Gf) C'∧FB bound c width (ts.length+us.length) e' f∧(e'=0→e=0):=by
 have h:=aF hR hJ (Kj g) () width bound c 1 ai mk ab [] _ (Bw.tail ae ac) (fun _ _ _=>AI _) oM [(f0,ts),(f1,us)] (by simpa using⟨hs,ad⟩) (by simpa using⟨h0,h1⟩) oA19 _ 2 _ (Nq b f0 f1);rw[iP] at h;have h:=h (fun h=>Aj.oks_of (M:=Kj g) (I:=fun _=>True) (Q:=aa) (fun _ t _ h=>⟨h,trivial⟩) (ts++us) () trivial (ak h)) (by rw[Tt,AR,AH];exact aj) hc ag hl ah;refine h.mono ?_;rintro v H' ⟨f,C',e',k',h1,h2,h3,h4,h5⟩;rw[Aj.bad_none (fun _ _=>rfl),Ms] at h3;rw[Tt] at h3 h4;rw[AR,AH] at h4;exact⟨f,C',e',h1,h2,h3,h4,fun h=>(h5 h).1⟩
theorem Fp (hR:Rm p B m k a) (hJ:Ao p B k a s0 e er Gf C) (f:Fl) (ts:List T5) (G':List (Fl×List T5)) (o:T5) (ho:Ge o=true) (once:Bool) {b c w n:Nat} (hf:FB b c w n e f) (hP:Pk (f,ts) Gf G') (hb:b≤1000) (ae:c≤B) (hT:Cf c≤m) (aa:s0≤10000):Ct AC 64 [pv p.bj,flv f,tv o,.bool once] [C] fun v H'=> ∃g C' e',v=flv g∧H'=[C']∧Ao p B k a (s0+1) e' er ((g,srt (ltO o) once ts)::G') C'∧FB b c w (srt (ltO o) once ts).length e' g∧(e'=0→e=0):=by
 have hB:=hR.bs;have ag:=hR.acts;have ah:=hf.cnt;have ab:=hf.blk;have h2:s0*30000≤10000*30000:=DN aa (AI _);have ac:=hP.perm.length_eq;have ai:Cf f.blocks≤Cf c:=vF ab;have ad:Cf f.blocks≤30000:=by have h1:=tW (b:=f.blocks) (m:=1000) (l:=5) oM oA18;exact A5 h1 (nle rfl)
 refine(JSort p hR.ok _ C hJ.job f ts G' o ho once 20000 (Cf f.blocks) (fun _=>hP.perm) (fun _=>AI _) (fun _=>hR.fits hJ.len hJ.blk oM _ _ _ _) (fun _=>tX oM) oD oM).mono ?_;rintro v H' ⟨g,C',e',rfl,rfl,h3,h4,h5,h6⟩;refine⟨g,C',e',rfl,rfl,⟨?_,?_,?_⟩,⟨oM,oM,fun h=>?_⟩,fun h=>(h4 h).1⟩
 ·have e1:(s0+1)*30000=s0*30000+1*30000:=DV _ _ _;refine h3.weak rfl rfl rfl oD ?_;show s0*30000+Cf f.blocks≤(s0+1)*30000;rw[e1];exact Nat.add_le_add_left ad _
 ·have:=hJ.len;simp only[AJ] at ac⊢;omega
 ·intro x hx;rcases AM.1 hx with rfl|hx
  ·dsimp only;omega
  ·exact hJ.blk x (hP.perm.mem_iff.2 (AF _ hx))
 ·obtain⟨h7,h8,h9⟩:=h4 h;exact⟨h8.trans (hf.ok h7).1,h9⟩
theorem Ia (hR:Rm p B m k a) (hJ:Ao p B k a s0 e er Gf C) (fts G':List (Fl×List T5)) (hP:Pks fts Gf G') (aa:fts.length≤1000) (pa:Option Addr) (cap:Nat) (cf:Aa) (hV:Vec 42 4 pa (fts.map (·.1)).length cap (Ai (fts.map (·.1))) cf):Ct AC 114 [pv p.bj,.slice pa (fts.map (·.1)).length cap] [C,cf] fun v H'=>∃C',v= .tuple #[]∧H'=[C',cf]∧Ao p B k a s0 e er G' C':=by
 refine(JFree p hR.ok _ C hJ.job (fts.map (·.1)) fts G' (fun _=>⟨hP.perm,rfl⟩) (by rw[AR];exact aa) pa cap cf hV).mono ?_;rintro v H' ⟨C',rfl,rfl,h⟩;have ab:=hP.perm.length_eq;exact⟨C',rfl,rfl,h,by have:=hJ.len;rw[AH] at ab;omega,fun x hx=>hJ.blk x (hP.perm.mem_iff.2 (List.mem_append_right _ hx))⟩
theorem SRun (hR:Rm p B m k a) (hJ:Ao p B k a s0 e er Gf C) (mk:Nat) (ab:Callable AC mk) (us:List Value) (Hx:Hp) (A T q:Nat) (aa:Option Nat) (ts:List T5) (hA:A≤q*30000) (hT:T≤q*30000) {b c w n:Nat} (ac:e=0→∀x y,x≤a+s0*30000→Er p ⟨e,er,Gf,x,y⟩ mk us Hx A T aa ts fun f e Hx'=>Hx'=Hx∧FB b c w n e f) (ad:c≤B) (hl:Gf.length+1≤k):Ct AC 60 [pv p.bj,.func (.func mk) #[] us.toArray] (C::Hx) fun v H'=>∃f C' e',v=flv f∧H'=C'::Hx∧Ao p B k a (s0+q) e' (er.or aa) ((f,ts)::Gf) C'∧FB b c w n e' f∧(e'=0→e=0):=by
 have ae:=hR.kk;refine(JRunK p hR.ok _ C hJ.job mk ab us Hx A T aa ts _ (fun h=>ac h _ _ (AI _)) (by have:=hJ.len;dsimp only;omega)).mono ?_;rintro v H' ⟨f,C',e',rfl,rfl,h3,h4⟩;dsimp only at h3 h4;have hf:FB b c w n e' f∧(e'=0→e=0):=by
  rcases h4 with⟨h5,h6⟩|⟨h5,h6,rfl⟩
  ·exact⟨h6,fun _=>h5⟩
  ·exact⟨⟨AU _,AU _,fun h=>absurd (h6▸h) h5⟩,fun h=>absurd (h6▸h) h5⟩
 have:=hf.1.blk;exact⟨f,C',e',rfl,rfl,hJ.push hl q h3 hA hT oM,hf.1,hf.2⟩
def Iz (p:Jp) (J:Jb) (fa fb:Fl) (key value to A T:Nat) (ts:List T5) (R:Fl→Int→Prop):Prop:=
 ∀W cd ca cs held,Wc p.bd p.ba p.bs W cd ca cs→Ea p J held W→
  Ct AC 112 [pv p.bw,flv fa,Z9 Z8 key,flv fb,Z9 Z8 value,Z9 Z8 to] [Ab p.bw p.bd p.ba p.bs,cd,ca,cs] fun v H'=>
   ∃f e aa ab cs' W',v= .tuple #[flv f,Z9 Z8 e]∧H'=[Ab p.bw p.bd p.ba p.bs,aa,ab,cs']∧Wc p.bd p.ba p.bs W' aa ab cs'∧Hz p W W' A T none ts f e∧R f e
theorem SLook (hR:Rm p B m k a) (ah:Gf.length≤k) (ag:∀x∈Gf,x.1.blocks≤B) (fa fb:Fl) (ats bts:List T5) (am:(fa,ats)∈Gf∨In0 p (fa,ats)) (aj:(fb,bts)∈Gf∨In0 p (fb,bts)) (key value to w c:Nat) (ha:fa.count≤1000∧fa.blocks≤1000) (hb:fb.count≤1000∧fb.blocks≤1000) (ai:key<fa.width) (ae:value<fb.width) (al:to<5) (ad:max fa.width (to+1)=w) (ak:w≤5) (aa:ats.Pairwise fun a c=>a.col key≤c.col key) (ab:bts.Pairwise fun a c=>a.c0<c.c0) (hc:fa.count≤c∨(w≤3∧fa.count≤2*c)) (av:c≤B) (x y:Nat) (hx:x≤900000000):Iz p ⟨0,er,Gf,x,y⟩ fa fb key value to 10000 c (ats.map (Bf bts key value to)) (fun f e=>FB fa.count c w fa.count e f):=by
 intro W cd ca cs held hW an;have hm:=hR.le;have hB:=hR.bs;have ao:1≤w:=oM;have ac:=nbS (s:=p.size) hR.ok.size.1 ao ak hc;rw[←ad] at ac;refine(vG p hR.ok _ rfl fa fb ats bts am aj oM oM key value to ai ae al aa ab 10000 c ac (hR.fits ah ag oM _ _ _ _) oM oD W cd ca cs held hW an).mono ?_;rintro v H' ⟨f,e,aq,au,cs',W',h1,h2,h3,h4,h5,h6,h7⟩;exact⟨f,e,aq,au,cs',W',h1,h2,h3,h4,h5,A5 h6 ac,fun h=>by rw[←ad];exact h7 h⟩
theorem Kl (hR:Rm p B m k a) (hJ:Ao p B k a s0 e er Gf C) (mk:Nat) (ag:Callable AC mk) {us:List Value} {Hx:Hp} (fa fb:Fl) (ats bts:List T5) (key value to w c:Nat) (ai:(fa,ats)∈Gf∨In0 p (fa,ats)) (al:(fb,bts)∈Gf∨In0 p (fb,bts)) (ak:∀(J:Jb) (A T:Nat) (ts:List T5) (R:Fl→Int→Prop),Iz p J fa fb key value to A T ts R→Er p J mk us Hx A T none ts fun f e Hx'=>Hx'=Hx∧R f e) {ba ca wa na bb cb wb nb:Nat} (aa:FB ba ca wa na e fa) (ad:FB bb cb wb nb e fb) (ax:ba≤1000∧ca≤1000∧bb≤1000∧cb≤1000) (av:key<wa) (aw:value<wb) (an:to<5) (aj:max wa (to+1)=w) (am:w≤5) (ac:e=0→ats.Pairwise fun a c=>a.col key≤c.col key) (ab:e=0→bts.Pairwise fun a c=>a.c0<c.c0) (hc:ba≤c∨(w≤3∧ba≤2*c)) (ae:c≤B) (hl:Gf.length+1≤k) (ah:s0≤10000):Ct AC 60 [pv p.bj,.func (.func mk) #[] us.toArray] (C::Hx) fun v H'=>∃f C' e',v=flv f∧H'=C'::Hx∧Ao p B k a (s0+1) e' er ((f,ats.map (Bf bts key value to))::Gf) C'∧FB ba c w na e' f∧(e'=0→e=0):=by
 have hB:=hR.bs;have ay:=hR.acts;have h1:=aa.cnt;have h2:=aa.blk;have h3:=ad.cnt;have h4:=ad.blk;have h5:s0*30000≤10000*30000:=DN ah (AI _);have h:=SRun hR hJ mk ag us Hx 10000 c 1 none (ats.map (Bf bts key value to)) oA18 oM (b:=ba) (c:=c) (w:=w) (n:=na) (fun he x y hx=>by
  subst he;obtain⟨q1,q2⟩:=aa.ok rfl;obtain⟨q3,q4⟩:=ad.ok rfl;have hS:=SLook hR hJ.len hJ.blk (er:=er) fa fb ats bts ai al key value to w c oM oM oM oM an (by rw[q1];exact aj) am (ac rfl) (ab rfl) oM ae x y oM;have ao:=ak _ _ _ _ _ hS;intro W cd ca cs held ph cap h1 h2;refine(ao W cd ca cs held ph cap h1 h2).mono ?_;rintro v H' ⟨f,e,aq,au,cs',W',Hx',a1,a2,a3,a4,a5,a6⟩;exact⟨f,e,aq,au,cs',W',Hx',a1,a2,a3,a4,a5,⟨A5 a6.cnt oM,a6.blk,fun h=>⟨(a6.ok h).1,by rw[(a6.ok h).2];exact q2⟩⟩⟩) ae hl
 rw[Ms] at h;exact h
theorem iW (hR:Rm p B m k a) (hJ:Ao p B k a s0 e er Gf C) (f:Fl) (b:Nat):Ct AC 66 [pv p.bj,.slice (some ⟨b,0,none⟩) 1 1] [C,[(b,row (fl4 f) 42)]] fun v H'=>∃cd ca cs W,v=Z9 Z8 e∧H'=[Ab p.bw p.bd p.ba p.bs,cd,ca,cs,[(b,row (fl4 f) 42)]]∧Wc p.bd p.ba p.bs W cd ca cs∧Sb p ⟨e,er,Gf,a+s0*30000,s0*30000⟩ [f] W:=
 vE p hR.ok _ C hJ.job f b
end
theorem lkR {p:Jp} {W W':Wk} {A T:Nat} {ts:List T5} {Rl:Fl→Int→Prop} {Hx:Hp} {jr cd ca cs:Aa} {f:Fl} {e:Int} (hW:Wc p.bd p.ba p.bs W' cd ca cs) (hS:Hz p W W' A T none ts f e) (hR:Rl f e):Wg p W A T none ts (fun f e Hx'=>Hx'=Hx∧Rl f e) jr (.tuple #[flv f,Z9 Z8 e]) (jr::Ab p.bw p.bd p.ba p.bs::cd::ca::cs::Hx):=⟨f,e,cd,ca,cs,W',_,rfl,rfl,hW,hS,rfl,hR⟩
theorem eQ2:∀f:Fl,fl4 f=[Z9 Z8 f.first,Z9 Z8 f.blocks,Z9 Z8 f.width,Z9 Z8 f.count]:=fun _=>rfl
theorem lM {C r q:Prop} (s:r) (c:C) (h:Ep r→Ep C→q:=by
 intro s c W cd ca cs held ph capj hW hJW;have hL:=s.get W cd ca cs held hW hJW;have hflv:=eQ0;have hfl4:=eQ2;rw[hflv,hflv] at hL;unfold Bp Cu;rw[hfl4,hfl4];refine Ct.intro c.get rfl rfl (nle rfl) fun _=>?_;dsimp only[Cy,AD];repeat(refine sv ?_;intros)
 refine cX hL ?_;rintro _ _ ⟨f,e,cd',ca',cs',W',rfl,rfl,hW',hS,hR⟩;dsimp only[AA,AB];refine nx ?_;rw[hflv];repeat(refine sv ?_;intros)
 exact Dn.post (vs:=[flv f,Z9 Z8 e]) rfl (hR:=lkR hW' hS hR)):q:=h ⟨s⟩ ⟨c⟩
theorem vH (bj bw:Nat) (e:Int) (p:Option Addr) (n cap:Nat) (m:Nat) (hm:m≤1000):Ct AC 109 [pv bj,Z9 Z8 m] [Bp bj bw e p n cap] fun v H'=>v= .tuple #[]∧H'=[Bp bj bw (if e=0 then(m:Int) else e) p n cap]:=by
 unfold Bp;by_cases he:e=0
 ·subst he;rw[if_pos rfl];refine cG func109 fun _=>?_;repeat(refine sA ?_;intros)
  (refine dE [[(bj,row [pv bw,Z9 Z8 m,.slice p n cap] 98)]] ?_;exact⟨rfl,rfl⟩)
 ·rw[if_neg he];refine cG func109 fun _=>?_;repeat(refine sA ?_;intros)
  (refine dE [[(bj,row [pv bw,Z9 Z8 e,.slice p n cap] 98)]] ?_;exact⟨rfl,rfl⟩)
theorem Ao.orE {p:Jp} {B k a s0:Nat} {e:Int} {er:Option Nat} {Gf:List (Fl×List T5)} {C:Aa} (h:Ao p B k a s0 e er Gf C) (x:Option Nat) (hx:e=0→x=none):Ao p B k a s0 e (er.or x) Gf C:=by
 obtain⟨⟨W,cd,ca,cs,held,ph,cap,ch,h1,hW,hV,aa⟩,hl,hb⟩:=h;refine⟨⟨W,cd,ca,cs,held,ph,cap,ch,h1,hW,hV,{aa with ok:=fun h=>?_,why:=fun h=>?_}⟩,hl,hb⟩
 ·obtain⟨a,b⟩:=aa.ok h;dsimp only at b;exact⟨a,by rw[b,hx h];rfl⟩
 ·refine(aa.why h).imp id ?_;rintro⟨n,h1,h2⟩;dsimp only at h1 h2;exact⟨n,by rw[h1];rfl,h2⟩
theorem SFail {p:Jp} {B k a s0:Nat} {e:Int} {er:Option Nat} {Gf:List (Fl×List T5)} {C:Aa} (hJ:Ao p B k a s0 e er Gf C) (m:Nat) (ac:m≠0) (hm:m≤1000) (x:Option Nat) (hx:e=0→x=some m):Ct AC 109 [pv p.bj,Z9 Z8 m] [C] fun v H'=>∃e' C',v= .tuple #[]∧H'=[C']∧Ao p B k a s0 e' (er.or x) Gf C'∧e'≠0:=by
 obtain⟨⟨W,cd,ca,cs,held,ph,cap,ch,rfl,hW,hV,aa⟩,hl,hb⟩:=hJ;refine Ct.convP (Ct.wide (vH p.bj p.bw e ph held.length cap m hm) [Ab p.bw p.bd p.ba p.bs,cd,ca,cs,ch]) (by unfold Bv;refine Cp fun z=>?_;simp only[AX,A4,AQ,A3,A8];omega) ?_;rintro v H' ⟨H1,⟨rfl,rfl⟩,rfl⟩;have ab:(if e=0 then(m:Int) else e)≠0:=by split<;>omega
 refine⟨[Bv p (if e=0 then(m:Int) else e) cd ca cs ph held.length cap ch],⟨_,_,rfl,rfl,⟨⟨W,cd,ca,cs,held,ph,cap,ch,rfl,hW,hV,{aa with ok:=fun h=>absurd h ab,why:=fun _=>?_}⟩,hl,hb⟩,ab⟩,?_⟩
 ·have hv:∀z:Int,z=(if e=0 then(m:Int) else e)→(z=6∧p.fl)∨∃n:Nat,er.or x=some n∧z=(n:Int):=by
   rintro z rfl;by_cases he:e=0
   ·have:=(aa.ok he).2;dsimp only at this;rw[if_pos he,this,hx he];exact .inr ⟨m,rfl,rfl⟩
   ·rw[if_neg he];refine(aa.why he).imp id ?_;rintro⟨n,h1,h2⟩;dsimp only at h1 h2;exact⟨n,by rw[h1];rfl,h2⟩
  exact hv _ rfl
 ·unfold Bv;refine Cp fun z=>?_;simp only[AX,A4,AQ,A3,A8];omega
def Cq (Cx:Hp) (f:T5→List T5):Aj Unit:=⟨fun _=>Cx,fun _ t=>f t,fun _ _=>(),fun _ _=>none⟩
theorem aG (Cx:Hp) (f:T5→List T5):∀(ts:List T5) (k:Unit),(Cq Cx f).all k ts=ts.flatMap f
 |[],_=>rfl
 |t::ts,k=>by simp only[Aj.all,aG Cx f ts,A7];rfl
theorem mFl_C (Cx:Hp) (f:T5→List T5) (k:Unit):(Cq Cx f).C k=Cx:=rfl
theorem El {f:T5→List T5} {g:T5→T5} (h:∀t,f t=[g t]) (ts:List T5):ts.flatMap f=ts.map g:=by
 induction ts with
 |nil=>rfl
 |cons t ts ih=>rw[A7,ih,h];rfl
theorem Sf {f:T5→List T5} {n:Nat} (ts:List T5) (h:∀t∈ts,(f t).length≤n):(ts.flatMap f).length≤ts.length*n:=by
 induction ts with
 |nil=>simp
 |cons t ts ih=>
  have h1:=h t AE;have h2:=ih fun u hu=>h u (AF _ hu);rw[A7,AH,AJ,BH];omega
theorem Fy {p:Jp} {B m k a s0:Nat} {e:Int} {er:Option Nat} {Gf:List (Fl×List T5)} {C:Aa} (hR:Rm p B m k a) (hJ:Ao p B k a s0 e er Gf C) (Cx:Hp) (f:T5→List T5) (width bound c κ:Nat) (ag:1≤width∧width≤5) (mk:Nat) (ab:Callable AC mk) (us:List Value) (aa:T5→Prop) (hM:Bw (Cq Cx f) width (fun _ t=>aa t) mk [] us) (hκ:∀t,aa t→(f t).length≤κ) (ac:κ≤5) (f0:Fl) (ts:List T5) (hs:(f0,ts)∈Gf∨In0 p (f0,ts)) (h0:f0.count≤1000∧f0.blocks≤1000) (ai:e=0→∀t∈ts,aa t) (ah:e=0→(ts.flatMap f).length≤bound) (hc:bound≤c∨(width≤3∧bound≤2*c)) (ad:c≤B) (hl:Gf.length+1≤k) (ae:s0≤10000) (b:Nat):Ct AC 52 [pv p.bj,Z9 Z8 width,Z9 Z8 bound,.func (.func mk) #[] us.toArray,.slice (some ⟨b,0,none⟩) 1 1] (C::[(b,row (fl4 f0) 42)]::Cx) fun v H'=> ∃g C' e',v=flv g∧H'=C'::[(b,row (fl4 f0) 42)]::Cx∧Ao p B k a (s0+1) e' er ((g,ts.flatMap f)::Gf) C'∧FB bound c width (ts.flatMap f).length e' g∧(e'=0→e=0):=by
 have h:=Wl hR hJ (Cq Cx f) (fun _ _=>rfl) () width bound c κ ag mk ab us _ hM (fun _ t ht=>hκ t ht) ac f0 ts hs h0
  (fun h=>Aj.oks_of (M:=Cq Cx f) (I:=fun _=>True) (Q:=aa) (fun _ t _ h=>⟨h,trivial⟩) ts () trivial (ai h)) (by rw[aG];exact ah) hc ad hl ae b
 simp only[aG,mFl_C] at h;refine h.mono ?_;rintro v H' ⟨g,C',e',k',h1,h2,h3,h4,h5⟩;exact⟨g,C',e',h1,h2,h3,h4,fun h=>(h5 h).1⟩
structure MkS (bx kk ki:Nat) (Pst:List T5→Aa→Prop) (Br:Aa→Prop) (bnd:Nat) (ps:List T5) (X:Aa) (t:T5) (o:List T5):Prop where
 hP:Vj bx kk Pst Br bnd
 hX:Pst ps X
 hk:okT ki t
 hb:ps.length+o.length≤bnd
def mkR (chs:Hp) (o:List T5) (Pst:List T5→Aa→Prop) (Br:Aa→Prop) (ps:List T5) (v:Value) (H':Hp):Prop:=∃X',H'=X'::chs∧((v=Z9 Z8 0∧Pst (ps++o) X')∨(v=Z9 Z8 6∧Br X'))
theorem mkOkR {chs:Hp} {o ps:List T5} {Pst:List T5→Aa→Prop} {Br:Aa→Prop} {X:Aa} (h:Pst (ps++o) X):mkR chs o Pst Br ps (Z9 Z8 0) (X::chs):=⟨X,rfl,.inl ⟨rfl,h⟩⟩
theorem mkBrR {chs:Hp} {o ps:List T5} {Pst:List T5→Aa→Prop} {Br:Aa→Prop} {X:Aa} (h:Br X):mkR chs o Pst Br ps (Z9 Z8 6) (X::chs):=⟨X,rfl,.inr ⟨rfl,h⟩⟩
theorem mkNoR {chs:Hp} {o ps:List T5} {Pst:List T5→Aa→Prop} {Br:Aa→Prop} {X:Aa} (ho:o=[]) (h:Pst ps X):mkR chs o Pst Br ps (Z9 Z8 0) (X::chs):=mkOkR (by rw[ho,AQ];exact h)
theorem mkU {F:T5→List T5} {chs:Hp} {kk ki f:Nat} {us:List Value} (h:∀bx Pst Br bnd ps X t,MkS bx kk ki Pst Br bnd ps X t (F t)→Ct AC f (.agg #[Z9 Z8 t.c0,Z9 Z8 t.c1,Z9 Z8 t.c2,Z9 Z8 t.c3,Z9 Z8 t.c4]:: .func (.func 92) #[pv bx] #[]::us) (X::chs) (mkR chs (F t) Pst Br ps)):Bw (Cq chs F) kk (fun _ t=>okT ki t) f [] us:=by
 rintro bx Pst Br bnd hP ps X ⟨⟩ t hX hk hb;refine Ct.mono (h bx Pst Br bnd ps X t ⟨hP,hX,hk,hb⟩) ?_;rintro v H' ⟨X',rfl,h⟩;refine⟨X',(),rfl,?_⟩;rcases h with⟨rfl,h⟩|⟨rfl,h⟩
 ·exact .inl ⟨rfl,rfl,(by trivial),h⟩
 ·exact .inr (.inl ⟨rfl,h⟩)
theorem putL {bx kk ki bnd:Nat} {Pst:List T5→Aa→Prop} {Br:Aa→Prop} {ps o:List T5} {X:Aa} {t u:T5} (s:MkS bx kk ki Pst Br bnd ps X t o) (ho:o=[u]) (hk:okT kk u):Ct AC 92 [pv bx,.agg #[Z9 Z8 u.c0,Z9 Z8 u.c1,Z9 Z8 u.c2,Z9 Z8 u.c3,Z9 Z8 u.c4]] [X] fun v H'=>∃X',H'=[X']∧((v=Z9 Z8 0∧Pst (ps++o) X')∨(v=Z9 Z8 6∧Br X')):=by
 subst ho;exact s.hP ps X u s.hX hk s.hb
theorem mL0 {C q r p:Prop} (s:r) (c:C) (k:q) (h:Ep r→Ep C→Ep q→p:=by
 intro s c k;refine Ct.intro c.get rfl rfl (nle rfl) fun _=>?_;dsimp only[Cy,AD];repeat(refine st ?_;intros)
 exact Dn.post (vs:=[Z9 Z8 0]) rfl (hR:=mkNoR k.get s.get.hX)):p:=h ⟨s⟩ ⟨c⟩ ⟨k⟩
theorem oI {u:T5} {p:Prop} (ti:Av u.c0∧Av u.c1∧Av u.c2∧Av u.c3∧Av u.c4) (h:Ep (Av u.c0∧Av u.c1∧Av u.c2∧Av u.c3∧Av u.c4)→p:=by
 intro ti;have ti:=ti.get;first|exact ti.1|exact ti.2.1|exact ti.2.2.1|exact ti.2.2.2.1|exact ti.2.2.2.2|exact Gu|exact Oc|exact Mg|exact Od _|assumption|(unfold Av at*;omega)):p:=h ⟨ti⟩
theorem mL1 {C q r p:Prop} (s:r) (c:C) (k:q) (h:Ep r→Ep C→Ep q→p:=by
 intro s c k;have ti:=Dp s.get.hk;have hk:=s.get.hk;refine Ct.intro c.get rfl rfl (nle rfl) fun _=>?_;dsimp only[Cy,AD];repeat(refine st ?_;intros)
 refine R.callV (hct:=by exact putL s.get k.get (by first|exact hk|exact Ov (oI ti)|exact Hk (oI ti) (oI ti)|exact Iv (oI ti) (oI ti) (oI ti)|exact okT4 (oI ti) (oI ti) (oI ti) (oI ti))) (h:=?_);rintro _ _ ⟨X',rfl,⟨rfl,hX'⟩|⟨rfl,hB⟩⟩
 ·repeat(refine st ?_;intros)
  exact Dn.post (vs:=[Z9 Z8 0]) rfl (hR:=mkOkR hX')
 ·repeat(refine st ?_;intros)
  exact Dn.post (vs:=[Z9 Z8 6]) rfl (hR:=mkBrR hB)):p:=h ⟨s⟩ ⟨c⟩ ⟨k⟩
theorem aH (x y:Int):(if Ec x y≠0 then Ec x y else 0)<0↔x<y:=by unfold Ec;split<;>(repeat' split)<;>omega
theorem Ow (a b:T5):ltO o1 a b=true↔a.c0<b.c0:=by
 have hf:Ge o1=true:=by decide
 unfold ltO Cz;rw[decide_eq_true_iff,if_pos hf];exact aH a.c0 b.c0
theorem iX (x y z w:Int):(if Ec x y≠0 then Ec x y else if Ec z w≠0 then Ec z w else 0)<0↔x<y∨x=y∧z<w:=by unfold Ec;(repeat' split)<;>omega
theorem Qi (a b:T5):ltO o12 a b=true↔a.c0<b.c0∨a.c0=b.c0∧a.c1<b.c1:=by
 have hf:Ge o12=true:=by decide
 unfold ltO Cz;rw[decide_eq_true_iff,if_pos hf];exact iX a.c0 b.c0 a.c1 b.c1
theorem vI (once:Bool) (l:List T5):(srt (ltO o12) once l).Pairwise fun a c=>a.c0<c.c0∨a.c0=c.c0∧(if once then a.c1<c.c1 else a.c1≤c.c1):=by
 refine(Kz (Ee o12) once l).imp fun {a b} h=>?_;cases once with
 |true=>
  simp only[if_true] at h⊢;exact(Qi a b).1 h
 |false=>
  simp only[CE,if_false] at h⊢;have h1:¬ltO o12 b a=true:=by rw[h];decide
  rw[Qi] at h1;omega
theorem Sh (l:List T5):(srt (ltO o1) false l).Pairwise fun a c=>a.c0≤c.c0:=by
 refine(Kz (Ee o1) false l).imp fun {a b} h=>?_;have h1:¬ltO o1 b a=true:=by intro h2;simp only[CE,if_false] at h;rw[h] at h2;cases h2
 rw[Ow] at h1;omega
theorem aI {o:T5} {once:Bool} {l:List T5} {z:T5} (h:z∈l):∃w∈srt (ltO o) once l,eqv (ltO o) z w=true:=by
 have h1:=Wd (Ee o) once l z;have hz:eqv (ltO o) z z=true:=by
  rw[Gm];have:ltO o z z=false:=by
   cases h2:ltO o z z with
   |false=>rfl
   |true=>have:=(Ee o).asym z z h2;rw[h2] at this;cases this
  exact⟨this,this⟩
 have h2:z∈l.filter (eqv (ltO o) z):=BQ.2 ⟨h,hz⟩;cases h3:(srt (ltO o) once l).filter (eqv (ltO o) z) with
 |nil=>
  exfalso;rw[h3] at h1;cases h4:l.filter (eqv (ltO o) z) with
  |nil=>rw[h4] at h2;cases h2
  |cons a b=>
   rw[h4] at h1;cases once<;>simp[Gg] at h1
 |cons a b=>
  have h4:a∈(srt (ltO o) once l).filter (eqv (ltO o) z):=by rw[h3];exact AE
  obtain⟨h5,h6⟩:=BQ.1 h4;exact⟨a,h5,h6⟩
theorem Qj {a b:T5}:eqv (ltO o1) a b=true↔a.c0=b.c0:=by
 have h1:ltO o1 a b=false↔¬a.c0<b.c0:=by rw[←Ow];simp
 have h2:ltO o1 b a=false↔¬b.c0<a.c0:=by rw[←Ow];simp
 rw[Gm,h1,h2];omega
theorem vJ (a:T5):eqv (ltO o1) a=fun b=>decide (a.c0=b.c0):=by
 funext b;cases h:eqv (ltO o1) a b with
 |true=>exact(decide_eq_true (Qj.1 h)).symm
 |false=>
  refine(decide_eq_false fun h2=>?_).symm;rw[Qj.2 h2] at h;cases h
theorem Ox (l:List T5):(srt (ltO o1) true l).Pairwise fun a c=>a.c0<c.c0:=
 (Kz (Ee o1) true l).imp fun {a b} h=>(Ow a b).1 oA15
theorem vK {l:List T5} {z:T5}:z∈srt (ltO o1) true l↔(l.filter fun b=>decide (z.c0=b.c0)).head? =some z:=by
 have hp:=Wd (Ee o1) true l z;have hs:=Ox l;rw[vJ] at hp;simp only[Gg,if_true] at hp;have hh:∀m:List T5,m.head? =some z↔m.take 1=[z]:=by intro m;cases m<;>simp
 rw[hh,hp];constructor
 ·intro hz;have hm:z∈(srt (ltO o1) true l).filter fun b=>decide (z.c0=b.c0):=BQ.2 ⟨hz,by simp⟩;have ab:((srt (ltO o1) true l).filter fun b=>decide (z.c0=b.c0)).Pairwise fun a c=>a.c0<c.c0:=hs.sublist List.filter_sublist;have aa:∀y∈(srt (ltO o1) true l).filter fun b=>decide (z.c0=b.c0),z.c0=y.c0:=fun y hy=>by simpa using(BQ.1 hy).2
  generalize (srt (ltO o1) true l).filter (fun b=>decide (z.c0=b.c0))=m at*
  match m,hm,ab,aa with
  |[a],hm,_,_=>simp only[AW] at hm;subst hm;rfl
  |a::b::m,_,ab,aa=>
   have h1:=CB ab (AE (a:=b) (l:=m));have h2:=aa a oA19;have h3:=aa b oA19;omega
 ·intro h;have h1:z∈((srt (ltO o1) true l).filter fun b=>decide (z.c0=b.c0)).take 1:=by rw[h];exact AW.2 rfl
  exact(BQ.1 (List.mem_of_mem_take h1)).1
theorem okT2eq {a b:T5} (ha:okT 2 a) (hb:okT 2 b) (h0:a.c0=b.c0) (h1:a.c1=b.c1):a=b:=by
 have e2:a.c2=b.c2:=by have x:=ha.2 2 oM;have y:=hb.2 2 oM;exact x.trans y.symm
 have e3:a.c3=b.c3:=by have x:=ha.2 3 oM;have y:=hb.2 3 oM;exact x.trans y.symm
 have e4:a.c4=b.c4:=by have x:=ha.2 4 oM;have y:=hb.2 4 oM;exact x.trans y.symm
 cases a;cases b;simp only[T5.mk.injEq];exact⟨h0,h1,e2,e3,e4⟩
theorem iY {m:List T5} (hm:∀t∈m,okT 2 t) {z:T5}:z∈srt (ltO o1) true (srt (ltO o12) false m)↔z∈m∧∀y∈m,y.c0=z.c0→z.c1≤y.c1:=by
 rw[vK];have hs:((srt (ltO o12) false m).filter fun b=>decide (z.c0=b.c0)).Pairwise fun a c=>a.c0<c.c0∨a.c0=c.c0∧a.c1≤c.c1:=((vI false m).imp fun h=>by simpa using h).sublist List.filter_sublist;have aa:∀y,y∈(srt (ltO o12) false m).filter (fun b=>decide (z.c0=b.c0))↔y∈m∧y.c0=z.c0:=fun y=>by rw[BQ,(Bs m).mem_iff];simp[eq_comm]
 generalize (srt (ltO o12) false m).filter (fun b=>decide (z.c0=b.c0))=s at*;constructor
 ·intro h
  match s,h with
  |a::s,h=>
   simp only[List.head?_cons,BG] at h;subst h;refine⟨((aa a).1 AE).1,fun y hy hq=>?_⟩;rcases AM.1 ((aa y).2 ⟨hy,hq⟩) with rfl|h2
   ·omega
   ·have:=CB hs h2;omega
 ·rintro⟨hz,ab⟩;have h1:=(aa z).2 ⟨hz,rfl⟩
  match s,h1 with
  |a::s,h1=>
   simp only[List.head?_cons,BG];obtain⟨ha,hq⟩:=(aa a).1 AE;rcases AM.1 h1 with rfl|h2
   ·rfl
   ·have h3:=CB hs h2;have h4:=ab a ha hq;exact okT2eq (hm a ha) (hm z hz) hq oM
theorem iZ {lt:T5→T5→Bool} (h:Swo lt) {x:T5}:∀{s:List T5},Sd lt true s→((∃y∈s,eqv lt x y=true)→(Hy lt true x s).length=s.length)∧((∀y∈s,eqv lt x y=false)→(Hy lt true x s).length=s.length+1)
 |[],_=>⟨fun ⟨_,h,_⟩=>(nomatch h),fun _=>rfl⟩
 |y::s,hs=>by
  obtain⟨h1,h2⟩:=BF.1 hs;obtain⟨i1,i2⟩:=iZ h (x:=x) (s:=s) h2;unfold Hy;cases hyx:lt y x with
  |true=>
   have aa:eqv lt x y=false:=by simp[eqv,hyx]
   simp only[if_true,AJ];refine⟨?_,fun ha=>by rw[i2 fun z hz=>ha z (AF _ hz)]⟩;rintro⟨z,hz,he⟩;rcases AM.1 hz with rfl|hz
   ·rw[aa] at he;cases he
   ·rw[i1 ⟨z,hz,he⟩]
  |false=>
   simp only[CE,if_false];cases hxy:lt x y with
   |true=>
    simp only[Bool.not_true,Bool.and_false,CE,if_false,AJ,and_true];refine⟨?_,fun _=>trivial⟩;rintro⟨z,hz,he⟩;exfalso;rcases AM.1 hz with rfl|hz
    ·simp[eqv,hxy] at he
    ·have h3:=h1 z hz;simp only[if_true] at h3;obtain⟨a,b⟩:=Gm.1 he;have:=h.ntrans x z y a (h.asym _ _ h3);rw[hxy] at this;cases this
   |false=>
    simp only[Bool.not_false,Bool.and_true,if_true,AJ];refine⟨fun _=>trivial,fun ha=>?_⟩;have:=ha y AE;simp[eqv,hxy,hyx] at this
theorem jA:∀(l:List T5),(srt (ltO o1) true l).length=l.length↔l.Pairwise fun a c=>a.c0≠c.c0
 |[]=>by simp[srt]
 |x::l=>by
  have ih:=jA l;have ab:=Zv (lt:=ltO o1) (once:=true) l;obtain⟨h1,h2⟩:=iZ (Ee o1) (x:=x) (Kz (Ee o1) true l);rw[BF];simp only[srt,AJ];by_cases hx:∀y∈srt (ltO o1) true l,eqv (ltO o1) x y=false
  ·rw[h2 hx];have h3:∀y∈l,x.c0≠y.c0:=by intro y hy hq;obtain⟨w,hw,he⟩:=aI (o:=o1) (once:=true) hy;have h4:=hx w hw;have h5:=Qj.1 he;rw[Qj.2 (hq.trans h5)] at h4;cases h4
   constructor
   ·intro h;exact⟨h3,ih.1 oM⟩
   ·rintro⟨_,h⟩;rw[ih.2 h]
  ·have aa:∃y∈srt (ltO o1) true l,eqv (ltO o1) x y=true:=by simp only[Classical.not_forall,Bool.not_eq_false] at hx;obtain⟨y,hy,he⟩:=hx;exact⟨y,hy,he⟩
   rw[h1 aa];obtain⟨y,hy,he⟩:=aa;constructor
   ·intro h;omega
   ·rintro⟨h3,_⟩;exact absurd (Qj.1 he) (h3 y (Io hy))
abbrev oK (col:Nat):T5:=⟨(col:Int)+1,0,0,0,0⟩
theorem ltO_oK {col:Nat} (h:col<5) (a b:T5):ltO (oK col) a b=true↔a.col col<b.col col:=by
 have hc:col=0∨col=1∨col=2∨col=3∨col=4:=oM;rcases hc with rfl|rfl|rfl|rfl|rfl;all_goals
  rw[ltO,Cz,decide_eq_true_iff,if_pos oA18];exact aH _ _
theorem aJ {col:Nat} (h:col<5):Ge (oK col)=true:=by have hc:col=0∨col=1∨col=2∨col=3∨col=4:=oM;rcases hc with rfl|rfl|rfl|rfl|rfl<;>decide
theorem Wm {col:Nat} (h:col<5) (l:List T5):(srt (ltO (oK col)) false l).Pairwise fun a c=>a.col col≤c.col col:=by
 refine(Kz (Ee (oK col)) false l).imp fun {a b} hh=>?_;have h1:¬ltO (oK col) b a=true:=by intro h2;simp only[CE,if_false] at hh;rw[hh] at h2;cases h2
 rw[ltO_oK h] at h1;omega
def Ck (v col:Nat) (hts ts:List T5):List T5:=(srt (ltO (oK col)) false ts).map (Bf hts col v col)
theorem Ib (v col:Nat) (hts ts:List T5):(Ck v col hts ts).length=ts.length:=by unfold Ck;rw[AR,(Bs _).length_eq]
theorem Wn (v col:Nat) (hts ts:List T5):(Ck v col hts ts).Perm (ts.map (Bf hts col v col)):=(Bs (lt:=ltO (oK col)) ts).map _
theorem Oy {w wa:Nat} {hts ts:List T5} (hh:∀t∈hts,okT wa t) (h:∀t∈ts,okT w t) (v col:Nat) (hc:col<w) (hw:w≤5):∀t∈Ck v col hts ts,okT w t:=by intro t ht;unfold Ck at ht;obtain⟨u,hu,rfl⟩:=AN.1 ht;have:=Ly hh col v col oM (h u (Io hu));rwa[show max w (col+1)=w by omega] at this
def lwMF (t:T5):List T5:=[⟨t.c0,1,0,0,0⟩]
theorem lwM:Bw (Cq [] (lwMF)) 2 (fun _ t=>okT 3 t) 132 [] []:=mkU fun _ _ _ _ _ _ t s=>mL1 s func132 (show lwMF t=[⟨t.c0,1,0,0,0⟩] from rfl)
theorem lwL (p:Jp) (fa fb:Fl) (b8 b4 b5:Nat) (J:Jb) (A T:Nat) (ts:List T5) (Rl:Fl→Int→Prop) (hL:Iz p J fa fb 0 1 3 A T ts Rl):Er p J 133 [pv b8,pv b4,pv b5] (Cu p.bj b8 b4 b5 fa fb) A T none ts fun f e Hx'=>Hx'=Cu p.bj b8 b4 b5 fa fb∧Rl f e:=lM hL func133
def Jv (t:T5):List T5:=(if t.c3=1 then[] else(if t.c1=t.c2 then[] else[⟨t.c0,t.c1,t.c2,0,0⟩]))
theorem lwR:Bw (Cq [] (Jv)) 3 (fun _ t=>okT 4 t) 134 [] []:=mkU fun _ _ _ _ _ _ t s=>by
 by_cases h1:t.c3=1
 ·exact mL0 s func134 (show Jv t=_ from if_pos h1)
 ·by_cases h2:t.c1=t.c2
  ·exact mL0 s func134 (show Jv t=_ from (if_neg h1).trans (if_pos h2))
  ·exact mL1 s func134 (show Jv t=_ from (if_neg h1).trans (if_neg h2))
end Go.Proofs.YtaofijjjheiknaaGreat
namespace Go.SL
variable {P:Program} {ops:Array Oper} {Q:Exit→Act→World→Prop} {cls:Nat→Oper→Cls} {w0:World} {S:List Nat} {n:Nat} {l:List (Nat×Oper)} {L:Bb} {D:List Deferred} {H:Hp} {qs:List Rd} {k:Nat}
theorem jB {C c1 c2:Aa} {Ha Hb:Hp} (hp:C.Perm (c1++c2)) (h1:Ae c1 H Ha) (h2:Ae c2 Ha Hb):H.flatten.Perm ((C::Hb).flatten):=by refine(Tc h1 h2).trans ?_;simp only[List.flatten_cons];exact hp.symm.append_right _
theorem R1.close {o:Oper} {C c1 c2:Aa} {Ha Hb:Hp} (hp:C.Perm (c1++c2)) (h1:Ae c1 H Ha) (h2:Ae c2 Ha Hb) (h:R1 P ops Q cls w0 S n k o l L D (C::Hb) qs):R1 P ops Q cls w0 S n k o l L D H qs:=R1.recut (jB hp h1 h2) h
theorem Dn.close {e:Exit} {C c1 c2:Aa} {Ha Hb:Hp} (hp:C.Perm (c1++c2)) (h1:Ae c1 H Ha) (h2:Ae c2 Ha Hb) (h:Dn Q w0 S n e L D (C::Hb)):Dn Q w0 S n e L D H:=Dn.recut (jB hp h1 h2) h
end Go.SL
namespace Go.Proofs.YtaofijjjheiknaaGreat
open Go.SL Go.Spc Go.Tup Go.Srt
theorem Ao.row {p:Jp} {B k a s0:Nat} {e:Int} {er:Option Nat} {Gf:List (Fl×List T5)} {C:Aa} (h:Ao p B k a s0 e er Gf C):∃ph nh cap rest,C.Perm ([(p.bj,row [pv p.bw,Z9 Z8 e,.slice ph nh cap] 98)]++rest):=by obtain⟨⟨W,cd,ca,cs,held,ph,cap,ch,rfl,_⟩,_⟩:=h;refine⟨ph,held.length,cap,[Ab p.bw p.bd p.ba p.bs,cd,ca,cs,ch].flatten,?_⟩;unfold Bv Bp;refine Cp fun z=>?_;simp only[AX,A4,AQ,A3,A8];omega
theorem Er.mono {p:Jp} {J:Jb} {mk:Nat} {us:List Value} {Hx:Hp} {A T:Nat} {er:Option Nat} {ts:List T5} {R R':Fl→Int→Hp→Prop} (h:Er p J mk us Hx A T er ts R) (hr:∀f e Hx',R f e Hx'→R' f e Hx'):Er p J mk us Hx A T er ts R':=by intro W cd ca cs held ph cap h1 h2;refine(h W cd ca cs held ph cap h1 h2).mono ?_;rintro v H' ⟨f,e,aa,ab,cs',W',Hx',a1,a2,a3,a4,a5⟩;exact⟨f,e,aa,ab,cs',W',Hx',a1,a2,a3,a4,hr _ _ _ a5⟩
theorem Ea.lives {p:Jp} {J:Jb} {held:List (Fl×List T5)} {W:Wk} (h:Ea p J held W) (he:J.e=0):W.live.length≤J.G.length+p.L0.length∧Bc W.live=(J.G.map (·.1.blocks)).sum+Bc p.L0:=by
 obtain⟨hp,_⟩:=h.ok he;have h1:=h.live.length_eq;have h2:=We (held.map (·.1)) p.L0;have h3:Bc W.live=_:=(Ti h.live).trans (Ts _ _);have h4:=hp.length_eq;have h5:(held.map (·.1)).map (·.blocks)=held.map (·.1.blocks):=by simp
 have h6:=(hp.map (·.1.blocks)).sum_nat;rw[AR] at h2;rw[h5,h6] at h3;exact⟨oM,h3⟩
def Jw (b:Nat) (f:Fl):Aa:=[(b,row [Z9 Z8 f.first,Z9 Z8 f.blocks,Z9 Z8 f.width,Z9 Z8 f.count] 42)]
theorem vec3 (b:Nat) (f1 f2 f3:Fl):Vec 42 4 (some ⟨b,0,none⟩) [f1,f2,f3].length 3 (Ai [f1,f2,f3]) [(b,row (fl4 f1++(fl4 f2++fl4 f3)) 42)]:=
 ⟨rfl,.inr ⟨b,[],rfl,by simp[Ai,fl4],by simp[Ai],by simp,by decide⟩⟩
theorem vec4 (b:Nat) (f1 f2 f3 f4:Fl):Vec 42 4 (some ⟨b,0,none⟩) [f1,f2,f3,f4].length 4 (Ai [f1,f2,f3,f4]) [(b,row (fl4 f1++(fl4 f2++(fl4 f3++(fl4 f4)))) 42)]:=
 ⟨rfl,.inr ⟨b,[],rfl,by simp[Ai,fl4],by simp[Ai],by simp,by decide⟩⟩
theorem vec5 (b:Nat) (f1 f2 f3 f4 f5:Fl):Vec 42 4 (some ⟨b,0,none⟩) [f1,f2,f3,f4,f5].length 5 (Ai [f1,f2,f3,f4,f5]) [(b,row (fl4 f1++(fl4 f2++(fl4 f3++(fl4 f4++(fl4 f5))))) 42)]:=
 ⟨rfl,.inr ⟨b,[],rfl,by simp[Ai,fl4],by simp[Ai],by simp,by decide⟩⟩
def Oz (bj b8 b4 bc b5:Nat) (fa fb:Fl) (key:Nat):Hp:=[[(b8,row [pv bj] 84)],[(b4,row (fl4 fa) 42)],[(bc,row [Z9 Z8 key] 3)],[(b5,row (fl4 fb) 42)]]
theorem nbLook (p:Jp) (fa fb:Fl) (b8 b4 bc b5:Nat) (J:Jb) (A T:Nat) (ts:List T5) (Rl:Fl→Int→Prop) (key:Nat) (hL:Iz p J fa fb key 2 key A T ts Rl):Er p J 123 [pv b8,pv b4,pv bc,pv b5] (Oz p.bj b8 b4 bc b5 fa fb key) A T none ts fun f' e Hx'=>Hx'=Oz p.bj b8 b4 bc b5 fa fb key∧Rl f' e:=by
 intro W cd ca cs held ph ac hW ag;have hL:=hL W cd ca cs held hW ag;have aa:=eQ0;have ab:=eQ2;rw[aa fa,aa fb] at hL;unfold Bp Oz;rw[ab fa,ab fb];refine cG func123 fun _=>?_;repeat(refine sv ?_;intros)
 refine cX hL ?_;rintro _ _ ⟨f',e,ad,ae,cs',W',rfl,rfl,ah,hS,hR⟩;dsimp only[AA,AB];refine nx ?_;rw[aa];repeat(refine sv ?_;intros)
 (refine dP [[(p.bj,row [pv p.bw,Z9 Z8 0,.slice ph held.length ac] 98)],Ab p.bw p.bd p.ba p.bs,ad,ae,cs',[(b8,row [pv p.bj] 84)],[(b4,row [Z9 Z8 fa.first,Z9 Z8 fa.blocks,Z9 Z8 fa.width,Z9 Z8 fa.count] 42)],[(bc,row [Z9 Z8 key] 3)],[(b5,row [Z9 Z8 fb.first,Z9 Z8 fb.blocks,Z9 Z8 fb.width,Z9 Z8 fb.count] 42)]] ?_;exact⟨f',e,ad,ae,cs',W',_,rfl,rfl,ah,hS,rfl,hR⟩)
theorem Tx {p:Jp} {B m k a s0:Nat} {e:Int} {er:Option Nat} {Gf:List (Fl×List T5)} {C:Aa} (hR:Rm p B m k a) (hJ:Ao p B k a s0 e er Gf C) (f ft:Fl) (ts hts:List T5) (G':List (Fl×List T5)) (col:Nat) (a2:col<4) {b c n w bt ct wt nt:Nat} (hF:FB b c w n e f) (ao:FB bt ct wt nt e ft) (hP:Pk (f,ts) Gf G') (al:(ft,hts)∈G'∨In0 p (ft,hts)) (an:col<w) (am:w≤5) (hv:2<wt) (ae:e=0→hts.Pairwise fun a c=>a.c0<c.c0) (aq:e=0→ts.length=n) (hb:b≤1000∧c≤1000∧bt≤1000∧ct≤1000) (au:b≤c∨(w≤3∧b≤2*c)) (ag:c≤B) (hT:Cf c≤m) (hk:Gf.length+1≤k) (a3:s0≤9900):Ct AC 58 [pv p.bj,flv f,Z9 Z8 col,flv ft] [C] fun v H'=>∃g C' e',v=flv g∧H'=[C']∧Ao p B k a (s0+2) e' er ((g,Ck 2 col hts ts)::G') C'∧FB b c w n e' g∧(e'=0→e=0):=by
 have aa:=eQ0;have ad:=eQ2;have av:tv (oK col)= .agg #[Z9 Z8 ((col:Int)+1),Z9 Z8 0,Z9 Z8 0,Z9 Z8 0,Z9 Z8 0]:=rfl;have a4:AL .i64 ((col:Int)+1)=(col:Int)+1:=Ah oM;have aw:=hP.perm.length_eq;rw[AJ] at aw;have ah:=Fp hR hJ f ts G' (oK col) (aJ oM) false hF hP hb.1 ag hT oM;rw[aa,av] at ah;rw[aa,aa ft];refine cG func58 fun _=>?_;repeat(refine sA ?_;intros)
 repeat(refine sA ?_;intros)
 refine cX ah ?_;rintro _ _ ⟨g1,C1,e1,rfl,rfl,ax,ay,ab⟩;dsimp only[AA,AB];refine nx ?_;try rw[aa]
 have ai:=fun b8 b4 bc b5=>Kl hR ax 123 inferInstance g1 ft (srt (ltO (oK col)) false ts) hts col 2 col w c oA5 (al.imp (fun h=>AF _ h) id) (fun J A T az R h=>nbLook p g1 ft b8 b4 bc b5 J A T az R col h) ay (ao.mono ab) ⟨hb.1,hb.2.1,hb.2.2⟩ an hv oM oM am
  (fun _=>Wm oM _) (fun h=>ae (ab h)) au ag (by simp only[AJ];omega) oM
 simp only[Oz,ad] at ai;repeat(refine sA ?_;intros)
 refine cX (ai _ _ _ _) ?_;rintro _ _ ⟨g2,C2,e2,rfl,rfl,a0,ac,aj⟩;dsimp only[AA,AB];refine nx ?_;try rw[aa]
 have ak:=fun b=>Ia hR a0 [(g1,srt (ltO (oK col)) false ts)] ((g2,Ck 2 col hts ts)::G') (.cons (.there .here) .nil) oA19 _ 1 _ (Mr b g1);simp only[ad,AZ,CG,AA,AB] at ak;repeat(refine sA ?_;intros)
 refine cX (ak _) ?_;rintro _ _ ⟨C3,rfl,rfl,a1⟩;dsimp only[AA,AB];refine nx ?_;repeat(refine sA ?_;intros)
 (refine dP [C3] ?_;exact⟨g2,C3,e2,rfl,rfl,a1,⟨ac.cnt,ac.blk,fun h=>⟨(ac.ok h).1,by rw[(ac.ok h).2,(Bs _).length_eq,aq (ab (aj h))]⟩⟩,fun h=>ab (aj h)⟩)
theorem vL (p:Jp) (fa fb:Fl) (b8 b4 bc b5:Nat) (J:Jb) (A T:Nat) (ts:List T5) (Rl:Fl→Int→Prop) (key:Nat) (hL:Iz p J fa fb key 1 key A T ts Rl):Er p J 122 [pv b8,pv b4,pv bc,pv b5] (Oz p.bj b8 b4 bc b5 fa fb key) A T none ts fun f' e Hx'=>Hx'=Oz p.bj b8 b4 bc b5 fa fb key∧Rl f' e:=by
 intro W cd ca cs held ph ac hW ag;have hL:=hL W cd ca cs held hW ag;have aa:=eQ0;have ab:=eQ2;rw[aa fa,aa fb] at hL;unfold Bp Oz;rw[ab fa,ab fb];refine cG func122 fun _=>?_;repeat(refine sv ?_;intros)
 refine cX hL ?_;rintro _ _ ⟨f',e,ad,ae,cs',W',rfl,rfl,ah,hS,hR⟩;dsimp only[AA,AB];refine nx ?_;rw[aa];repeat(refine sv ?_;intros)
 (refine dP [[(p.bj,row [pv p.bw,Z9 Z8 0,.slice ph held.length ac] 98)],Ab p.bw p.bd p.ba p.bs,ad,ae,cs',[(b8,row [pv p.bj] 84)],[(b4,row [Z9 Z8 fa.first,Z9 Z8 fa.blocks,Z9 Z8 fa.width,Z9 Z8 fa.count] 42)],[(bc,row [Z9 Z8 key] 3)],[(b5,row [Z9 Z8 fb.first,Z9 Z8 fb.blocks,Z9 Z8 fb.width,Z9 Z8 fb.count] 42)]] ?_;exact⟨f',e,ad,ae,cs',W',_,rfl,rfl,ah,hS,rfl,hR⟩)
theorem jC {p:Jp} {B m k a s0:Nat} {e:Int} {er:Option Nat} {Gf:List (Fl×List T5)} {C:Aa} (hR:Rm p B m k a) (hJ:Ao p B k a s0 e er Gf C) (f ft:Fl) (ts hts:List T5) (G':List (Fl×List T5)) (col:Nat) (a2:col<4) {b c n w bt ct wt nt:Nat} (hF:FB b c w n e f) (ao:FB bt ct wt nt e ft) (hP:Pk (f,ts) Gf G') (al:(ft,hts)∈G'∨In0 p (ft,hts)) (an:col<w) (am:w≤5) (hv:1<wt) (ae:e=0→hts.Pairwise fun a c=>a.c0<c.c0) (aq:e=0→ts.length=n) (hb:b≤1000∧c≤1000∧bt≤1000∧ct≤1000) (au:b≤c∨(w≤3∧b≤2*c)) (ag:c≤B) (hT:Cf c≤m) (hk:Gf.length+1≤k) (a3:s0≤9900):Ct AC 57 [pv p.bj,flv f,Z9 Z8 col,flv ft] [C] fun v H'=>∃g C' e',v=flv g∧H'=[C']∧Ao p B k a (s0+2) e' er ((g,Ck 1 col hts ts)::G') C'∧FB b c w n e' g∧(e'=0→e=0):=by
 have aa:=eQ0;have ad:=eQ2;have av:tv (oK col)= .agg #[Z9 Z8 ((col:Int)+1),Z9 Z8 0,Z9 Z8 0,Z9 Z8 0,Z9 Z8 0]:=rfl;have a4:AL .i64 ((col:Int)+1)=(col:Int)+1:=Ah oM;have aw:=hP.perm.length_eq;rw[AJ] at aw;have ah:=Fp hR hJ f ts G' (oK col) (aJ oM) false hF hP hb.1 ag hT oM;rw[aa,av] at ah;rw[aa,aa ft];refine cG func57 fun _=>?_;repeat(refine sA ?_;intros)
 repeat(refine sA ?_;intros)
 refine cX ah ?_;rintro _ _ ⟨g1,C1,e1,rfl,rfl,ax,ay,ab⟩;dsimp only[AA,AB];refine nx ?_;try rw[aa]
 have ai:=fun b8 b4 bc b5=>Kl hR ax 122 inferInstance g1 ft (srt (ltO (oK col)) false ts) hts col 1 col w c oA5 (al.imp (fun h=>AF _ h) id) (fun J A T az R h=>vL p g1 ft b8 b4 bc b5 J A T az R col h) ay (ao.mono ab) ⟨hb.1,hb.2.1,hb.2.2⟩ an hv oM oM am
  (fun _=>Wm oM _) (fun h=>ae (ab h)) au ag (by simp only[AJ];omega) oM
 simp only[Oz,ad] at ai;repeat(refine sA ?_;intros)
 refine cX (ai _ _ _ _) ?_;rintro _ _ ⟨g2,C2,e2,rfl,rfl,a0,ac,aj⟩;dsimp only[AA,AB];refine nx ?_;try rw[aa]
 have ak:=fun b=>Ia hR a0 [(g1,srt (ltO (oK col)) false ts)] ((g2,Ck 1 col hts ts)::G') (.cons (.there .here) .nil) oA19 _ 1 _ (Mr b g1);simp only[ad,AZ,CG,AA,AB] at ak;repeat(refine sA ?_;intros)
 refine cX (ak _) ?_;rintro _ _ ⟨C3,rfl,rfl,a1⟩;dsimp only[AA,AB];refine nx ?_;repeat(refine sA ?_;intros)
 (refine dP [C3] ?_;exact⟨g2,C3,e2,rfl,rfl,a1,⟨ac.cnt,ac.blk,fun h=>⟨(ac.ok h).1,by rw[(ac.ok h).2,(Bs _).length_eq,aq (ab (aj h))]⟩⟩,fun h=>ab (aj h)⟩)
def Mu (ff ed:List T5):List T5:=ed.map (Bf (ff.map fun t=>⟨t.c0,1,0,0,0⟩) 0 1 3)
def Ja (ff ed:List T5):List T5:=(Mu ff ed).flatMap Jv
def Ip (tt ff ed:List T5):List T5:=Ck 2 2 tt (Ck 2 1 tt (Ja ff ed))
theorem jD (t:T5):(Jv t).length≤1:=by unfold Jv;split<;>(try split)<;>simp
theorem jE (ff ed:List T5):(Ja ff ed).length≤ed.length:=by have h:=Sf (f:=Jv) (n:=1) (Mu ff ed) fun t _=>jD t;unfold Ja;unfold Mu at h⊢;rw[AR] at h;omega
theorem jF (tt ff ed:List T5):(Ip tt ff ed).length≤ed.length:=by unfold Ip;rw[Ib,Ib];exact jE ff ed
theorem vM {ff:List T5} (h:∀t∈ff,okT 3 t):∀t∈ff.map (fun t=>(⟨t.c0,1,0,0,0⟩:T5)),okT 2 t:=by intro t ht;obtain⟨u,hu,rfl⟩:=AN.1 ht;exact Hk (Dp (h u hu)).1 Oc
theorem jG {ff ed:List T5} (hf:∀t∈ff,okT 3 t) (he:∀t∈ed,okT 3 t):∀t∈Mu ff ed,okT 4 t:=by intro t ht;unfold Mu at ht;obtain⟨u,hu,rfl⟩:=AN.1 ht;exact Ly (vM hf) 0 1 3 oM (he u hu)
theorem vN {ff ed:List T5} (hf:∀t∈ff,okT 3 t) (he:∀t∈ed,okT 3 t):∀t∈Ja ff ed,okT 3 t:=by
 intro t ht;unfold Ja at ht;obtain⟨u,hu,ht⟩:=List.mem_flatMap.1 ht;have ti:=Dp (jG hf he u hu);unfold Jv at ht;split at ht
 ·cases ht
 ·split at ht
  ·cases ht
  ·rw[AW] at ht;subst ht;exact Iv ti.1 ti.2.1 ti.2.2.1
theorem vO {tt ff ed:List T5} (ht:∀t∈tt,okT 5 t) (hf:∀t∈ff,okT 3 t) (he:∀t∈ed,okT 3 t):∀t∈Ip tt ff ed,okT 3 t:=
 Oy ht (Oy ht (vN hf he) 2 1 oM oM) 2 2 oM oM
theorem vP {p:Jp} {B m k a s0:Nat} {e:Int} {er:Option Nat} {Gf:List (Fl×List T5)} {C:Aa} (hR:Rm p B m k a) (hJ:Ao p B k a s0 e er Gf C) (tf ff ef:Fl) (tt fl ed:List T5) (h1:In0 p (tf,tt)) (h2:In0 p (ff,fl)) (h3:In0 p (ef,ed)) (ak:tf.width=5) (au:ff.width=3) (aj:ef.width=3) (c:Nat) (bk:ff.count≤2*c) (bp:ef.count≤2*c) (hct:tf.count≤1000) (hc:c≤500) (ac:c≤B) (hT:Cf c≤m) (ht:tt.Pairwise fun a c=>a.c0<c.c0) (hf:fl.Pairwise fun a c=>a.c0<c.c0) (he:ed.Pairwise fun a c=>a.c0≤c.c0) (av:ef.count≤B) (hk:Gf.length+3≤k) (bq:s0≤9000):Ct AC 76 [pv p.bj,flv tf,flv ff,flv ef] [C] fun v H'=>∃g C' e',v=flv g∧H'=[C']∧Ao p B k a (s0+7) e' er ((g,Ip tt fl ed)::Gf) C'∧FB ef.count c 3 (Ip tt fl ed).length e' g∧(e'=0→e=0):=by
 have aa:=eQ0;have ab:=eQ2;obtain⟨t1,t2,t3,t4,t5⟩:=Kk h1;obtain⟨f1,f2,f3,f4,f5⟩:=Kk h2;obtain⟨d1,d2,d3,d4,d5⟩:=Kk h3;dsimp only at t1 t2 t3 t4 t5 f1 f2 f3 f4 f5 d1 d2 d3 d4 d5;have hp:=hR.ok;have hB:=hR.bs;have aw:tf.blocks≤tf.count:=by rw[t3];exact Dl (Bh hp.size.1 t4 t5)
 have bu:ff.blocks≤ff.count:=by rw[f3];exact Dl (Bh hp.size.1 f4 f5)
 have ax:ef.blocks≤ef.count:=by rw[d3];exact Dl (Bh hp.size.1 d4 d5)
 rw[ak] at t2;rw[au] at f2;rw[aj] at d2;have al:∀e,FB tf.count tf.count 5 tf.count e tf:=fun e=>⟨AI _,aw,fun _=>⟨ak,rfl⟩⟩
 have ay:∀e,FB ef.count ef.count 3 ef.count e ef:=fun e=>⟨AI _,ax,fun _=>⟨aj,rfl⟩⟩
 have ad:=fun b=>Fy hR hJ [] lwMF 2 ff.count c 1 oM 132 inferInstance [] (okT 3) lwM (fun t _=>AI _) oM ff fl (.inr h2) oM (fun _=>f2)
  (fun h=>by rw[El (f:=lwMF) (g:=fun t=>⟨t.c0,1,0,0,0⟩) (fun _=>rfl),AR];omega) (.inr ⟨oM,oM⟩) ac oM oM b
 simp only[ab] at ad;rw[El (f:=lwMF) (g:=fun t=>⟨t.c0,1,0,0,0⟩) (fun _=>rfl)] at ad;rw[aa tf,aa ff,aa ef];refine cG func76 fun w0=>?_;repeat(refine sA ?_;intros)
 repeat(refine sA ?_;intros)
 refine cX (ad _) ?_;rintro _ _ ⟨g1,C1,e1,rfl,rfl,az,ae,a0⟩;dsimp only[AA,AB];refine nx ?_;try rw[aa]
 have bf:=ae.cnt;have bg:=ae.blk;have ag:=fun b8 b4 b5=>Kl hR az 133 inferInstance ef g1 ed (fl.map fun t=>⟨t.c0,1,0,0,0⟩) 0 1 3 4 B (.inr h3) oA5 (lwL _ ef g1 b8 b4 b5) (ay e1) ae oM oM oM oM oM oM
  (fun _=>he) (fun _=>by rw[List.pairwise_map];exact hf) (.inl av) (AI _) oA12 oM
 simp only[Cu,ab] at ag;rw[show ed.map (Bf (fl.map fun t=>⟨t.c0,1,0,0,0⟩) 0 1 3)=Mu fl ed from rfl] at ag;repeat(refine sA ?_;intros)
 refine cX (ag _ _ _) ?_;rintro _ _ ⟨g2,C2,e2,rfl,rfl,a1,am,a2⟩;dsimp only[AA,AB];refine nx ?_;try rw[aa]
 have bh:=am.cnt;have bi:=am.blk;have ah:=fun b=>Fy hR a1 [] Jv 3 ef.count c 1 oM 134 inferInstance [] (okT 4) lwR (fun t _=>jD t) oM g2 (Mu fl ed) oA5 oM (fun _=>jG f2 d2)
  (fun h=>by have:=jE fl ed;unfold Ja at this;omega) (.inr ⟨oM,oM⟩) ac oA12 oM b
 simp only[ab] at ah;rw[show(Mu fl ed).flatMap Jv=Ja fl ed from rfl] at ah;repeat(refine sA ?_;intros)
 refine cX (ah _) ?_;rintro _ _ ⟨g3,C3,e3,rfl,rfl,a3,a4,a5⟩;dsimp only[AA,AB];refine nx ?_;try rw[aa]
 have an:=fun b=>Ia hR a3 [(g1,fl.map fun t=>⟨t.c0,1,0,0,0⟩),(g2,Mu fl ed)] ((g3,Ja fl ed)::Gf) (.cons (.there (.there .here)) (.cons (.there .here) .nil)) oA19 _ 2 _ (Nq b g1 g2);simp only[ab,AZ,CG,AA,AB] at an;repeat(refine sA ?_;intros)
 refine cX (an _) ?_;rintro _ _ ⟨C4,rfl,rfl,a6⟩;dsimp only[AA,AB];refine nx ?_;have ao:=Tx hR a6 g3 tf (Ja fl ed) tt Gf 1 oM a4 (al e3) .here (.inr h1) oM oM oM (fun _=>ht) (fun _=>rfl) oM (.inr ⟨oM,oM⟩) ac hT oA12 oM;rw[aa g3,aa tf] at ao;repeat(refine sA ?_;intros)
 refine cX ao ?_;rintro _ _ ⟨g5,C5,e5,rfl,rfl,a7,a8,a9⟩;dsimp only[AA,AB];refine nx ?_;try rw[aa]
 have aq:=Tx hR a7 g5 tf (Ck 2 1 tt (Ja fl ed)) tt Gf 2 oM a8 (al e5) .here (.inr h1) oM oM oM (fun _=>ht) (fun _=>Ib _ _ _ _) oM (.inr ⟨oM,oM⟩) ac hT oA12 oM;rw[aa g5,aa tf] at aq;repeat(refine sA ?_;intros)
 refine cX aq ?_;rintro _ _ ⟨g6,C6,e6,rfl,rfl,bc,ai,be⟩;dsimp only[AA,AB];refine nx ?_;try rw[aa]
 repeat(refine sA ?_;intros)
 (refine dP [C6] ?_;exact⟨g6,C6,e6,rfl,rfl,bc,⟨ai.cnt,ai.blk,fun h=>by rw[show(Ip tt fl ed).length=(Ja fl ed).length by unfold Ip;rw[Ib,Ib]];exact ai.ok h⟩,fun h=>a0 (a2 (a5 (a9 (be h))))⟩)
section
variable {P:Program} {ops:Array Oper} {Q:Exit→Act→World→Prop} {cls:Nat→Oper→Cls} {w0:World} {S:List Nat} {n:Nat} {l:List (Nat×Oper)} {L:Bb} {D:List Deferred} {H:Hp} {qs:List Rd} {k d:Nat} {ty:TypeId} {pos:String} {af:Array Edge} {g:Option (Nat×Bool)}
end
end Go.Proofs.YtaofijjjheiknaaGreat
namespace Go.Gr
abbrev Ed:=Nat×Nat
def Jn (g:Nat→Ed) (S:Nat→Prop) (x y:Nat):Prop:=∃i,S i∧((g i).1=x∧(g i).2=y∨(g i).1=y∧(g i).2=x)
inductive Cn (g:Nat→Ed) (S:Nat→Prop):Nat→Nat→Prop
 |refl (a:Nat):Cn g S a a
 |step {a b c:Nat}:Cn g S a b→Jn g S b c→Cn g S a c
variable {g:Nat→Ed} {S S':Nat→Prop}
theorem Jn.symm {x y:Nat} (h:Jn g S x y):Jn g S y x:=let ⟨i,h1,h2⟩:=h;⟨i,h1,h2.symm⟩
theorem Jn.mono {x y:Nat} (h:Jn g S x y) (hs:∀i,S i→S' i):Jn g S' x y:=let ⟨i,h1,h2⟩:=h;⟨i,hs i h1,h2⟩
theorem Cn.one {x y:Nat} (h:Jn g S x y):Cn g S x y:= .step (.refl x) h
theorem Cn.trans {a b c:Nat} (h:Cn g S a b) (h2:Cn g S b c):Cn g S a c:=by
 induction h2 with
 |refl=>exact h
 |step _ hj ih=>exact .step ih hj
theorem Cn.symm {a b:Nat} (h:Cn g S a b):Cn g S b a:=by
 induction h with
 |refl=>exact .refl _
 |step _ hj ih=>exact(Cn.one hj.symm).trans ih
theorem Cn.mono {a b:Nat} (h:Cn g S a b) (hs:∀i,S i→S' i):Cn g S' a b:=by
 induction h with
 |refl=>exact .refl _
 |step _ hj ih=>exact .step ih (hj.mono hs)
theorem Cn.edge {i:Nat} (h:S i):Cn g S (g i).1 (g i).2:= .one ⟨i,h,.inl ⟨rfl,rfl⟩⟩
theorem Cn.sub {a b:Nat} (h:Cn g S a b) (hs:∀i,S i→Cn g S' (g i).1 (g i).2):Cn g S' a b:=by
 induction h with
 |refl=>exact .refl _
 |step _ hj ih=>
  obtain⟨i,h1,⟨rfl,rfl⟩|⟨rfl,rfl⟩⟩:=hj
  ·exact ih.trans (hs i h1)
  ·exact ih.trans (hs i h1).symm
theorem Cn.congr {a b:Nat} (hs:∀i,S i↔S' i):Cn g S a b↔Cn g S' a b:=⟨fun h=>h.mono fun i=>(hs i).1,fun h=>h.mono fun i=>(hs i).2⟩
theorem Cn.stay {a b:Nat} (h:Cn g S a b) {X:Nat→Prop} (ha:X a) (hx:∀i,S i→(X (g i).1↔X (g i).2)):X b:=by
 induction h with
 |refl=>exact ha
 |step _ hj ih=>
  obtain⟨i,h1,⟨rfl,rfl⟩|⟨rfl,rfl⟩⟩:=hj
  ·exact(hx i h1).1 ih
  ·exact(hx i h1).2 ih
theorem Cn.add {i a b:Nat} (h:Cn g (fun j=>S j∨j=i) a b):Cn g S a b∨(Cn g S a (g i).1∧Cn g S (g i).2 b)∨(Cn g S a (g i).2∧Cn g S (g i).1 b):=by
 induction h with
 |refl=>exact .inl (.refl _)
 |step _ hj ih=>
  obtain⟨j,h1|rfl,h2⟩:=hj
  ·have hj:Cn g S _ _:= .one ⟨j,h1,h2⟩;rcases ih with ih|⟨i1,i2⟩|⟨i1,i2⟩
   ·exact .inl (ih.trans hj)
   ·exact .inr (.inl ⟨i1,i2.trans hj⟩)
   ·exact .inr (.inr ⟨i1,i2.trans hj⟩)
  ·rcases h2 with⟨rfl,rfl⟩|⟨rfl,rfl⟩
   ·rcases ih with ih|⟨i1,i2⟩|⟨i1,i2⟩
    ·exact .inr (.inl ⟨ih,.refl _⟩)
    ·exact .inr (.inl ⟨i1,.refl _⟩)
    ·exact .inl i1
   ·rcases ih with ih|⟨i1,i2⟩|⟨i1,i2⟩
    ·exact .inr (.inr ⟨ih,.refl _⟩)
    ·exact .inl i1
    ·exact .inr (.inr ⟨i1,.refl _⟩)
theorem Cn.bound {a b:Nat} (h:Cn g S a b):∃n,Cn g (fun j=>S j∧j<n) a b:=by
 induction h with
 |refl=>exact⟨0,.refl _⟩
 |step _ hj ih=>
  obtain⟨n,ih⟩:=ih;obtain⟨i,h1,h2⟩:=hj;exact⟨max n (i+1),.step (ih.mono fun j ⟨a,b⟩=>⟨a,oM⟩) ⟨i,⟨h1,oM⟩,h2⟩⟩
def Kr (g:Nat→Ed) (S:Nat→Prop) (i:Nat):Prop:=S i∧¬Cn g (fun j=>S j∧j<i) (g i).1 (g i).2
theorem Kr.conn_lt:∀(n:Nat) {a b:Nat},Cn g (fun j=>S j∧j<n) a b↔Cn g (fun j=>Kr g S j∧j<n) a b
 |0,a,b=>Cn.congr fun i=>by simp
 |n+1,a,b=>by
  refine⟨fun h=>?_,fun h=>h.mono fun i ⟨h1,h2⟩=>⟨h1.1,h2⟩⟩;refine h.sub fun i ⟨h1,h2⟩=>?_;by_cases hk:Kr g S i
  ·exact Cn.edge ⟨hk,h2⟩
  ·have h3:Cn g (fun j=>S j∧j<i) (g i).1 (g i).2:=by
    by_cases h4:Cn g (fun j=>S j∧j<i) (g i).1 (g i).2
    ·exact h4
    ·exact absurd ⟨h1,h4⟩ hk
   have h5:Cn g (fun j=>S j∧j<n) (g i).1 (g i).2:=h3.mono fun j ⟨a,b⟩=>⟨a,oM⟩
   exact((Kr.conn_lt n).1 h5).mono fun j ⟨a,b⟩=>⟨a,oM⟩
theorem Kr.conn {a b:Nat}:Cn g S a b↔Cn g (Kr g S) a b:=by refine⟨fun h=>?_,fun h=>h.mono fun i h=>h.1⟩;obtain⟨n,h⟩:=h.bound;exact((Kr.conn_lt n).1 h).mono fun i h=>h.1
theorem Kr.bridge_lt:∀(n i:Nat),i<n→Kr g S i→¬Cn g (fun j=>Kr g S j∧j<n∧j≠i) (g i).1 (g i).2
 |0,_,h,_=>by omega
 |n+1,i,h,hk=>by
  intro hc;by_cases ad:i=n
  ·subst ad;exact hk.2 (hc.mono fun j ⟨h1,h2,h3⟩=>⟨h1.1,oM⟩)
  ·have hi:i<n:=oM;by_cases ab:Kr g S n
   ·have ae:Cn g (fun j=>(Kr g S j∧j<n∧j≠i)∨j=n) (g i).1 (g i).2:=hc.mono fun j ⟨h1,h2,h3⟩=>by
     by_cases hj:j=n
     ·exact .inr hj
     ·exact .inl ⟨h1,oM,h3⟩
    have aa:∀{x y:Nat},Cn g (fun j=>Kr g S j∧j<n∧j≠i) x y→Cn g (fun j=>S j∧j<n) x y:=fun h=>h.mono fun j ⟨h1,h2,_⟩=>⟨h1.1,h2⟩
    have ac:Cn g (fun j=>S j∧j<n) (g i).1 (g i).2:=Cn.edge ⟨hk.1,hi⟩;rcases ae.add with h1|⟨h1,h2⟩|⟨h1,h2⟩
    ·exact Kr.bridge_lt n i hi hk h1
    ·exact ab.2 (((aa h1).symm.trans ac).trans (aa h2).symm)
    ·exact ab.2 (((aa h2).trans ac.symm).trans (aa h1))
   ·refine Kr.bridge_lt n i hi hk (hc.mono fun j ⟨h1,h2,h3⟩=>⟨h1,?_,h3⟩);have:j≠n:=fun e=>ab (e▸h1);omega
theorem Kr.bridge {i:Nat} (hk:Kr g S i):¬Cn g (fun j=>Kr g S j∧j≠i) (g i).1 (g i).2:=by intro h;obtain⟨n,h⟩:=h.bound;exact Kr.bridge_lt (max n (i+1)) i oM hk (h.mono fun j ⟨⟨a,b⟩,c⟩=>⟨a,oM,b⟩)
theorem vQ {F C:Nat→Prop} (hb:∀i,F i→¬Cn g (fun j=>F j∧j≠i) (g i).1 (g i).2) (hc:∀i,C i→F i) (hj:∀i,F i→Cn g C (g i).1 (g i).2) (i:Nat) (h:F i):C i:=by
 cases Classical.propDecidable (C i) with
 |isTrue h=>exact h
 |isFalse hn=>exact absurd ((hj i h).mono fun j hj=>⟨hc j hj,fun e=>hn (e▸hj)⟩) (hb i h)
theorem Kr.cut {X:Nat→Prop} {i:Nat} (hs:S i) (hx:¬(X (g i).1↔X (g i).2)) (hm:∀j,S j→j<i→(X (g j).1↔X (g j).2)):Kr g S i:=by
 refine⟨hs,fun h=>hx ⟨fun h1=>?_,fun h1=>?_⟩⟩
 ·exact h.stay h1 fun j hj=>hm j hj.1 hj.2
 ·exact h.symm.stay h1 fun j hj=>hm j hj.1 hj.2
end Go.Gr
namespace Go.Proofs.YtaofijjjheiknaaGreat
open Go.Gr
inductive Fo where
 |nil
 |node (v:Nat) (s r:Fo)
def Fo.sz:Fo→Nat
 | .nil=>0
 | .node _ s r=>s.sz+1+r.sz
def Fo.vs:Fo→List Nat
 | .nil=>[]
 | .node v s r=>v::(s.vs++r.vs)
theorem Fo.vs_len:∀T:Fo,T.vs.length=T.sz
 | .nil=>rfl
 | .node v s r=>by simp only[Fo.vs,Fo.sz,AJ,AH,s.vs_len,r.vs_len];omega
structure Tw (g:Nat→Ed) (F:Nat→Prop) (P:Nat) (vt ed bro:Nat→Nat):Prop where
 mem:∀k,k<P→F (ed k)
 ends:∀k,k<P→((g (ed k)).1=vt k∧(g (ed k)).2=vt (k+1)∨(g (ed k)).1=vt (k+1)∧(g (ed k)).2=vt k)
 round:vt P=vt 0
 bro_lt:∀k,k<P→bro k<P
 bro_ne:∀k,k<P→bro k≠k
 bro_bro:∀k,k<P→bro (bro k)=k
 bro_from:∀k,k<P→vt (bro k)=vt (k+1)
 bro_to:∀k,k<P→vt (bro k+1)=vt k
 uniq:∀j k,j<P→k<P→ed j=ed k→j=k∨j=bro k
 bridge:∀i,F i→¬Cn g (fun j=>F j∧j≠i) (g i).1 (g i).2
namespace Tw
variable {g:Nat→Ed} {F:Nat→Prop} {P:Nat} {vt ed bro:Nat→Nat}
theorem join (h:Tw g F P vt ed bro) {k:Nat} (hk:k<P) {e:Nat} (aa:ed k≠e):Cn g (fun j=>F j∧j≠e) (vt k) (vt (k+1)):= .one ⟨ed k,⟨h.mem k hk,aa⟩,h.ends k hk⟩
theorem walk (h:Tw g F P vt ed bro) {e j:Nat}:∀{k:Nat},j≤k→k≤P→(∀n,j≤n→n<k→ed n≠e)→Cn g (fun i=>F i∧i≠e) (vt j) (vt k)
 |0,hj,_,_=>by
  obtain rfl:j=0:=by omega
  exact .refl _
 |k+1,hj,hk,hn=>by
  rcases Nat.eq_or_lt_of_le hj with rfl|aa
  ·exact .refl _
  ·exact(h.walk (k:=k) oM oM fun n h1 h2=>hn n h1 oM).trans (h.join oM (hn k oM oM))
theorem apart (h:Tw g F P vt ed bro) {k:Nat} (hk:k<P):¬Cn g (fun j=>F j∧j≠ed k) (vt k) (vt (k+1)):=by
 intro hc;rcases h.ends k hk with⟨h1,h2⟩|⟨h1,h2⟩
 ·exact h.bridge _ (h.mem k hk) (by rw[h1,h2];exact hc)
 ·exact h.bridge _ (h.mem k hk) (by rw[h1,h2];exact hc.symm)
theorem first (h:Tw g F P vt ed bro) {p j:Nat} (hp:p<P) (hd:p<bro p) (hj:j≤p):vt j≠vt (p+1):=by intro he;refine h.apart hp ?_;rw[←he];refine(h.walk hj oM ?_).symm;intro n h1 h2 hq;rcases h.uniq n p oM hp hq with h3|h3<;>omega
theorem again (h:Tw g F P vt ed bro) {p:Nat} (hp:p<P) (hu:¬p<bro p):∃j,j≤p∧vt j=vt (p+1):=⟨bro p,oM,h.bro_from p hp⟩
theorem down_inj (h:Tw g F P vt ed bro) {p q:Nat} (hp:p<P) (hq:q<P) (aa:p<bro p) (ab:q<bro q) (he:vt (p+1)=vt (q+1)):p=q:=by
 rcases CK p q with h1|h1|h1
 ·exact(h.first hq ab (show p+1≤q by omega) he).elim
 ·exact h1
 ·exact(h.first hp aa (show q+1≤p by omega) he.symm).elim
theorem down_of (h:Tw g F P vt ed bro):∀{j:Nat},j≤P→vt j≠vt 0→∃p,p<j∧p<bro p∧vt (p+1)=vt j:=by
 intro j;induction j using Nat.strongRecOn with
 |ind j ih=>
  intro hj aa
  match j,aa with
  |0,aa=>exact(aa rfl).elim
  |j+1,aa=>
   by_cases hd:j<bro j
   ·exact⟨j,oM,hd,rfl⟩
   ·have h1:=h.bro_ne j oM;have h2:=h.bro_from j oM;obtain⟨p,p1,p2,p3⟩:=ih (bro j) oM oM (by rw[h2];exact aa);exact⟨p,oM,p2,by rw[p3,h2]⟩
theorem nocross (h:Tw g F P vt ed bro) {p a:Nat} (hp:p<P) (h1:p<a) (h2:a<bro p):p<bro a∧bro a<bro p:=by
 have hb:=h.bro_lt p hp;have ha:a<P:=oM;have aa:∀n,n<P→n≠p→n≠bro p→ed n≠ed p:=fun n hn e1 e2 hq=>by
  rcases h.uniq n p hn hp hq with h3|h3
  ·exact e1 h3
  ·exact e2 h3
 have ac:bro a≠p:=fun hq=>by have:=h.bro_bro a ha;rw[hq] at this;omega
 have ab:bro a≠bro p:=fun hq=>by have:=h.bro_bro a ha;rw[hq,h.bro_bro p hp] at this;omega
 have hV:Cn g (fun i=>F i∧i≠ed p) (vt (p+1)) (vt a):=h.walk oM oM fun n h3 h4=>aa n oM oM oM;have ad:=h.bro_lt a ha;rcases CK (bro a) p with h3|h3|h3
 ·exfalso;refine h.apart hp (Cn.symm (hV.trans ?_));rw[←h.bro_to a ha];exact h.walk oM oM fun n h4 h5=>aa n oM oM oM
 ·exact(ac h3).elim
 rcases CK (bro a) (bro p) with h4|h4|h4
 ·exact⟨h3,h4⟩
 ·exact(ab h4).elim
 ·exfalso;refine h.apart hp (Cn.symm ((hV.trans (h.join ha (aa a ha oM oM))).trans ?_));rw[←h.bro_from a ha];have e1:Cn g (fun i=>F i∧i≠ed p) (vt (bro a)) (vt P):=h.walk oM oM fun n h5 h6=>aa n oM oM oM;rw[h.round] at e1;exact e1.trans (h.walk oM oM fun n h5 h6=>aa n oM oM oM)
end Tw
def Iq (P:Nat) (vt bro:Nat→Nat):Fo→Nat→Nat→Prop
 | .nil,p,q=>p=q
 | .node v s r,p,q=>p<P∧p<bro p∧bro p<P∧vt (p+1)=v∧bro (bro p)=p∧vt (bro p+1)=vt p∧Iq P vt bro s (p+1) (bro p)∧Iq P vt bro r (bro p+1) q
theorem Tw.build {g:Nat→Ed} {F:Nat→Prop} {P:Nat} {vt ed bro:Nat→Nat} (h:Tw g F P vt ed bro):∀(m p q:Nat),q=p+m→q≤P→(∀n,p≤n→n<q→p≤bro n∧bro n<q)→∃T,Iq P vt bro T p q:=by
 intro m;induction m using Nat.strongRecOn with
 |ind m ih=>
  intro p q hq hP hc
  match m,ih with
  |0,_=>exact⟨.nil,by simpa[Iq] using hq.symm⟩
  |m+1,ih=>
   have hp:p<P:=oM;have h1:=hc p oM oM;have h2:=h.bro_ne p hp;obtain⟨s,hs⟩:=ih (bro p-(p+1)) oM (p+1) (bro p) oM oM (fun n h3 h4=>by
    have:=h.nocross hp (show p<n by omega) h4;omega)
   obtain⟨r,hr⟩:=ih (q-(bro p+1)) oM (bro p+1) q oM oM (fun n h3 h4=>by
    have h5:=hc n oM h4;have hn:n<P:=oM;refine⟨?_,h5.2⟩;rcases Nat.lt_or_ge (bro p) (bro n) with h6|h6
    ·omega
    ·exfalso;have e1:=h.bro_bro n hn;by_cases h7:bro n=p
     ·rw[h7] at e1;omega
     ·by_cases h8:bro n=bro p
      ·rw[h8,h.bro_bro p hp] at e1;omega
      ·have:=h.nocross hp (a:=bro n) oM oM;omega)
   exact⟨.node (vt (p+1)) s r,hp,oM,h.bro_lt p hp,rfl,h.bro_bro p hp,h.bro_to p hp,hs,hr⟩
theorem Tw.trees {g:Nat→Ed} {F:Nat→Prop} {P:Nat} {vt ed bro:Nat→Nat} (h:Tw g F P vt ed bro):∃T,Iq P vt bro T 0 P:=h.build P 0 P oM (AI _) fun n _ hn=>⟨oM,h.bro_lt n hn⟩
theorem Iq.len {P:Nat} {vt bro:Nat→Nat}:∀{T:Fo} {p q:Nat},Iq P vt bro T p q→q=p+2*T.sz
 | .nil,p,q,h=>by simp only[Iq] at h;simp[Fo.sz,h]
 | .node v s r,p,q,h=>by obtain⟨_,_,_,_,_,_,h1,h2⟩:=h;have e1:=h1.len;have e2:=h2.len;simp only[Fo.sz];omega
theorem Iq.vs_mem {P:Nat} {vt bro:Nat→Nat}:∀{T:Fo} {p q:Nat},Iq P vt bro T p q→∀x,x∈T.vs↔∃k,p≤k∧k<q∧k<bro k∧vt (k+1)=x
 | .nil,p,q,h,x=>by
  simp only[Iq] at h;simp only[Fo.vs,List.not_mem_nil,false_iff];rintro⟨k,h1,h2,_⟩;omega
 | .node v s r,p,q,h,x=>by
  obtain⟨hp,hd,ab,hv,aa,_,h1,h2⟩:=h;have e1:=h1.len;have e2:=h2.len;simp only[Fo.vs,AM,AS,h1.vs_mem x,h2.vs_mem x];constructor
  ·rintro(rfl|⟨k,k1,k2,k3,k4⟩|⟨k,k1,k2,k3,k4⟩)
   ·exact⟨p,oM,oM,hd,hv⟩
   ·exact⟨k,oM,oM,k3,k4⟩
   ·exact⟨k,oM,oM,k3,k4⟩
  ·rintro⟨k,k1,k2,k3,k4⟩;by_cases h3:k=p
   ·subst h3;exact .inl (k4.symm.trans hv)
   ·by_cases h4:k<bro p
    ·exact .inr (.inl ⟨k,oM,h4,k3,k4⟩)
    ·by_cases h5:k=bro p
     ·subst h5;rw[aa] at k3;omega
     ·exact .inr (.inr ⟨k,oM,k2,k3,k4⟩)
theorem Tw.vs_nodup {g:Nat→Ed} {F:Nat→Prop} {P:Nat} {vt ed bro:Nat→Nat} (hT:Tw g F P vt ed bro):∀{T:Fo} {p q:Nat},q≤P→Iq P vt bro T p q→T.vs.Nodup
 | .nil,_,_,_,_=>by simp[Fo.vs]
 | .node v s r,p,q,hq,h=>by
  obtain⟨hp,hd,ab,hv,ac,_,h1,h2⟩:=h;have e1:=h1.len;have e2:=h2.len;simp only[Fo.vs,List.nodup_cons,AS,List.nodup_append];refine⟨?_,hT.vs_nodup oM h1,hT.vs_nodup hq h2,?_⟩
  ·rw[h1.vs_mem,h2.vs_mem];rintro(⟨k,k1,k2,k3,k4⟩|⟨k,k1,k2,k3,k4⟩)
   ·have:=hT.down_inj hp oM hd k3 (hv.trans k4.symm);omega
   ·have:=hT.down_inj hp oM hd k3 (hv.trans k4.symm);omega
  ·intro x hx y hy aa;subst aa;obtain⟨k,k1,k2,k3,k4⟩:=(h1.vs_mem x).1 hx;obtain⟨j,j1,j2,j3,j4⟩:=(h2.vs_mem x).1 hy;have:=hT.down_inj oM oM k3 j3 (k4.trans j4.symm);omega
def Fo.Jo (J:Int→Nat→Prop):Int→Fo→Prop
 |_,.nil=>True
 |u,.node v s r=>J u v∧s.Jo J (v:Int)∧r.Jo J u
theorem Iq.jo {P:Nat} {vt bro:Nat→Nat} {J:Int→Nat→Prop} (hJ:∀k,k<P→J (vt k:Int) (vt (k+1))):∀{T:Fo} {p q:Nat},Iq P vt bro T p q→T.Jo J (vt p)
 | .nil,_,_,_=>trivial
 | .node v s r,p,q,h=>by obtain⟨hp,hd,ab,rfl,ac,aa,h1,h2⟩:=h;refine⟨hJ p hp,h1.jo hJ,?_⟩;have:=h2.jo hJ;rwa[aa] at this
open Go.SL Go.Tup
section
variable {α:Type} {f:α→List Value} {k:Nat}
theorem Km (hf:∀a,(f a).length=k):∀l:List α,(l.flatMap f).length=l.length*k
 |[]=>by simp
 |a::l=>by rw[A7,AH,hf,Km hf l,AJ,BH];omega
theorem jH (hf:∀a,(f a).length=k):∀(l:List α) (i:Nat),(l.flatMap f).drop (i*k)=(l.drop i).flatMap f
 |[],i=>by simp
 |a::l,0=>by simp
 |a::l,i+1=>by rw[A7,List.drop_succ_cons,←jH hf l i,show(i+1)*k=(f a).length+i*k by rw[hf,BH];omega,List.drop_append];simp
theorem jI (hf:∀a,(f a).length=k) {l:List α} {i:Nat} {a:α} (h:l[i]? =some a):((l.flatMap f).drop (i*k)).take k=f a:=by obtain⟨hi,rfl⟩:=AK.1 h;rw[jH hf,BO hi,A7,List.take_left' (hf _)]
theorem aK (hf:∀a,(f a).length=k) {l:List α} {i:Nat} {a:α} (h:l[i]? =some a) (rest:List Value):((l.flatMap f++rest).drop (i*k)).take k=f a:=by obtain⟨hi,_⟩:=AK.1 h;have hl:=Km hf l;have h1:(i+1)*k≤l.length*k:=BB _ hi;rw[BH] at h1;rw[List.drop_append_of_le_length oM,List.take_append_of_le_length (by rw[List.length_drop];omega),jI hf h]
theorem jJ (hf:∀a,(f a).length=k) {l:List α} {i j:Nat} {a:α} {v:Value} (h:l[i]? =some a) (hj:(f a)[j]? =some v) (rest:List Value):(l.flatMap f++rest)[i*k+j]? =some v:=by
 have h1:=aK hf h rest;have aa:j<k:=by have:=(AK.1 hj).1;rw[hf] at this;exact this
 have h2:=congrArg (fun l=>l[j]?) h1;simp only[BW,if_pos aa,BS] at h2;rw[h2,hj]
theorem aL (hf:∀a,(f a).length=k) (l:List α) (i:Nat) (b:α) (rest:List Value) (h:i<l.length):Bq (l.flatMap f++rest) (i*k) (f b)=(l.set i b).flatMap f++rest:=by
 obtain⟨l1,a,l2,rfl,aa⟩:∃l1 a l2,l=l1++a::l2∧l1.length=i:=⟨l.take i,l[i],l.drop (i+1),by rw[←BO h,List.take_append_drop],by simp;omega⟩
 subst aa;have h1:=Km hf l1;rw[Lm _ _ _ (by simp only[CJ,A7,AH,Km hf,hf];omega)];rw[List.set_append_right _ _ (AI _),Nat.sub_self,List.set_cons_zero];simp only[CJ,A7,List.append_assoc];rw[←h1,List.take_left,hf];congr 2;rw[←List.drop_drop,List.drop_left,←hf a,List.drop_left]
theorem vR {cs xs:List Value} {off m i:Nat} {v:Value} (h:(cs.drop off).take m=xs) (hv:xs[i]? =some v):cs[off+i]? =some v:=by
 rw[←h,BW] at hv;split at hv
 ·rwa[BS] at hv
 ·cases hv
theorem vS {cs xs vs:List Value} {off m i q:Nat} (h:(cs.drop off).take m=xs) (hv:(xs.drop i).take q=vs) (hq:vs.length=q):(cs.drop (off+i)).take q=vs:=by
 rw[←h,List.drop_take,List.drop_drop,List.take_take] at hv;have h1:(vs.length:Nat)≤m-i:=by rw[←hv,List.length_take];omega
 rw[show min q (m-i)=q by omega] at hv;exact hv
def Rw (f:α→List Value) (k:Nat) (p:Option Addr) (m:Nat) (xs:List α) (c:Aa):Prop:=
 xs.length=m∧((m=0∧c=[])∨∃b off cs T fz,p=some ⟨b,off,none⟩∧c=[(b,An cs T fz)]∧(cs.drop off).take (m*k)=xs.flatMap f)
theorem Rw.pos (hf:∀a,(f a).length=k) {p:Option Addr} {m:Nat} {xs:List α} {c:Aa} (h:Rw f k p m xs c) (hm:0<m):∃b off cs T fz,p=some ⟨b,off,none⟩∧c=[(b,An cs T fz)]∧(∀i a,xs[i]? =some a→(cs.drop (off+i*k)).take k=f a)∧∀i j a v,xs[i]? =some a→(f a)[j]? =some v→cs[off+i*k+j]? =some v:=by
 obtain⟨hl,⟨h0,_⟩|⟨b,off,cs,T,fz,rfl,rfl,h⟩⟩:=h
 ·omega
 ·refine⟨b,off,cs,T,fz,rfl,rfl,fun i a hi=>vS h (jI hf hi) (hf a),fun i j a v hi hj=>?_⟩;have:=jJ hf hi hj [];rw[AQ] at this;rw[Nat.add_assoc];exact vR h this
theorem Rw.ofVec (hf:∀a,(f a).length=k) {E:Nat} {p:Option Addr} {m cap:Nat} {xs:List α} {c:Aa} (h:Vec E k p m cap (xs.flatMap f) c) (hk:0<k):Rw f k p m xs c:=by
 have hl:xs.length=m:=by have:=h.1;rw[Km hf] at this;exact Nat.eq_of_mul_eq_mul_right hk this
 rcases h.2 with⟨_,h0,_,hc⟩|⟨b,rest,hp,hc,_,_,_⟩
 ·exact⟨hl,.inl ⟨h0,hc⟩⟩
 ·refine⟨hl,.inr ⟨b,0,xs.flatMap f++rest,E,(0,0),hp,hc,?_⟩⟩;rw[List.drop_zero,←h.1,List.take_left]
end
abbrev IE:=Int×Int
def ecl (e:IE):List Value:=[Z9 Z8 e.1,Z9 Z8 e.2]
def bcl (x:Bool):List Value:=[.bool x]
theorem Nr (e:IE):(ecl e).length=2:=rfl
theorem vT (e:Bool):(bcl e).length=1:=rfl
theorem Mv:∀ts:List T5,flat ts=ts.flatMap Ak
 |[]=>rfl
 |t::ts=>by rw[A7,←Mv ts];rfl
theorem Es (t:T5):(Ak t).length=5:=rfl
theorem RV.rw {p:Option Addr} {n:Nat} {ts:List T5} {c:Aa} (h:RV p n ts c):Rw Ak 5 p n ts c:=by obtain⟨h1,h2⟩:=h;rw[Mv] at h2;exact⟨h1,h2⟩
theorem Rw.rv {p:Option Addr} {n:Nat} {ts:List T5} {c:Aa} (h:Rw Ak 5 p n ts c):RV p n ts c:=by obtain⟨h1,h2⟩:=h;rw[←Mv] at h2;exact⟨h1,h2⟩
end Go.Proofs.YtaofijjjheiknaaGreat
