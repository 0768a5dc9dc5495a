/-
  Parts of the proof, put together: Look3, JobG, LookS, Js, LawB, Law16, Js2, Mkr. No condition.
-/
import Derived.Test.YtammjnjpheobaaaGreatK21
set_option linter.unusedVariables false
set_option linter.unusedSimpArgs false
set_option linter.unnecessarySimpa false
set_option maxHeartbeats 4000000
namespace Go.Proofs.YtammjnjpheobaaaGreat
open Go.SL Go.Spc Go.Tup Go.Srt
theorem column_ct (f:Fl) (k:Nat) (hk:k<f.width) (h5:f.width≤5):CtQ Tryz.prog 84 [flv f,.int .i64 (k:Int)] [] (.bool true):=by
 have hflv:flv f= .agg #[.int .i64 (f.first:Int),.int .i64 (f.blocks:Int),.int .i64 (f.width:Int),.int .i64 (f.count:Int)]:=rfl
 rw[hflv]
 refine Ct.intro Tryz.func84 rfl Tryz.ntmps84 (nle rfl) fun w0=> ?_;dsimp only[argSlots,Nat.reduceAdd]
 repeat(refine st ?_;intros)
 (refine Dn.post (Hr:=[]) Tryz.results84 (hR:= ?_);exact⟨congrArg Value.bool (dec_true (by omega)),rfl⟩)
theorem can_ct (bw bd ba bs:Nat) (δ:Dv) (cd:Chunk) (h:IsDev bd δ cd) (f:Fl) (h1:1≤f.width) (h5:f.width≤5) (hb:f.blocks=nblocks δ.size f.width f.count) (hc:f.count≤100000000):
  CtQ Tryz.prog 85 [pv bw,flv f] [wrow bw bd ba bs,cd] (.bool true):=by
 have hflv:flv f= .agg #[.int .i64 (f.first:Int),.int .i64 (f.blocks:Int),.int .i64 (f.width:Int),.int .i64 (f.count:Int)]:=rfl
 rw[hflv]
 have hH:=Holds_ct bw bd ba bs δ cd h f.width h1 h5
 have hp:=holds_pos h.num.1.1 h1 h5
 have hh:holds δ.size f.width≤δ.size:=Nat.le_trans (Nat.div_le_self _ _) (by omega)
 have hs:=h.num.1.2
 have e1:IntKind.wrap .i64 ((f.count:Int)+(holds δ.size f.width:Int))=((f.count+holds δ.size f.width:Nat):Int):=wrap_i64 (by omega)
 have e2:IntKind.wrap .i64 (((f.count+holds δ.size f.width:Nat):Int)-1)=((f.count+holds δ.size f.width-1:Nat):Int):=by rw[wrap_i64 (by omega)];omega
 have e3:((f.count+holds δ.size f.width-1:Nat):Int).tdiv (holds δ.size f.width:Int)=(f.blocks:Int):=by
  rw[Int.tdiv_eq_ediv_of_nonneg (by omega),hb];rfl
 have e4:IntKind.wrap .i64 (((f.count+holds δ.size f.width-1:Nat):Int).tdiv (holds δ.size f.width:Int))=(f.blocks:Int):=by
  rw[e3,wrap_i64]
  have:f.blocks≤f.count:=by rw[hb];exact nblocks_le hp
  omega
 generalize holds δ.size f.width=hd at*
 refine Ct.intro Tryz.func85 rfl Tryz.ntmps85 (nle rfl) fun w0=> ?_;dsimp only[argSlots,Nat.reduceAdd]
 repeat(first|(refine st ?_;intros)|refine G.draw [] (h:= ?_)|(refine cq hH ?_))
 (refine Dn.post (Hr:=[wrow bw bd ba bs,cd]) Tryz.results85 (hR:= ?_);exact⟨congrArg Value.bool (dec_true rfl),rfl⟩)
def lkZ (bw bl bx key value to:Nat) (ats:List T5) (fb:Fl) (bts:List T5) (LvB:List Ext) (size:Nat) (g:Gr):Mkr LkS where
 own s:=if s.op then[g] else[]
 C s:=[lkRow bl bx key value to s,s.cx,s.cb].flatten
 J W s i:=W.δ.size=size∧s.op=true∧IsRd bw bx W fb bts g s.pos s.cx s.cb∧s.pos≤fb.count∧FileOk W.δ.disk size LvB fb bts∧(∀e∈LvB,e∈W.live)∧
  ∀k:Int,(∀j t,j<i→ats[j]? =some t→t.col key≤k)→LkOk bts s k∧(s.any=true→s.last≤k)
 E W s:=s.pos≤fb.count∧((s.op=true∧IsRd bw bx W fb bts g s.pos s.cx s.cb)∨(s.op=false∧ClosedRd bx s.cx))
 pot s:=nblocks size fb.width s.pos
theorem lkZ_ok (bw bl bx key value to:Nat) (ats:List T5) (fb:Fl) (bts:List T5) (LvB:List Ext) (size:Nat) (g:Gr) (Lv:List Ext) (hs:∀e∈LvB,e∈Lv):(lkZ bw bl bx key value to ats fb bts LvB size g).Ok Lv where
 stay:=by
  rintro W W' s i ⟨h1,h2,h3,h4,h5,h6,h7⟩ hz hK hl _
  exact⟨hz.trans h1,h2,h3.move hz,h4,h5.keep fun x ⟨e,he,h8⟩=>hK x ⟨e,hs e he,h8⟩,fun e he=>hl e (hs e he),h7⟩
 fin:=by
  rintro W s i ⟨h1,h2,h3,h4,_⟩
  exact⟨h4,.inl ⟨h2,h3⟩⟩
 stayE:=by
  rintro W W' s ⟨h1,h2⟩ hz
  refine⟨h1,h2.imp (fun ⟨a,b⟩=>⟨a,b.move hz⟩) id⟩
theorem lkZ_see (bw bd ba bs bl bx key value to:Nat) (hkey:key<5) (hval:value<5) (hto:to<5) (ats:List T5) (hsort:ats.Pairwise fun a c=>a.col key≤c.col key) (fb:Fl) (bts:List T5) (LvB:List Ext) (size room:Nat) (g:Gr) (hrise:bts.Pairwise fun a c=>a.c0<c.c0) (hcn:fb.count≤1000000):
  MkrCt bw bd ba bs (lkZ bw bl bx key value to ats fb bts LvB size g) size room ats (fun i=>lookF bts key value to (at5 ats i)) 87 [pv bl] []:=by
 rintro base W cd ca cs s i t hW hg hrm hsz ⟨h1,h2,h3,h4,h5,h6,h7⟩ ht hac
 subst hsz
 have hi:=(List.getElem?_eq_some_iff.1 ht).1
 have hat:at5 ats i=t:=by unfold at5;simp[List.getD_eq_getElem?_getD,ht]
 obtain⟨hk,hany⟩:=h7 (t.col key) fun j u hj hu=>by
  obtain⟨hj2,rfl⟩:=List.getElem?_eq_some_iff.1 hu
  obtain⟨_,rfl⟩:=List.getElem?_eq_some_iff.1 ht
  exact List.pairwise_iff_getElem.1 hsort j i hj2 hi hj
 have hg':W.α.gs.Perm (g::base):=by simpa[lkZ,h2] using hg
 have hC:=look_ct bw bd ba bs bl bx key value to hkey hval hto W cd ca cs hW fb bts LvB h5 h6 hrise g base hg' s h3 h4 t hk hany hac hcn
 refine Ct.convP hC (by unfold lkZ;refine permC fun z=> ?_;simp only[List.flatten_cons,List.flatten_nil,List.append_nil,List.flatten_append,List.count_append];omega) ?_
 rintro v H' ⟨cd',ca',W',s',u,k,e,rfl,rfl,hW',hE',hd',hσ',hl',hp1,hp2,hc⟩
 have hm:nblocks W.δ.size fb.width s.pos≤nblocks W.δ.size fb.width s'.pos:=nblocks_mono hp1
 rcases hc with⟨rfl,rfl,rfl,hg2,hr2,hk2,ha2,hl2⟩|⟨rfl,hf,hg2,hx⟩
 ·refine⟨[wrow bw bd ba bs,cd',ca',cs,(lkZ bw bl bx key value to ats fb bts LvB W.δ.size g).C {s' with op:=true}],⟨cd',ca',W',{s' with op:=true},_,true,0,rfl,rfl,hW',hE',hd',hσ',hl',hm,by simpa[lkZ] using hg2,.inl ⟨rfl,rfl,by dsimp only;rw[hat],?_⟩⟩,?_⟩
  ·refine⟨hE'.size,rfl,hr2,hp2,by rw[hd'];exact h5,by rw[hl'];exact h6,fun k hk=> ?_⟩
   have h8:=hk i t (Nat.lt_succ_self i) ht
   exact⟨⟨(hk2.up h8).nb,(hk2.up h8).yes,(hk2.up h8).no⟩,fun _=>by show s'.last≤k;omega⟩
  ·have hrow:lkRow bl bx key value to {s' with op:=true}=lkRow bl bx key value to s':=rfl
   refine permC fun z=> ?_
   simp only[lkZ,hrow,List.flatten_cons,List.flatten_nil,List.append_nil,List.count_append];omega
 ·refine⟨[wrow bw bd ba bs,cd',ca',cs,(lkZ bw bl bx key value to ats fb bts LvB W.δ.size g).C {s' with op:=false}],⟨cd',ca',W',{s' with op:=false},u,k,6,rfl,rfl,hW',hE',hd',hσ',hl',hm,by simpa[lkZ] using hg2,.inr ⟨rfl,hf,hp2,.inr ⟨rfl,hx⟩⟩⟩,?_⟩
  have hrow:lkRow bl bx key value to {s' with op:=false}=lkRow bl bx key value to s':=rfl
  refine permC fun z=> ?_
  simp only[lkZ,hrow,List.flatten_cons,List.flatten_nil,List.append_nil,List.count_append];omega
theorem max_wd {a b:Nat}:max (a:Int) (((b+1:Nat):Int))=((max a (b+1):Nat):Int):=by omega
theorem lkV_in {bts:List T5} {w:Nat} (h:∀t∈bts,okT w t) (k:Int) (v:Nat):inI64 (lkV bts k v):=by
 unfold lkV
 split
 ·rename_i t ht
  have h1:=okT_cols (h t (List.mem_of_find?_eq_some ht))
  match v with
  |0=>exact h1.1
  |1=>exact h1.2.1
  |2=>exact h1.2.2.1
  |3=>exact h1.2.2.2.1
  |4=>exact h1.2.2.2.2
  |n+5=>exact in_0
 ·exact in_m1
theorem lookF_ok {bts:List T5} {w wa:Nat} (h:∀t∈bts,okT w t) (key value to:Nat) (hto:to<5) {t:T5} (ht:okT wa t):okT (max wa (to+1)) (lookF bts key value to t):=by
 obtain⟨a0,a1,a2,a3,a4⟩:=okT_cols ht
 have hv:=lkV_in h (t.col key) value
 unfold lookF
 generalize lkV bts (t.col key) value=x at*
 match to,hto with
 |0,_=>exact okTk hv a1 a2 a3 a4 (by omega) (fun h=>ht.2 1 (by omega)) (fun h=>ht.2 2 (by omega)) (fun h=>ht.2 3 (by omega)) (fun h=>ht.2 4 (by omega))
 |1,_=>exact okTk a0 hv a2 a3 a4 (by omega) (by omega) (fun h=>ht.2 2 (by omega)) (fun h=>ht.2 3 (by omega)) (fun h=>ht.2 4 (by omega))
 |2,_=>exact okTk a0 a1 hv a3 a4 (by omega) (by omega) (by omega) (fun h=>ht.2 3 (by omega)) (fun h=>ht.2 4 (by omega))
 |3,_=>exact okTk a0 a1 a2 hv a4 (by omega) (by omega) (by omega) (by omega) (fun h=>ht.2 4 (by omega))
 |4,_=>exact okTk a0 a1 a2 a3 hv (by omega) (by omega) (by omega) (by omega) (by omega)
theorem Look_ct (bw bd ba bs key value to:Nat) (W:Wk) (cd ca cs:Chunk) (h:Wc bd ba bs W cd ca cs) (fa:Fl) (ats:List T5) (LvA:List Ext) (hfa:FileOk W.δ.disk W.δ.size LvA fa ats) (hsa:∀e∈LvA,e∈W.live)
  (fb:Fl) (bts:List T5) (LvB:List Ext) (hfb:FileOk W.δ.disk W.δ.size LvB fb bts) (hsb:∀e∈LvB,e∈W.live) (hkey:key<fa.width) (hval:value<fb.width) (hto:to<5)
  (hsort:ats.Pairwise fun a c=>a.col key≤c.col key) (hrise:bts.Pairwise fun a c=>a.c0<c.c0) (hr:3*W.δ.size≤W.α.room-W.α.used) (hfit:nblocks W.δ.size (max fa.width (to+1)) fa.count≤big W.σ.free) (hac:W.δ.acts≤1000000000) (hca:fa.count≤1000000) (hcb:fb.count≤1000000):
  Ct Tryz.prog 47 [pv bw,flv fa,.int .i64 (key:Int),flv fb,.int .i64 (value:Int),.int .i64 (to:Int)] [wrow bw bd ba bs,cd,ca,cs] fun v H'=>
   ∃cd' ca' cs' W' f' e,v= .tuple #[flv f',.int .i64 e]∧H'=[wrow bw bd ba bs,cd',ca',cs']∧Wc bd ba bs W' cd' ca' cs'∧Ev W W' (fa.blocks+fa.count+1+fb.blocks) (nblocks W.δ.size (max fa.width (to+1)) fa.count)∧Keep W.live W W'∧W'.α.gs.Perm W.α.gs∧
    ((e=0∧W'.live.Perm (addF f' W.live)∧f'.width=max fa.width (to+1)∧f'.count=fa.count∧FileOk W'.δ.disk W.δ.size [f'.ext] f' (ats.map (lookF bts key value to)))∨(e=6∧f'=⟨0,0,0,0⟩∧W.δ.fault≠-1∧W'.live.Perm W.live)):=by
 have ha5:=hfa.w2
 have hb5:=hfb.w2
 have ha1:=hfa.w1
 have hflv:∀f:Fl,flv f= .agg #[.int .i64 (f.first:Int),.int .i64 (f.blocks:Int),.int .i64 (f.width:Int),.int .i64 (f.count:Int)]:=fun _=>rfl
 have hz:flv ⟨0,0,0,0⟩= .agg #[.int .i64 0,.int .i64 0,.int .i64 0,.int .i64 0]:=rfl
 have hCa:=column_ct fa key hkey ha5
 have hCb:=column_ct fb value hval hb5
 have hCn:=can_ct bw bd ba bs W.δ cd h.dev fa ha1 ha5 hfa.blk (by omega)
 have hRd:=Read_u bw bd ba bs W cd ca cs h fb bts LvB hfb (by omega)
 have e1:IntKind.wrap .i64 ((to:Int)+1)=((to+1:Nat):Int):=by rw[wrap_i64 (by omega)];rfl
 have e2:max (fa.width:Int) ((to+1:Nat):Int)=((max fa.width (to+1):Nat):Int):=max_wd
 rw[hflv] at hCa hCb hCn hRd
 rw[hflv fa,hflv fb]
 refine Ct.introD Tryz.func47 rfl Tryz.ntmps47 (nle rfl) fun w0=> ?_;dsimp only[argSlots,Nat.reduceAdd]
 repeat(first|(refine st ?_;intros)|(refine cq hCa ?_)|(refine cq hCb ?_)|(refine cq hCn ?_))
 refine R.call (hct:=hRd) (h:= ?_)
 rintro _ _ ⟨bx,g,ca1,α1,cx,cb,rfl,rfl,hW1,hE1,hg1,hgn,hr1⟩
 try dsimp only[List.cons_append,List.nil_append]
 have hu1:α1.used=W.α.used+W.δ.size:=by
  have:=hW1.ar.num.2.2.2
  dsimp only at this
  rw[this,(hg1.map (·.n)).sum_nat,h.ar.num.2.2.2];simp[hgn];omega
 have hrm1:α1.room=W.α.room:=hE1.room
 have hbb:fb.blocks≤fb.count:=by rw[hfb.blk];exact nblocks_le (holds_pos h.dev.num.1.1 hfb.w1 hfb.w2)
 have hsz:8≤W.δ.size:=h.dev.num.1.1
 have hE:∀bl:Nat,Ct Tryz.prog 86 [pv bw,flv fa,.int .i64 ((max fa.width (to+1):Nat):Int),.func (.func 87) #[pv bl] #[]]
   [wrow bw bd ba bs,cd,ca1,cs,lkRow bl bx key value to ⟨0,false,false,T5.zero,0,false,cx,cb,true⟩,cx,cb] fun v H'=>
   ∃cd' ca' cs' W' r' f' e,v= .tuple #[flv f',.int .i64 e]∧H'=[wrow bw bd ba bs,cd',ca',cs',lkRow bl bx key value to r',r'.cx,r'.cb]∧Wc bd ba bs W' cd' ca' cs'∧Ev {W with α:=α1} W' (fa.blocks+fa.count+1+fb.blocks) (nblocks W.δ.size (max fa.width (to+1)) fa.count)∧Keep W.live W W'∧RSt bw bx fb bts g W.α.gs W' r'.cx r'.cb∧
    ((e=0∧W'.live.Perm (addF f' W.live)∧f'.width=max fa.width (to+1)∧f'.count=fa.count∧FileOk W'.δ.disk W.δ.size [f'.ext] f' (ats.map (lookF bts key value to)))∨(e=6∧f'=⟨0,0,0,0⟩∧W.δ.fault≠-1∧W'.live.Perm W.live)):=by
  intro bl
  have h1:=each_ct bw bd ba bs (lkZ bw bl bx key value to ats fb bts LvB W.δ.size g) {W with α:=α1} cd ca1 cs hW1 (lkZ_ok bw bl bx key value to ats fb bts LvB W.δ.size g W.live hsb) fa ats LvA hfa hsa (max fa.width (to+1)) (by omega) (by omega)
   (fun i=>lookF bts key value to (at5 ats i)) (fun i hi=>lookF_ok hfb.fit key value to hto (hfa.fit _ (by
    have hil:i<ats.length:=by rw[hfa.len];exact hi
    unfold at5;rw[List.getD_eq_getElem?_getD,List.getElem?_eq_getElem hil]
    exact List.getElem_mem hil))) 87 inferInstance [pv bl] []
   (lkZ_see bw bd ba bs bl bx key value to (by omega) (by omega) hto ats hsort fb bts LvB W.δ.size α1.room g hrise hcb) ⟨0,false,false,T5.zero,0,false,cx,cb,true⟩ W.α.gs hg1
   ⟨rfl,rfl,hr1,Nat.zero_le _,hfb,hsb,fun k _=>⟨⟨fun _=>rfl,fun h=>(by cases h),fun h=>(by cases h)⟩,fun h=>(by cases h)⟩⟩ fb.blocks (fun W2 r2 hr2=>by
    show nblocks W.δ.size fb.width r2.pos≤_
    rw[hfb.blk];exact nblocks_mono hr2.1) (by omega) (by dsimp only;omega) hfit hac hca
  refine Ct.convP h1 (by unfold lkZ;refine permC fun z=> ?_;simp only[List.flatten_cons,List.flatten_nil,List.append_nil,List.flatten_append,List.count_append]) ?_
  rintro v H' ⟨cd',ca',cs',W',r',f',e,rfl,rfl,a1,a2,a3,a4,a5,a6⟩
  refine⟨[wrow bw bd ba bs,cd',ca',cs',lkRow bl bx key value to r',r'.cx,r'.cb],⟨cd',ca',cs',W',r',f',e,rfl,rfl,a1,a2,a3,?_,?_⟩,by unfold lkZ;refine permC fun z=> ?_;simp only[List.flatten_cons,List.flatten_nil,List.append_nil,List.flatten_append,List.count_append]⟩
  ·rcases a5.2 with⟨b1,b2⟩|⟨b1,b2⟩
   ·exact .inl ⟨by simpa[lkZ,b1] using a4,_,b2⟩
   ·exact .inr ⟨by simpa[lkZ,b1] using a4,b2⟩
  ·have hmap:rangeT (fun i=>lookF bts key value to (at5 ats i)) fa.count=ats.map (lookF bts key value to):=by
    unfold rangeT
    apply List.ext_getElem?
    intro i
    rw[List.getElem?_map,List.getElem?_map]
    by_cases hi:i<fa.count
    ·have hil:i<ats.length:=by rw[hfa.len];exact hi
     rw[List.getElem?_range hi,List.getElem?_eq_getElem hil]
     show some (lookF bts key value to (at5 ats i))=_
     unfold at5;rw[List.getD_eq_getElem?_getD,List.getElem?_eq_getElem hil];rfl
    ·rw[List.getElem?_eq_none (by simp;omega),List.getElem?_eq_none (by rw[hfa.len];omega)];rfl
   rw[←hmap]
   exact a6
 have hE:=fun bl=>hE bl
 unfold lkRow at hE
 dsimp only at hE
 rw[hflv fa] at hE
 repeat(first|(refine st ?_;intros)|(refine cq hCa ?_)|(refine cq hCb ?_)|(refine cq hCn ?_))
 rename_i b7 b9 b12 bl
 rw[e2]
 refine R.call (hct:=hE bl) (h:= ?_)
 rintro _ _ ⟨cd2,ca2,cs2,W2,r2,f2,e,rfl,rfl,hW2,hE2,hK2,hR2,hc2⟩
 dsimp only[List.cons_append,List.nil_append]
 rw[hflv]
 have hRc:=RCloseAny bw bd ba bs W2 cd2 ca2 cs2 hW2 bx fb bts g W.α.gs r2.cx r2.cb hR2
 repeat(first|(refine st ?_;intros)|(refine cq hCa ?_)|(refine cq hCb ?_)|(refine cq hCn ?_))
 refine Go.SL.Lv.call (hc:=hRc) (h:= ?_)
 rintro _ _ ⟨ca8,α8,cx8,rfl,hW8,hE8,hg8⟩
 try dsimp only[List.cons_append,List.nil_append]
 (refine Go.SL.Lv.nil (Hr:=[wrow bw bd ba bs,cd2,ca8,cs2]) Tryz.results47 (hR:= ?_);exact⟨cd2,ca8,cs2,{W2 with α:=α8},f2,e,rfl,rfl,hW8,((hE1.trans hE2).trans hE8).weak (by omega) (by omega),hK2,hg8,hc2⟩)
abbrev o1:T5:=⟨1,0,0,0,0⟩
theorem in0file {p:Jp} {x:Fl×List T5} (h:In0 p x):x.2.length=x.1.count∧(∀t∈x.2,okT x.1.width t)∧x.1.blocks=nblocks p.size x.1.width x.1.count∧1≤x.1.width∧x.1.width≤5:=by
 obtain⟨Lv,h,_⟩:=h
 exact⟨h.len,h.fit,h.blk,h.w1,h.w2⟩
theorem in_1:inI64 1:=⟨by decide,by decide⟩
theorem sortT_mono {a b:Nat} (h:a≤b):sortT a≤sortT b:=by
 unfold sortT
 exact Nat.mul_le_mul (by omega) (Nat.add_le_add_left (lgq_mono (by omega)) _)
theorem Look_step (p:Jp) (hp:p.Ok) (J:Jb) (he:J.e=0) (fa fb:Fl) (ats bts:List T5) (ha:(fa,ats)∈J.G∨In0 p (fa,ats)) (hb:(fb,bts)∈J.G∨In0 p (fb,bts)) (hca:fa.count≤100000) (hcb:fb.count≤100000)
  (key value to:Nat) (hkey:key<fa.width) (hval:value<fb.width) (hto:to<5) (hsort:ats.Pairwise fun a c=>a.col key≤c.col key) (hrise:bts.Pairwise fun a c=>a.c0<c.c0)
  (A T:Nat) (hT:nblocks p.size (max fa.width (to+1)) fa.count≤T) (hroom:Fits p J T) (hA:fa.blocks+fa.count+1+fb.blocks≤A) (hac:J.acts+A≤1000000000)
  (W:Wk) (cd ca cs:Chunk) (held:List (Fl×List T5)) (hW:Wc p.bd p.ba p.bs W cd ca cs) (hJW:JobW p J held W):
  Ct Tryz.prog 47 [pv p.bw,flv fa,.int .i64 (key:Int),flv fb,.int .i64 (value:Int),.int .i64 (to:Int)] [wrow p.bw p.bd p.ba p.bs,cd,ca,cs] fun v H'=>
   ∃f e cd' ca' cs' W',v= .tuple #[flv f,.int .i64 e]∧H'=[wrow p.bw p.bd p.ba p.bs,cd',ca',cs']∧Wc p.bd p.ba p.bs W' cd' ca' cs'∧Stepped p W W' A T none (ats.map (lookF bts key value to)) f e∧
    (f.count≤fa.count∧f.blocks≤nblocks p.size (max fa.width (to+1)) fa.count∧(e=0→f.width=max fa.width (to+1)∧f.count=fa.count)):=by
 obtain⟨LvA,hfoa,hsa⟩:=hJW.file (ha.imp (fun h=>(hJW.ok he).1.mem_iff.2 h) id)
 obtain⟨LvB,hfob,hsb⟩:=hJW.file (hb.imp (fun h=>(hJW.ok he).1.mem_iff.2 h) id)
 dsimp only at hfoa hfob
 obtain⟨⟨hs1,hs2⟩,_⟩:=hW.dev.num
 have hus:=hJW.used hp hW
 have hbig:=hJW.big hW he hroom
 have hjac:=hJW.acts
 have hnb:nblocks W.δ.size (max fa.width (to+1)) fa.count≤T:=by rw[hJW.size];exact hT
 refine(Look_ct p.bw p.bd p.ba p.bs key value to W cd ca cs hW fa ats LvA hfoa hsa fb bts LvB hfob hsb hkey hval hto hsort hrise (by omega) (by omega) (by omega) (by omega) (by omega)).mono ?_
 rintro v H' ⟨cd',ca',cs',W',f,e,rfl,rfl,hW',hE,hK,hg,hc⟩
 refine⟨f,e,cd',ca',cs',W',rfl,rfl,hW',⟨hg,hE.room,hE.size,hE.n,by have:=hE.acts.2;omega,by have:=hE.big;omega,hE.fault,hK,?_⟩,?_⟩
 ·rcases hc with⟨a,b,_,_,c⟩|⟨a,b,c,d⟩
  ·exact .inl ⟨a,rfl,b,c⟩
  ·exact .inr ⟨by omega,b,d,.inl ⟨a,c⟩⟩
 ·rcases hc with⟨a,b,c1,c2,c⟩|⟨a,rfl,c,d⟩
  ·refine⟨by omega,?_,fun _=>⟨c1,c2⟩⟩
   rw[c.blk,c1,c2,hJW.size];exact Nat.le_refl _
  ·exact⟨Nat.zero_le _,Nat.zero_le _,fun h=>by omega⟩
def lookH (bj b8 b4 b5:Nat) (fa fb:Fl):Hp:=[[(b8,row [pv bj] 82)],[(b4,row (fl4 fa) 27)],[(b5,row (fl4 fb) 27)]]
structure Rm (p:Jp) (B m k a:Nat):Prop where
 ok:p.Ok
 le:B≤m
 bs:B≤1000
 room:m*(k+p.L0.length+1)+(k*B+total p.L0)≤p.n
 kk:k≤100
 acts:a≤500000000
structure JobS (p:Jp) (B k a s0:Nat) (e:Int) (er:Option Nat) (Gf:List (Fl×List T5)) (C:Chunk):Prop where
 job:JobC p ⟨e,er,Gf,a+s0*30000,s0*30000⟩ C
 len:Gf.length≤k
 blk:∀x∈Gf,x.1.blocks≤B
theorem sum_le {B:Nat}:∀{l:List Nat},(∀x∈l,x≤B)→l.sum≤l.length*B
 |[],_=>by simp
 |x::l,h=>by
  have h1:=h x List.mem_cons_self
  have h2:=sum_le (l:=l) (fun y hy=>h y (List.mem_cons_of_mem _ hy))
  simp only[List.sum_cons,List.length_cons,Nat.add_mul,Nat.one_mul];omega
theorem Rm.fits {p:Jp} {B m k a:Nat} (h:Rm p B m k a) {Gf:List (Fl×List T5)} (hl:Gf.length≤k) (hb:∀x∈Gf,x.1.blocks≤B) {T:Nat} (hT:T≤m) (e:Int) (er:Option Nat) (x y:Nat):Fits p ⟨e,er,Gf,x,y⟩ T:=by
 left
 unfold roomy
 dsimp only
 have h1:T*(Gf.length+p.L0.length+1)≤m*(k+p.L0.length+1):=Nat.mul_le_mul hT (by omega)
 have h2:=sum_le (B:=B) (l:=Gf.map (·.1.blocks)) (by intro y hy;obtain⟨x,hx,rfl⟩:=List.mem_map.1 hy;exact hb x hx)
 rw[List.length_map] at h2
 have h3:Gf.length*B≤k*B:=Nat.mul_le_mul_right _ hl
 have:=h.room
 omega
structure FB (b c w n:Nat) (e:Int) (f:Fl):Prop where
 cnt:f.count≤b
 blk:f.blocks≤c
 ok:e=0→f.width=w∧f.count=n
theorem FB.mono {b c w n:Nat} {e e':Int} {f:Fl} (h:FB b c w n e f) (he:e'=0→e=0):FB b c w n e' f:=⟨h.cnt,h.blk,fun h0=>h.ok (he h0)⟩
theorem JobC.er0 {p:Jp} {J:Jb} {C:Chunk} (h:JobC p J C) (he:J.e=0):J.er=none:=by
 obtain⟨W,cd,ca,cs,held,ph,cap,ch,_,_,_,hJW⟩:=h
 exact(hJW.ok he).2
theorem JobS.er0 {p:Jp} {B k a s0:Nat} {e:Int} {er:Option Nat} {Gf:List (Fl×List T5)} {C:Chunk} (h:JobS p B k a s0 e er Gf C) (he:e=0):er=none:=h.job.er0 he
theorem nbS {s w n c:Nat} (hs:8≤s) (h1:1≤w) (h5:w≤5) (hc:n≤c∨(w≤3∧n≤2*c)):nblocks s w n≤c:=by
 have hp:=holds_pos hs h1 h5
 rcases hc with hc|⟨hw,hc⟩
 ·exact Nat.le_trans (nblocks_le hp) hc
 ·have h2:2≤holds s w:=by
   have:3*2≤s-2:=by omega
   exact(Nat.le_div_iff_mul_le (by omega)).2 (by
    have:2*w≤2*3:=Nat.mul_le_mul_left _ hw
    omega)
  unfold nblocks
  generalize holds s w=q at*
  have:n+q-1<(c+1)*q:=by
   have h3:c*2≤c*q:=Nat.mul_le_mul_left _ h2
   rw[Nat.add_mul,Nat.one_mul]
   omega
  have:=(Nat.div_lt_iff_lt_mul (by omega)).2 this
  omega
inductive Pk {α:Type} (x:α):List α→List α→Prop
 |here {l:List α}:Pk x (x::l) l
 |there {y:α} {l l':List α}:Pk x l l'→Pk x (y::l) (y::l')
theorem Pk.perm {α:Type} {x:α} {l l':List α} (h:Pk x l l'):l.Perm (x::l'):=by
 induction h with
 |here=>exact .refl _
 |there _ ih=>exact(ih.cons _).trans (.swap _ _ _)
inductive Pks {α:Type}:List α→List α→List α→Prop
 |nil {l:List α}:Pks [] l l
 |cons {x:α} {xs l l1 l2:List α}:Pk x l l1→Pks xs l1 l2→Pks (x::xs) l l2
theorem Pks.perm {α:Type} {xs l l':List α} (h:Pks xs l l'):l.Perm (xs++l'):=by
 induction h with
 |nil=>exact .refl _
 |cons h1 _ ih=>exact h1.perm.trans (ih.cons _)
section
variable {p:Jp} {B m k a s0:Nat} {e:Int} {er:Option Nat} {Gf:List (Fl×List T5)} {C:Chunk}
theorem JobC.weak {J J':Jb} (h:JobC p J C) (he:J'.e=J.e) (her:J'.er=J.er) (hG:J'.G=J.G) (ha:J.acts≤J'.acts) (ht:J.took≤J'.took):JobC p J' C:=by
 obtain⟨W,cd,ca,cs,held,ph,cap,ch,h1,h2,h3,h4⟩:=h
 refine⟨W,cd,ca,cs,held,ph,cap,ch,by rw[he];exact h1,h2,h3,{h4 with acts:=Nat.le_trans h4.acts ha,tk:=Nat.le_trans h4.tk (by omega),ok:= ?_,why:= ?_}⟩
 ·rw[he,her,hG];exact h4.ok
 ·rw[he,her];exact h4.why
theorem JobS.push (h:JobS p B k a s0 e er Gf C) (hl:Gf.length+1≤k) {e':Int} {er':Option Nat} {f:Fl} {ts:List T5} {C':Chunk} {A T:Nat} (q:Nat) (hJ:JobC p ⟨e',er',(f,ts)::Gf,a+s0*30000+A,s0*30000+T⟩ C') (hA:A≤q*30000) (hT:T≤q*30000) (hb:f.blocks≤B):JobS p B k a (s0+q) e' er' ((f,ts)::Gf) C' where
 job:=by
  have e1:(s0+q)*30000=s0*30000+q*30000:=Nat.add_mul _ _ _
  exact hJ.weak rfl rfl rfl (by dsimp only;omega) (by dsimp only;omega)
 len:=by simpa using hl
 blk:=by
  intro x hx
  rcases List.mem_cons.1 hx with rfl|hx
  ·exact hb
  ·exact h.blk x hx
theorem SMake (hR:Rm p B m k a) (hJ:JobS p B k a s0 e er Gf C) {K:Type} (M:Maker K) (k0:K) (width bound c κ:Nat) (hwd:1≤width∧width≤5) (mk:Nat) (hcal:Callable Tryz.prog mk) (us:List Value) (ok:K→T5→Prop) (hM:MakeU M width ok mk [] us)
  (hκ:∀k t,ok k t→(M.outs k t).length≤κ) (hκb:κ≤5) (l:List (Fl×List T5)) (hs:∀x∈l,x∈Gf∨In0 p x) (h0:∀x∈l,x.1.count≤1000∧x.1.blocks≤1000) (hll:l.length≤4) (pa:Option Addr) (cap:Nat) (cf:Chunk) (hV:Vec 27 4 pa l.length cap (fcells (l.map (·.1))) cf)
  (hok:e=0→M.oks ok k0 (cat l)) (hbd:e=0→(M.all k0 (cat l)).length≤bound)
  (hc:bound≤c∨(width≤3∧bound≤2*c)) (hcB:c≤B) (hl:Gf.length+1≤k) (hst:s0≤10000):
  Ct Tryz.prog 42 [pv p.bj,.int .i64 (width:Int),.int .i64 (bound:Int),.func (.func mk) #[] us.toArray,.slice pa l.length cap] (C::cf::M.C k0) fun v H'=>
   ∃f C' e' k',v=flv f∧H'=C'::cf::M.C k'∧JobS p B k a (s0+1) e' (er.or (M.bad k0 (cat l))) ((f,M.all k0 (cat l))::Gf) C'∧FB bound c width (M.all k0 (cat l)).length e' f∧(e'=0→e=0∧k'=M.st k0 (cat l)∧M.bad k0 (cat l)=none):=by
 have hB:=hR.bs
 have hkk:=hR.kk
 have hac:=hR.acts
 have hm:=hR.le
 have hlen:=hJ.len
 have hnb:=nbS (s:=p.size) hR.ok.size.1 hwd.1 hwd.2 hc
 have hb2:bound≤2000:=by omega
 have hact:actsOf κ l≤4*6000:=by
  unfold actsOf
  refine Nat.le_trans (sum_le (B:=6000) ?_) (by rw[List.length_map];exact Nat.mul_le_mul_right _ hll)
  intro x hx
  obtain⟨y,hy,rfl⟩:=List.mem_map.1 hx
  have h1:=h0 y hy
  have h2:y.1.count*κ≤1000*5:=Nat.mul_le_mul h1.1 hκb
  omega
 have h2:s0*30000≤10000*30000:=Nat.mul_le_mul hst (Nat.le_refl _)
 refine(JMake p hR.ok _ C hJ.job M k0 width bound κ 24001 c hwd.1 hwd.2 (by omega) mk hcal [] us ok hM hκ (by omega) l hs (fun x hx=>by have:=h0 x hx;omega) pa cap cf hV hok hbd hnb
  (fun _=>hR.fits hJ.len hJ.blk (by omega) _ _ _ _) (by omega) (by dsimp only;omega) (by dsimp only;omega)).mono ?_
 rintro v H' ⟨f,C',e',k',rfl,rfl,h3,h4,h5,h6⟩
 have h7:f.blocks≤c:=Nat.le_trans h6 hnb
 exact⟨f,C',e',k',rfl,rfl,hJ.push hl 1 h3 (by omega) (by omega) (by omega),⟨h5,h7,fun h=>let ⟨_,_,c,d,_⟩:=h4 h;⟨c,d⟩⟩,fun h=>let ⟨a,b,_,_,d⟩:=h4 h;⟨a,b,d⟩⟩
theorem SMake1 (hR:Rm p B m k a) (hJ:JobS p B k a s0 e er Gf C) {K:Type} (M:Maker K) (k0:K) (width bound c κ:Nat) (hwd:1≤width∧width≤5) (mk:Nat) (hcal:Callable Tryz.prog mk) (us:List Value) (ok:K→T5→Prop) (hM:MakeU M width ok mk [] us)
  (hκ:∀k t,ok k t→(M.outs k t).length≤κ) (hκb:κ≤5) (f0:Fl) (ts:List T5) (hs:(f0,ts)∈Gf∨In0 p (f0,ts)) (h0:f0.count≤1000∧f0.blocks≤1000) (hok:e=0→M.oks ok k0 ts) (hbd:e=0→(M.all k0 ts).length≤bound)
  (hc:bound≤c∨(width≤3∧bound≤2*c)) (hcB:c≤B) (hl:Gf.length+1≤k) (hst:s0≤10000) (b:Nat):
  Ct Tryz.prog 42 [pv p.bj,.int .i64 (width:Int),.int .i64 (bound:Int),.func (.func mk) #[] us.toArray,.slice (some ⟨b,0,none⟩) 1 1] (C::[(b,row (fl4 f0) 27)]::M.C k0) fun v H'=>
   ∃f C' e' k',v=flv f∧H'=C'::[(b,row (fl4 f0) 27)]::M.C k'∧JobS p B k a (s0+1) e' (er.or (M.bad k0 ts)) ((f,M.all k0 ts)::Gf) C'∧FB bound c width (M.all k0 ts).length e' f∧(e'=0→e=0∧k'=M.st k0 ts∧M.bad k0 ts=none):=by
 have h:=SMake hR hJ M k0 width bound c κ hwd mk hcal us ok hM hκ hκb [(f0,ts)] (by simpa using hs) (by simpa using h0) (by simp) _ 1 _ (vec1 b f0)
 rw[cat_one] at h
 exact h hok hbd hc hcB hl hst
theorem SMake1n (hR:Rm p B m k a) (hJ:JobS p B k a s0 e er Gf C) {K:Type} (M:Maker K) (hne:∀k t,M.err k t=none) (k0:K) (width bound c κ:Nat) (hwd:1≤width∧width≤5) (mk:Nat) (hcal:Callable Tryz.prog mk) (us:List Value) (ok:K→T5→Prop) (hM:MakeU M width ok mk [] us)
  (hκ:∀k t,ok k t→(M.outs k t).length≤κ) (hκb:κ≤5) (f0:Fl) (ts:List T5) (hs:(f0,ts)∈Gf∨In0 p (f0,ts)) (h0:f0.count≤1000∧f0.blocks≤1000) (hok:e=0→M.oks ok k0 ts) (hbd:e=0→(M.all k0 ts).length≤bound)
  (hc:bound≤c∨(width≤3∧bound≤2*c)) (hcB:c≤B) (hl:Gf.length+1≤k) (hst:s0≤10000) (b:Nat):
  Ct Tryz.prog 42 [pv p.bj,.int .i64 (width:Int),.int .i64 (bound:Int),.func (.func mk) #[] us.toArray,.slice (some ⟨b,0,none⟩) 1 1] (C::[(b,row (fl4 f0) 27)]::M.C k0) fun v H'=>
   ∃f C' e' k',v=flv f∧H'=C'::[(b,row (fl4 f0) 27)]::M.C k'∧JobS p B k a (s0+1) e' er ((f,M.all k0 ts)::Gf) C'∧FB bound c width (M.all k0 ts).length e' f∧(e'=0→e=0∧k'=M.st k0 ts):=by
 refine(SMake1 hR hJ M k0 width bound c κ hwd mk hcal us ok hM hκ hκb f0 ts hs h0 hok hbd hc hcB hl hst b).mono ?_
 rintro v H' ⟨f,C',e',k',h1,h2,h3,h4,h5⟩
 rw[Maker.bad_none hne,or_none'] at h3
 exact⟨f,C',e',k',h1,h2,h3,h4,fun h=>⟨(h5 h).1,(h5 h).2.1⟩⟩
theorem SMap1 (hR:Rm p B m k a) (hJ:JobS p B k a s0 e er Gf C) (g:T5→T5) (width bound c:Nat) (hwd:1≤width∧width≤5) (mk:Nat) (hcal:Callable Tryz.prog mk) (okt:T5→Prop) (hmk:∀bx t X R,PutC bx (g t) X R→Ct Tryz.prog mk [tv t,putV bx] [X] (TailR R)) (hokt:∀t,okt t→okT width (g t))
  (f0:Fl) (ts:List T5) (hs:(f0,ts)∈Gf∨In0 p (f0,ts)) (h0:f0.count≤1000∧f0.blocks≤1000) (hok:e=0→∀t∈ts,okt t) (hbd:e=0→ts.length≤bound)
  (hc:bound≤c∨(width≤3∧bound≤2*c)) (hcB:c≤B) (hl:Gf.length+1≤k) (hst:s0≤10000) (b:Nat):
  Ct Tryz.prog 42 [pv p.bj,.int .i64 (width:Int),.int .i64 (bound:Int),.func (.func mk) #[] #[],.slice (some ⟨b,0,none⟩) 1 1] [C,[(b,row (fl4 f0) 27)]] fun v H'=>
   ∃f C' e',v=flv f∧H'=[C',[(b,row (fl4 f0) 27)]]∧JobS p B k a (s0+1) e' er ((f,ts.map g)::Gf) C'∧FB bound c width ts.length e' f∧(e'=0→e=0):=by
 have h:=SMake1n hR hJ (mMap g) (fun _ _=>rfl) () width bound c 1 hwd mk hcal [] _ (MakeU.tail hmk hokt) (fun _ _ _=>Nat.le_refl _) (by omega) f0 ts hs h0
  (fun h=>Maker.oks_of (M:=mMap g) (I:=fun _=>True) (Q:=okt) (fun _ t _ h=>⟨h,trivial⟩) ts () trivial (hok h)) (by rw[mMap_all,List.length_map];exact hbd) hc hcB hl hst b
 refine h.mono ?_
 rintro v H' ⟨f,C',e',k',h1,h2,h3,h4,h5⟩
 rw[mMap_all] at h3 h4
 rw[List.length_map] at h4
 exact⟨f,C',e',h1,h2,h3,h4,fun h=>(h5 h).1⟩
theorem SSort (hR:Rm p B m k a) (hJ:JobS p B k a s0 e er Gf C) (f:Fl) (ts:List T5) (G':List (Fl×List T5)) (o:T5) (ho:formed o=true) (once:Bool) {b c w n:Nat} (hf:FB b c w n e f) (hP:Pk (f,ts) Gf G') (hb:b≤1000) (hcB:c≤B) (hT:sortT c≤m) (hst:s0≤10000):
  Ct Tryz.prog 44 [pv p.bj,flv f,tv o,.bool once] [C] fun v H'=>
   ∃g C' e',v=flv g∧H'=[C']∧JobS p B k a (s0+1) e' er ((g,srt (ltO o) once ts)::G') C'∧FB b c w (srt (ltO o) once ts).length e' g∧(e'=0→e=0):=by
 have hB:=hR.bs
 have hac:=hR.acts
 have hcn:=hf.cnt
 have hbl:=hf.blk
 have h2:s0*30000≤10000*30000:=Nat.mul_le_mul hst (Nat.le_refl _)
 have hle:=hP.perm.length_eq
 have hT2:sortT f.blocks≤sortT c:=sortT_mono hbl
 have hsm:sortT f.blocks≤30000:=by
  have h1:=sortT_le (b:=f.blocks) (m:=1000) (l:=5) (by omega) (by decide)
  exact Nat.le_trans h1 (nle rfl)
 refine(JSort p hR.ok _ C hJ.job f ts G' o ho once 20000 (sortT f.blocks) (fun _=>hP.perm) (fun _=>Nat.le_refl _) (fun _=>hR.fits hJ.len hJ.blk (by omega) _ _ _ _) (fun _=>sortA_small (by omega)) (by dsimp only;omega) (by omega)).mono ?_
 rintro v H' ⟨g,C',e',rfl,rfl,h3,h4,h5,h6⟩
 refine⟨g,C',e',rfl,rfl,⟨?_,?_,?_⟩,⟨by omega,by omega,fun h=> ?_⟩,fun h=>(h4 h).1⟩
 ·have e1:(s0+1)*30000=s0*30000+1*30000:=Nat.add_mul _ _ _
  refine h3.weak rfl rfl rfl (by dsimp only;omega) ?_
  show s0*30000+sortT f.blocks≤(s0+1)*30000
  rw[e1]
  exact Nat.add_le_add_left hsm _
 ·have:=hJ.len;simp only[List.length_cons] at hle⊢;omega
 ·intro x hx
  rcases List.mem_cons.1 hx with rfl|hx
  ·dsimp only;omega
  ·exact hJ.blk x (hP.perm.mem_iff.2 (List.mem_cons_of_mem _ hx))
 ·obtain⟨h7,h8,h9⟩:=h4 h
  exact⟨h8.trans (hf.ok h7).1,h9⟩
theorem SFree (hR:Rm p B m k a) (hJ:JobS p B k a s0 e er Gf C) (fts G':List (Fl×List T5)) (hP:Pks fts Gf G') (hfl:fts.length≤1000) (pa:Option Addr) (cap:Nat) (cf:Chunk) (hV:Vec 27 4 pa (fts.map (·.1)).length cap (fcells (fts.map (·.1))) cf):
  Ct Tryz.prog 110 [pv p.bj,.slice pa (fts.map (·.1)).length cap] [C,cf] fun v H'=>∃C',v= .tuple #[]∧H'=[C',cf]∧JobS p B k a s0 e er G' C':=by
 refine(JFree p hR.ok _ C hJ.job (fts.map (·.1)) fts G' (fun _=>⟨hP.perm,rfl⟩) (by rw[List.length_map];exact hfl) pa cap cf hV).mono ?_
 rintro v H' ⟨C',rfl,rfl,h⟩
 have hle:=hP.perm.length_eq
 exact⟨C',rfl,rfl,h,by have:=hJ.len;rw[List.length_append] at hle;omega,fun x hx=>hJ.blk x (hP.perm.mem_iff.2 (List.mem_append_right _ hx))⟩
theorem SRun (hR:Rm p B m k a) (hJ:JobS p B k a s0 e er Gf C) (mk:Nat) (hcal:Callable Tryz.prog mk) (us:List Value) (Hx:Hp) (A T q:Nat) (er':Option Nat) (ts:List T5) (hA:A≤q*30000) (hT:T≤q*30000) {b c w n:Nat}
  (hst:e=0→∀x y,x≤a+s0*30000→StepCt p ⟨e,er,Gf,x,y⟩ mk us Hx A T er' ts fun f e Hx'=>Hx'=Hx∧FB b c w n e f) (hcB:c≤B) (hl:Gf.length+1≤k):
  Ct Tryz.prog 45 [pv p.bj,.func (.func mk) #[] us.toArray] (C::Hx) fun v H'=>∃f C' e',v=flv f∧H'=C'::Hx∧JobS p B k a (s0+q) e' (er.or er') ((f,ts)::Gf) C'∧FB b c w n e' f∧(e'=0→e=0):=by
 have hkk:=hR.kk
 refine(JRunK p hR.ok _ C hJ.job mk hcal us Hx A T er' ts _ (fun h=>hst h _ _ (Nat.le_refl _)) (by have:=hJ.len;dsimp only;omega)).mono ?_
 rintro v H' ⟨f,C',e',rfl,rfl,h3,h4⟩
 dsimp only at h3 h4
 have hf:FB b c w n e' f∧(e'=0→e=0):=by
  rcases h4 with⟨h5,h6⟩|⟨h5,h6,rfl⟩
  ·exact⟨h6,fun _=>h5⟩
  ·exact⟨⟨Nat.zero_le _,Nat.zero_le _,fun h=>absurd (h6▸h) h5⟩,fun h=>absurd (h6▸h) h5⟩
 have:=hf.1.blk
 exact⟨f,C',e',rfl,rfl,hJ.push hl q h3 hA hT (by omega),hf.1,hf.2⟩
def LookS (p:Jp) (J:Jb) (fa fb:Fl) (key value to A T:Nat) (ts:List T5) (R:Fl→Int→Prop):Prop:=
 ∀W cd ca cs held,Wc p.bd p.ba p.bs W cd ca cs→JobW p J held W→
  Ct Tryz.prog 47 [pv p.bw,flv fa,.int .i64 (key:Int),flv fb,.int .i64 (value:Int),.int .i64 (to:Int)] [wrow p.bw p.bd p.ba p.bs,cd,ca,cs] fun v H'=>
   ∃f e cd' ca' cs' W',v= .tuple #[flv f,.int .i64 e]∧H'=[wrow p.bw p.bd p.ba p.bs,cd',ca',cs']∧Wc p.bd p.ba p.bs W' cd' ca' cs'∧Stepped p W W' A T none ts f e∧R f e
theorem SLook (hR:Rm p B m k a) (hlen:Gf.length≤k) (hblk:∀x∈Gf,x.1.blocks≤B) (fa fb:Fl) (ats bts:List T5) (hsa:(fa,ats)∈Gf∨In0 p (fa,ats)) (hsb:(fb,bts)∈Gf∨In0 p (fb,bts)) (key value to w c:Nat) (ha:fa.count≤1000∧fa.blocks≤1000) (hb:fb.count≤1000∧fb.blocks≤1000)
  (hkey:key<fa.width) (hval:value<fb.width) (hto:to<5) (hwm:max fa.width (to+1)=w) (hw5:w≤5) (hsort:ats.Pairwise fun a c=>a.col key≤c.col key) (hrise:bts.Pairwise fun a c=>a.c0<c.c0)
  (hc:fa.count≤c∨(w≤3∧fa.count≤2*c)) (hcB:c≤B) (x y:Nat) (hx:x≤900000000):
  LookS p ⟨0,er,Gf,x,y⟩ fa fb key value to 10000 c (ats.map (lookF bts key value to)) (fun f e=>FB fa.count c w fa.count e f):=by
 intro W cd ca cs held hW hJW
 have hm:=hR.le
 have hB:=hR.bs
 have hw1:1≤w:=by omega
 have hnb:=nbS (s:=p.size) hR.ok.size.1 hw1 hw5 hc
 rw[←hwm] at hnb
 refine(Look_step p hR.ok _ rfl fa fb ats bts hsa hsb (by omega) (by omega) key value to hkey hval hto hsort hrise 10000 c hnb (hR.fits hlen hblk (by omega) _ _ _ _) (by omega) (by dsimp only;omega) W cd ca cs held hW hJW).mono ?_
 rintro v H' ⟨f,e,cd',ca',cs',W',h1,h2,h3,h4,h5,h6,h7⟩
 exact⟨f,e,cd',ca',cs',W',h1,h2,h3,h4,h5,Nat.le_trans h6 hnb,fun h=>by rw[←hwm];exact h7 h⟩
theorem SLookRun (hR:Rm p B m k a) (hJ:JobS p B k a s0 e er Gf C) (mk:Nat) (hcal:Callable Tryz.prog mk) {us:List Value} {Hx:Hp} (fa fb:Fl) (ats bts:List T5) (key value to w c:Nat) (hsa:(fa,ats)∈Gf∨In0 p (fa,ats)) (hsb:(fb,bts)∈Gf∨In0 p (fb,bts))
  (hcl:∀(J:Jb) (A T:Nat) (ts:List T5) (R:Fl→Int→Prop),LookS p J fa fb key value to A T ts R→StepCt p J mk us Hx A T none ts fun f e Hx'=>Hx'=Hx∧R f e)
  {ba ca wa na bb cb wb nb:Nat} (hfa:FB ba ca wa na e fa) (hfb:FB bb cb wb nb e fb) (hbb:ba≤1000∧ca≤1000∧bb≤1000∧cb≤1000) (hkey:key<wa) (hval:value<wb) (hto:to<5) (hwm:max wa (to+1)=w) (hw5:w≤5)
  (hsort:e=0→ats.Pairwise fun a c=>a.col key≤c.col key) (hrise:e=0→bts.Pairwise fun a c=>a.c0<c.c0) (hc:ba≤c∨(w≤3∧ba≤2*c)) (hcB:c≤B) (hl:Gf.length+1≤k) (hst:s0≤10000):
  Ct Tryz.prog 45 [pv p.bj,.func (.func mk) #[] us.toArray] (C::Hx) fun v H'=>∃f C' e',v=flv f∧H'=C'::Hx∧JobS p B k a (s0+1) e' er ((f,ats.map (lookF bts key value to))::Gf) C'∧FB ba c w na e' f∧(e'=0→e=0):=by
 have hB:=hR.bs
 have hac:=hR.acts
 have h1:=hfa.cnt
 have h2:=hfa.blk
 have h3:=hfb.cnt
 have h4:=hfb.blk
 have h5:s0*30000≤10000*30000:=Nat.mul_le_mul hst (Nat.le_refl _)
 have h:=SRun hR hJ mk hcal us Hx 10000 c 1 none (ats.map (lookF bts key value to)) (by decide) (by omega) (b:=ba) (c:=c) (w:=w) (n:=na) (fun he x y hx=>by
  subst he
  obtain⟨q1,q2⟩:=hfa.ok rfl
  obtain⟨q3,q4⟩:=hfb.ok rfl
  have hS:=SLook hR hJ.len hJ.blk (er:=er) fa fb ats bts hsa hsb key value to w c (by omega) (by omega) (by omega) (by omega) hto (by rw[q1];exact hwm) hw5 (hsort rfl) (hrise rfl) (by omega) hcB x y (by omega)
  have hS2:=hcl _ _ _ _ _ hS
  intro W cd ca cs held ph cap h1 h2
  refine(hS2 W cd ca cs held ph cap h1 h2).mono ?_
  rintro v H' ⟨f,e,cd',ca',cs',W',Hx',a1,a2,a3,a4,a5,a6⟩
  exact⟨f,e,cd',ca',cs',W',Hx',a1,a2,a3,a4,a5,⟨Nat.le_trans a6.cnt (by omega),a6.blk,fun h=>⟨(a6.ok h).1,by rw[(a6.ok h).2];exact q2⟩⟩⟩) hcB hl
 rw[or_none'] at h
 exact h
theorem SResult (hR:Rm p B m k a) (hJ:JobS p B k a s0 e er Gf C) (f:Fl) (b:Nat):
  Ct Tryz.prog 52 [pv p.bj,.slice (some ⟨b,0,none⟩) 1 1] [C,[(b,row (fl4 f) 27)]] fun v H'=>∃cd ca cs W,v= .int .i64 e∧H'=[wrow p.bw p.bd p.ba p.bs,cd,ca,cs,[(b,row (fl4 f) 27)]]∧Wc p.bd p.ba p.bs W cd ca cs∧DoneW p ⟨e,er,Gf,a+s0*30000,s0*30000⟩ [f] W:=
 JResult1 p hR.ok _ C hJ.job f b
end
theorem fl4len (f:Fl):(fl4 f).length=4:=rfl
def sumB (fs:List Fl):Nat:=(fs.map (·.blocks)).sum
theorem sumB_take {fs:List Fl} {i:Nat} {f:Fl} (h:fs[i]? =some f):sumB (fs.take (i+1))=sumB (fs.take i)+f.blocks:=by
 unfold sumB;rw[List.take_add_one,h];simp
theorem sumB_le (fs:List Fl) (i:Nat):sumB (fs.take i)≤sumB fs:=by
 have h:=congrArg sumB (List.take_append_drop i fs)
 unfold sumB at h⊢
 rw[List.map_append,List.sum_append] at h
 omega
theorem ar_peak {ba:Nat} {α:Ar} {c:Chunk} (h:IsAr ba α c):α.peak≤α.room:=by
 obtain⟨c0,⟨bm,ck,_,h1⟩,_⟩:=h
 omega
def Wk.flt (W:Wk) (n:Int):Wk:={W with δ:={W.δ with fault:=n}}
theorem Wc.flt {bd ba bs:Nat} {W:Wk} {cd ca cs cd':Chunk} {n:Int} (h:Wc bd ba bs W cd ca cs) (hd:IsDev bd {W.δ with fault:=n} cd'):Wc bd ba bs (W.flt n) cd' ca cs:=⟨hd,h.ar,h.sp,h.nn,h.live⟩
theorem free_sumN {bd ba bs:Nat} {W:Wk} {cd ca cs:Chunk} (h:Wc bd ba bs W cd ca cs) {fs:List Fl} (hl:W.live.Perm (addFs fs [])) {N:Nat} (hn:W.σ.n=N):total W.σ.free+sumB fs=N:=by
 have h1:=free_is h hl
 rw[total_addFs] at h1
 unfold sumB
 rw[show total []=0 from rfl] at h1
 omega
theorem free_sum {bd ba bs:Nat} {W:Wk} {cd ca cs:Chunk} (h:Wc bd ba bs W cd ca cs) {fs:List Fl} (hl:W.live.Perm (addFs fs [])) (hn:W.σ.n=9000):total W.σ.free+sumB fs=9000:=free_sumN h hl hn
theorem file_zero {W:Wk} {k:Nat} {bd:Nat} {cd:Chunk} (hd:IsDev bd W.δ cd) (h1:1≤k) (h2:k≤5):FileIn W (⟨0,0,k,0⟩,[]):=by
 obtain⟨⟨hs,_⟩,_⟩:=hd.num
 have hp:=holds_pos hs h1 h2
 refine⟨[],⟨h1,h2,rfl,Nat.zero_le _,?_,by simp,fun j hj=>absurd hj (Nat.not_lt_zero j),fun h=>absurd rfl h⟩,by simp⟩
 show 0=(0+holds W.δ.size k-1)/holds W.δ.size k
 rw[Nat.div_eq_of_lt (by omega)]
theorem work16ct (n:Nat) (hn:n≤1000):Ct Tryz.prog 14 [.int .i64 (n:Int)] [] fun v H'=>
  ∃bw bd ba bs cd ca cs,v=pv bw∧H'=[wrow bw bd ba bs,cd,ca,cs]∧Wc bd ba bs (wk0 10 9000 (10*n)) cd ca cs:=by
 have hDn:=DevNew_u 10 9000 (by omega) (by omega)
 have hAn:=ArenaNew_ct (10*n) (by omega)
 have hSn:=SpaceNew_ct 9000 (by omega) (by omega)
 have e1:IntKind.wrap .i64 ((10:Int)*(n:Int))=((10*n:Nat):Int):=by rw[wrap_i64 (by omega)];omega
 refine Ct.intro Tryz.func14 rfl Tryz.ntmps14 (nle rfl) fun w0=> ?_;dsimp only[argSlots,Nat.reduceAdd]
 repeat(refine st ?_;intros)
 refine R.call (hct:=hDn) (h:= ?_)
 rintro _ _ ⟨bd,cd,rfl,rfl,hdev⟩
 try dsimp only[List.cons_append,List.nil_append]
 repeat(refine st ?_;intros)
 refine R.call (hct:=hAn) (h:= ?_)
 rintro _ _ ⟨ba,ca,rfl,har,rfl⟩
 try dsimp only[List.cons_append,List.nil_append]
 repeat(refine st ?_;intros)
 refine R.call (hct:=hSn) (h:= ?_)
 rintro _ _ ⟨bs,cs,rfl,hsp,rfl⟩
 try dsimp only[List.cons_append,List.nil_append]
 have hFn:=FileNew_ct bd ba bs
 repeat(refine st ?_;intros)
 refine R.call (hct:=hFn) (h:= ?_)
 rintro _ _ ⟨bw,rfl,rfl⟩
 try dsimp only[List.cons_append,List.nil_append]
 repeat(refine st ?_;intros)
 (refine Dn.post (Hr:=[wrow bw bd ba bs,cd,ca,cs]) Tryz.results14 (hR:= ?_);exact⟨bw,bd,ba,bs,cd,ca,cs,rfl,rfl,wc0 (by omega) hdev har hsp⟩)
theorem clean16ct (bw bd ba bs:Nat) (W:Wk) (ca cs:Chunk) (har:IsAr ba W.α ca) (hsp:IsSpace bs W.σ cs) (p:Option Addr) (n cap:Nat) (fs:List Fl) (c:Chunk) (hv:Rw fl4 4 p n fs c) (hn:n≤100) (hu:W.α.used=0) (ht:total W.σ.free+sumB fs=9000):
  CtQ Tryz.prog 26 [pv bw,.slice p n cap] [wrow bw bd ba bs,ca,cs,c] (.bool true):=by
 have hl:=hv.1
 have hWA:=WArena_ct bw bd ba bs
 have hWS:=WSpace_ct bw bd ba bs
 have hUs:=aUsed ba W.α ca har
 have hPk:=aPeak ba W.α ca har
 have hRm:=aRoom ba W.α ca har
 have hFr:=SFree_ct bs W.σ cs hsp
 have hpk:=ar_peak har
 rw[hu] at hUs
 refine Ct.intro Tryz.func26 rfl Tryz.ntmps26 (nle rfl) fun w0=> ?_;dsimp only[argSlots,Nat.reduceAdd]
 repeat(first|(refine st ?_;intros)|(refine cq hWA ?_)|(refine cq hWS ?_)|(refine cq hUs ?_)|(refine cq hFr ?_)|(refine cq hPk ?_)|(refine cq hRm ?_))
 refine G.loop (X:=Nat) (fun i=>i≤n) (fun i=>[(6,.int .i64 (i:Int)),(5,.int .i64 (sumB (fs.take i):Int)),(1,.slice p n cap),(0,pv bw)])
  (fun _=>[wrow bw bd ba bs,ca,cs,c]) (fun i=>n-i) 0 (Nat.zero_le _) (body:= ?_)
 intro i hi
 have hsl:=sumB_le fs i
 by_cases hlt:i<n
 ·obtain⟨b,off,cc,T,fz,rfl,rfl,_,hget⟩:=hv.pos fl4len (by omega)
  have hit:fs[i]? =some fs[i]:=List.getElem?_eq_getElem (by omega)
  have q1:=hget i 1 _ _ hit rfl
  have hst:=sumB_take hit
  have hsl2:=sumB_le fs (i+1)
  generalize fs[i]=f at*
  have e1:IntKind.wrap .i64 ((sumB (fs.take i):Int)+(f.blocks:Int))=((sumB (fs.take (i+1)):Nat):Int):=by rw[wrap_i64 (by omega)];omega
  repeat(first|(refine st ?_;intros)|(refine cq hWA ?_)|(refine cq hWS ?_)|(refine cq hUs ?_)|(refine cq hFr ?_)|(refine cq hPk ?_)|(refine cq hRm ?_))
  refine Dn.round (i+1) (by omega) (by omega)
 ·obtain rfl:i=n:=by omega
  rw[List.take_of_length_le (by omega)]
  have e1:IntKind.wrap .i64 ((9000:Int)-(sumB fs:Int))=(total W.σ.free:Int):=by rw[wrap_i64 (by omega)];omega
  repeat(first|(refine st ?_;intros)|(refine cq hWA ?_)|(refine cq hWS ?_)|(refine cq hUs ?_)|(refine cq hFr ?_)|(refine cq hPk ?_)|(refine cq hRm ?_))
  (refine Dn.post (Hr:=[wrow bw bd ba bs,ca,cs,c]) Tryz.results26 (hR:= ?_);exact⟨congrArg Value.bool (dec_true (by omega)),rfl⟩)
theorem Fail_raw (bj bw:Nat) (e:Int) (p:Option Addr) (n cap:Nat) (m:Nat) (hm:m≤1000):
  Ct Tryz.prog 93 [pv bj,.int .i64 (m:Int)] [jrow bj bw e p n cap] fun v H'=>v= .tuple #[]∧H'=[jrow bj bw (if e=0 then(m:Int) else e) p n cap]:=by
 unfold jrow
 by_cases he:e=0
 ·subst he
  rw[if_pos rfl]
  refine Ct.intro Tryz.func93 rfl Tryz.ntmps93 (nle rfl) fun w0=> ?_;dsimp only[argSlots,Nat.reduceAdd]
  repeat(refine st ?_;intros)
  (refine Dn.postEnd (Hr:=[[(bj,row [pv bw,.int .i64 (m:Int),.slice p n cap] 95)]]) Tryz.results93 (hR:= ?_);exact⟨rfl,rfl⟩)
 ·rw[if_neg he]
  refine Ct.intro Tryz.func93 rfl Tryz.ntmps93 (nle rfl) fun w0=> ?_;dsimp only[argSlots,Nat.reduceAdd]
  repeat(refine st ?_;intros)
  (refine Dn.postEnd (Hr:=[[(bj,row [pv bw,.int .i64 e,.slice p n cap] 95)]]) Tryz.results93 (hR:= ?_);exact⟨rfl,rfl⟩)
theorem JobS.orE {p:Jp} {B k a s0:Nat} {e:Int} {er:Option Nat} {Gf:List (Fl×List T5)} {C:Chunk} (h:JobS p B k a s0 e er Gf C) (x:Option Nat) (hx:e=0→x=none):JobS p B k a s0 e (er.or x) Gf C:=by
 obtain⟨⟨W,cd,ca,cs,held,ph,cap,ch,h1,hW,hV,hJW⟩,hl,hb⟩:=h
 refine⟨⟨W,cd,ca,cs,held,ph,cap,ch,h1,hW,hV,{hJW with ok:=fun h=> ?_,why:=fun h=> ?_}⟩,hl,hb⟩
 ·obtain⟨a,b⟩:=hJW.ok h
  dsimp only at b
  exact⟨a,by rw[b,hx h];rfl⟩
 ·refine(hJW.why h).imp id ?_
  rintro⟨n,h1,h2⟩
  dsimp only at h1 h2
  exact⟨n,by rw[h1];rfl,h2⟩
theorem SFail {p:Jp} {B k a s0:Nat} {e:Int} {er:Option Nat} {Gf:List (Fl×List T5)} {C:Chunk} (hJ:JobS p B k a s0 e er Gf C) (m:Nat) (hm0:m≠0) (hm:m≤1000) (x:Option Nat) (hx:e=0→x=some m):
  Ct Tryz.prog 93 [pv p.bj,.int .i64 (m:Int)] [C] fun v H'=>∃e' C',v= .tuple #[]∧H'=[C']∧JobS p B k a s0 e' (er.or x) Gf C'∧e'≠0:=by
 obtain⟨⟨W,cd,ca,cs,held,ph,cap,ch,rfl,hW,hV,hJW⟩,hl,hb⟩:=hJ
 refine Ct.convP (Ct.wide (Fail_raw p.bj p.bw e ph held.length cap m hm) [wrow p.bw p.bd p.ba p.bs,cd,ca,cs,ch]) (by unfold jobC;refine permC fun z=> ?_;simp only[List.flatten_cons,List.flatten_nil,List.append_nil,List.flatten_append,List.count_append];omega) ?_
 rintro v H' ⟨H1,⟨rfl,rfl⟩,rfl⟩
 have hne:(if e=0 then(m:Int) else e)≠0:=by split<;>omega
 refine⟨[jobC p (if e=0 then(m:Int) else e) cd ca cs ph held.length cap ch],⟨_,_,rfl,rfl,⟨⟨W,cd,ca,cs,held,ph,cap,ch,rfl,hW,hV,{hJW with ok:=fun h=>absurd h hne,why:=fun _=> ?_}⟩,hl,hb⟩,hne⟩,?_⟩
 ·have hv:∀z:Int,z=(if e=0 then(m:Int) else e)→(z=6∧p.fl)∨∃n:Nat,er.or x=some n∧z=(n:Int):=by
   rintro z rfl
   by_cases he:e=0
   ·have:=(hJW.ok he).2
    dsimp only at this
    rw[if_pos he,this,hx he]
    exact .inr ⟨m,rfl,rfl⟩
   ·rw[if_neg he]
    refine(hJW.why he).imp id ?_
    rintro⟨n,h1,h2⟩
    dsimp only at h1 h2
    exact⟨n,by rw[h1];rfl,h2⟩
  exact hv _ rfl
 ·unfold jobC;refine permC fun z=> ?_;simp only[List.flatten_cons,List.flatten_nil,List.append_nil,List.flatten_append,List.count_append];omega
def SeeU {K:Type} (M:Maker K) (ok:K→T5→Prop) (mk:Nat) (us:List Value):Prop:=
 ∀k t,ok k t→Ct Tryz.prog mk ([tv t]++us) (M.C k) fun v H'=>∃k',H'=M.C k'∧((v= .int .i64 0∧M.err k t=none∧k'=M.next k t)∨(∃n:Nat,M.err k t=some n∧n≠0∧v= .int .i64 (n:Int)))
def seeZ {K:Type} (M:Maker K) (W0:Wk) (k0:K) (ts:List T5):Seer K where
 own _:=[]
 C r:=(M.C r).flatten
 J W r i:=W.δ.disk=W0.δ.disk∧W.σ=W0.σ∧W.live=W0.live∧(W0.δ.fault= -1→W.δ.fault= -1)∧r=M.st k0 (ts.take i)∧M.bad k0 (ts.take i)=none
 B W r e:=W.δ.disk=W0.δ.disk∧W.σ=W0.σ∧W.live=W0.live∧((e=6∧W0.δ.fault≠-1)∨∃n:Nat,M.bad k0 ts=some n∧n≠0∧e=(n:Int))
 κ:=0
theorem seeZ_ok {K:Type} (M:Maker K) (W0:Wk) (k0:K) (ts:List T5):(seeZ M W0 k0 ts).Ok where
 stay:=by
  rintro W W' r i ⟨h1,h2,h3,h4,h5⟩ _ hd hs hl hf
  exact⟨hd.trans h1,hs.trans h2,hl.trans h3,fun e=>hf (h4 e),h5⟩
 flt:=by
  rintro W W' r i ⟨h1,h2,h3,h4,h5⟩ hf hd hs hl
  refine⟨by rw[hd];exact h1,hs.trans h2,hl.trans h3,.inl ⟨rfl,fun e=>by have:=h4 e;omega⟩⟩
 stayB:=by
  rintro W α r e ⟨h1,h2,h3,h4⟩
  exact⟨h1,h2,h3,h4⟩
theorem Over_raw (bj bw:Nat) (p:Option Addr) (n cap:Nat) (f:Fl) (mk:Nat) (us:List Value) (Hc:Chunk) (Q:Int→Chunk→Prop)
  (hO:Ct Tryz.prog 90 [pv bw,flv f,.func (.func mk) #[] us.toArray] [Hc] fun v H'=>∃e Hc',v= .int .i64 e∧H'=[Hc']∧Q e Hc'):
  Ct Tryz.prog 137 [pv bj,flv f,.func (.func mk) #[] us.toArray] [jrow bj bw 0 p n cap,Hc] fun v H'=>∃e Hc',v= .tuple #[]∧H'=[jrow bj bw e p n cap,Hc']∧Q e Hc':=by
 have hflv:flv f= .agg #[.int .i64 (f.first:Int),.int .i64 (f.blocks:Int),.int .i64 (f.width:Int),.int .i64 (f.count:Int)]:=rfl
 rw[hflv] at hO⊢
 unfold jrow
 refine Ct.intro Tryz.func137 rfl Tryz.ntmps137 (nle rfl) fun w0=> ?_;dsimp only[argSlots,Nat.reduceAdd]
 repeat(first|(refine st ?_;intros)|refine G.draw [] (h:= ?_))
 refine R.callX (hct:=hO) (h:= ?_)
 rintro _ _ ⟨e,Hc',rfl,rfl,hQ⟩
 dsimp only[List.cons_append,List.nil_append]
 constructor
 ·(·(first|(intro _ _ h;cases h;done)|(repeat(first|exact qok_nil|(apply qok_cons;(·first|(intro hc;exact absurd hc (nmem rfl))|(intro _;apply CellPr.mk;(·repeat(first|exact Has.here|apply Has.there));(first|exact rfl|assumption))|(intro _;apply CellsPr.mk;(·repeat(first|exact Has.here|apply Has.there));(first|exact rfl|assumption))))))))
 repeat(first|(refine st ?_;intros)|refine G.draw [] (h:= ?_))
 (refine Dn.postEnd (Hr:=[[(bj,row [pv bw,.int .i64 e,.slice p n cap] 95)],Hc']) Tryz.results137 (hR:= ?_);exact⟨e,Hc',rfl,rfl,hQ⟩)
theorem Over_no (bj bw:Nat) (e:Int) (he:e≠0) (p:Option Addr) (n cap:Nat) (f:Fl) (x:Value):
  CtQ Tryz.prog 137 [pv bj,flv f,x] [jrow bj bw e p n cap] (.tuple #[]):=by
 have hflv:flv f= .agg #[.int .i64 (f.first:Int),.int .i64 (f.blocks:Int),.int .i64 (f.width:Int),.int .i64 (f.count:Int)]:=rfl
 rw[hflv]
 unfold jrow
 refine Ct.intro Tryz.func137 rfl Tryz.ntmps137 (nle rfl) fun w0=> ?_;dsimp only[argSlots,Nat.reduceAdd]
 repeat(first|(refine st ?_;intros)|refine G.draw [] (h:= ?_))
 (refine Dn.postEnd (Hr:=[[(bj,row [pv bw,.int .i64 e,.slice p n cap] 95)]]) Tryz.results137 (hR:= ?_);exact⟨rfl,rfl⟩)
theorem SOver {p:Jp} {B m k a s0:Nat} {e:Int} {er:Option Nat} {Gf:List (Fl×List T5)} {C:Chunk} (hR:Rm p B m k a) (hJ:JobS p B k a s0 e er Gf C) {K:Type} (M:Maker K) (k0:K) (mk:Nat) (hcal:Callable Tryz.prog mk) (us:List Value) (ok:K→T5→Prop) (hM:SeeU M ok mk us)
  (f:Fl) (ts:List T5) (hs:(f,ts)∈Gf∨In0 p (f,ts)) (h0:f.count≤1000∧f.blocks≤1000) (hok:e=0→M.oks ok k0 ts) (hst:s0≤10000):
  Ct Tryz.prog 137 [pv p.bj,flv f,.func (.func mk) #[] us.toArray] (C::M.C k0) fun v H'=>
   ∃C' e' k',v= .tuple #[]∧H'=C'::M.C k'∧JobS p B k a (s0+1) e' (er.or (M.bad k0 ts)) Gf C'∧(e'=0→e=0∧k'=M.st k0 ts∧M.bad k0 ts=none):=by
 obtain⟨⟨W,cd,ca,cs,held,ph,cap,ch,rfl,hW,hV,hJW⟩,hl,hb⟩:=hJ
 have hac:=hR.acts
 have hst2:s0*30000≤10000*30000:=Nat.mul_le_mul hst (Nat.le_refl _)
 have e1:(s0+1)*30000=s0*30000+1*30000:=Nat.add_mul _ _ _
 by_cases he:e=0
 ·subst he
  obtain⟨Lv,hfo,hsub⟩:=hJW.file (hs.imp (fun h=>(hJW.ok rfl).1.mem_iff.2 h) id)
  dsimp only at hfo
  have hus:=hJW.used hR.ok hW
  have hsz:=hR.ok.size.1
  have hja:=hJW.acts
  dsimp only at hja
  have hO:=Over_ct p.bw p.bd p.ba p.bs (seeZ M W k0 ts) (seeZ_ok M W k0 ts) f ts Lv mk hcal [] us W.δ.size W.α.room (by
   intro base W1 cd1 ca1 cs1 r1 i u hW1 hg1 hrm1 hsz1 hJ1 hu hac1
   obtain⟨j1,j2,j3,j4,rfl,j6⟩:=hJ1
   have hoku:=Maker.oks_at (hok rfl) j6 hu
   refine Ct.convP (Ct.wide (hM _ u hoku) [wrow p.bw p.bd p.ba p.bs,cd1,ca1,cs1]) (by refine permC fun z=> ?_;simp only[seeZ,List.flatten_cons,List.flatten_nil,List.append_nil,List.flatten_append,List.count_append];omega) ?_
   rintro v H' ⟨H1,⟨k',rfl,hc⟩,rfl⟩
   have hx:([wrow p.bw p.bd p.ba p.bs,cd1,ca1,cs1,(M.C k').flatten]:Hp).flatten.Perm (M.C k'++[wrow p.bw p.bd p.ba p.bs,cd1,ca1,cs1]).flatten:=by
    refine permC fun z=> ?_;simp only[List.flatten_cons,List.flatten_nil,List.append_nil,List.flatten_append,List.count_append];omega
   rcases hc with⟨rfl,h1,rfl⟩|⟨n,h1,h2,rfl⟩
   ·refine⟨_,⟨cd1,ca1,cs1,W1,M.next (M.st k0 (ts.take i)) u,0,rfl,rfl,hW1,(Ev.refl W1).weak (Nat.zero_le _) (Nat.le_refl _),hg1,fun _=>⟨j1,j2,j3,j4,?_,?_⟩,fun h=>absurd rfl h⟩,hx.symm⟩
    ·rw[Maker.take_succ hu,Maker.st_app];rfl
    ·rw[Maker.take_succ hu,Maker.bad_app,j6];simp[Maker.bad,h1]
   ·refine⟨_,⟨cd1,ca1,cs1,W1,k',(n:Int),rfl,rfl,hW1,(Ev.refl W1).weak (Nat.zero_le _) (Nat.le_refl _),hg1,fun h=>by omega,fun _=>⟨j1,j2,j3,.inr ⟨n,?_,h2,rfl⟩⟩⟩,hx.symm⟩
    apply Maker.bad_take (i:=i+1)
    rw[Maker.take_succ hu,Maker.bad_app,j6];simp[Maker.bad,h1]) W cd ca cs hW k0 W.α.gs (.refl _) rfl rfl ⟨rfl,rfl,rfl,id,by simp[Maker.st],by simp[Maker.bad]⟩
   (fun W1 r1 i h1=>⟨by rw[h1.1];exact hfo,fun e he=>by rw[h1.2.2.1];exact hsub e he⟩) (by omega) (by
    have h1:nblocks W.δ.size f.width f.count≤f.count:=nblocks_le (holds_pos hW.dev.num.1.1 hfo.w1 hfo.w2)
    show _+_+_*0≤_
    omega) (by omega)
  have hO2:Ct Tryz.prog 90 [pv p.bw,flv f,.func (.func mk) #[] us.toArray] [[wrow p.bw p.bd p.ba p.bs,cd,ca,cs,(M.C k0).flatten].flatten] fun v H'=>∃e Hc',v= .int .i64 e∧H'=[Hc']∧
    ∃cd' ca' cs' W' k',Hc'=[wrow p.bw p.bd p.ba p.bs,cd',ca',cs',(M.C k').flatten].flatten∧Wc p.bd p.ba p.bs W' cd' ca' cs'∧Ev W W' (nblocks W.δ.size f.width f.count+f.count*0) 0∧W'.α.gs.Perm W.α.gs∧(e=0→(seeZ M W k0 ts).J W' k' f.count)∧(e≠0→(seeZ M W k0 ts).B W' k' e):=by
   refine Ct.convP hO (by simp[seeZ]) ?_
   rintro v H' ⟨cd',ca',cs',W',r',e,rfl,rfl,a1,a2,a3,a4,a5⟩
   exact⟨[[wrow p.bw p.bd p.ba p.bs,cd',ca',cs',(M.C r').flatten].flatten],⟨e,_,rfl,rfl,cd',ca',cs',W',r',rfl,a1,a2,a3,a4,a5⟩,by simp[seeZ]⟩
  refine Ct.convP (Ct.wide (Over_raw p.bj p.bw ph held.length cap f mk us _ _ hO2) [ch]) (by unfold jobC;refine permC fun z=> ?_;simp only[List.flatten_cons,List.flatten_nil,List.append_nil,List.flatten_append,List.count_append];omega) ?_
  rintro v H' ⟨H1,⟨e',Hc',rfl,rfl,cd',ca',cs',W',k',rfl,hW',hE',hg',h4,h5⟩,rfl⟩
  have hnb:nblocks W.δ.size f.width f.count≤f.count:=nblocks_le (holds_pos hW.dev.num.1.1 hfo.w1 hfo.w2)
  have hsame:W'.δ.disk=W.δ.disk∧W'.σ=W.σ∧W'.live=W.live:=by
   by_cases h0:e'=0
   ·obtain⟨a,b,c,_⟩:=h4 h0;exact⟨a,b,c⟩
   ·obtain⟨a,b,c,_⟩:=h5 h0;exact⟨a,b,c⟩
  obtain⟨s1,s2,s3⟩:=hsame
  have hact:=hE'.acts.2
  have htk:ts.take f.count=ts:=by rw[←hfo.len,List.take_length]
  have her:=(hJW.ok rfl).2
  dsimp only at her
  refine⟨jobC p e' cd' ca' cs' ph held.length cap ch::M.C k',⟨_,e',k',rfl,rfl,⟨⟨W',cd',ca',cs',held,ph,cap,ch,rfl,hW',hV,⟨hg'.trans hJW.gs,hE'.room.trans hJW.room,hE'.size.trans hJW.size,by rw[s2];exact hJW.n,by rw[s3];exact hJW.live,by rw[s1];exact hJW.files,hJW.len,by rw[s1];exact hJW.keep,
   fun h=>hE'.fault (hJW.flt h),by dsimp only;omega,Nat.le_trans hJW.tk (by rw[s2];exact Nat.add_le_add_left (Nat.mul_le_mul_right _ (Nat.le_succ _)) _),fun h0=> ?_,fun h0=> ?_⟩⟩,hl,hb⟩,fun h0=> ?_⟩,?_⟩
  ·dsimp only at h0
   obtain⟨_,_,_,_,_,b⟩:=h4 h0
   rw[htk] at b
   exact⟨(hJW.ok rfl).1,by rw[her,b];rfl⟩
  ·dsimp only at h0⊢
   obtain⟨_,_,_,b⟩:=h5 h0
   rcases b with⟨b1,b2⟩|⟨n,b1,_,b2⟩
   ·refine .inl ⟨b1,?_⟩
    by_cases hf:p.fl
    ·exact hf
    ·exact absurd (hJW.flt hf) b2
   ·exact .inr ⟨n,by rw[her,b1];rfl,b2⟩
  ·obtain⟨_,_,_,_,a,b⟩:=h4 h0
   rw[htk] at a b
   exact⟨rfl,a,b⟩
  ·unfold jobC;refine permC fun z=> ?_;simp only[List.flatten_cons,List.flatten_nil,List.append_nil,List.flatten_append,List.count_append];omega
 ·refine Ct.convP (Ct.wide (Over_no p.bj p.bw e he ph held.length cap f (.func (.func mk) #[] us.toArray)) ([wrow p.bw p.bd p.ba p.bs,cd,ca,cs,ch]++M.C k0)) (by unfold jobC;refine permC fun z=> ?_;simp only[List.flatten_cons,List.flatten_nil,List.append_nil,List.flatten_append,List.count_append];omega) ?_
  rintro v H' ⟨H1,⟨rfl,rfl⟩,rfl⟩
  have hid:=hJW.idle he (M.bad k0 ts) Gf (1*30000) (1*30000)
  refine⟨jobC p e cd ca cs ph held.length cap ch::M.C k0,⟨_,e,k0,rfl,rfl,⟨⟨W,cd,ca,cs,held,ph,cap,ch,rfl,hW,hV,?_⟩,hl,hb⟩,fun h0=>absurd h0 he⟩,?_⟩
  ·rw[e1,←Nat.add_assoc];exact hid
  ·unfold jobC;refine permC fun z=> ?_;simp only[List.flatten_cons,List.flatten_nil,List.append_nil,List.flatten_append,List.count_append];omega
def mFl (Cx:Hp) (f:T5→List T5):Maker Unit:=⟨fun _=>Cx,fun _ t=>f t,fun _ _=>(),fun _ _=>none⟩
theorem mFl_all (Cx:Hp) (f:T5→List T5):∀(ts:List T5) (k:Unit),(mFl Cx f).all k ts=ts.flatMap f
 |[],_=>rfl
 |t::ts,k=>by simp only[Maker.all,mFl_all Cx f ts,List.flatMap_cons];rfl
theorem mFl_C (Cx:Hp) (f:T5→List T5) (k:Unit):(mFl Cx f).C k=Cx:=rfl
theorem SFl1 {p:Jp} {B m k a s0:Nat} {e:Int} {er:Option Nat} {Gf:List (Fl×List T5)} {C:Chunk} (hR:Rm p B m k a) (hJ:JobS p B k a s0 e er Gf C) (Cx:Hp) (f:T5→List T5) (width bound c κ:Nat) (hwd:1≤width∧width≤5) (mk:Nat) (hcal:Callable Tryz.prog mk) (us:List Value) (okt:T5→Prop)
  (hM:MakeU (mFl Cx f) width (fun _ t=>okt t) mk [] us) (hκ:∀t,okt t→(f t).length≤κ) (hκb:κ≤5) (f0:Fl) (ts:List T5) (hs:(f0,ts)∈Gf∨In0 p (f0,ts)) (h0:f0.count≤1000∧f0.blocks≤1000) (hok:e=0→∀t∈ts,okt t) (hbd:e=0→(ts.flatMap f).length≤bound)
  (hc:bound≤c∨(width≤3∧bound≤2*c)) (hcB:c≤B) (hl:Gf.length+1≤k) (hst:s0≤10000) (b:Nat):
  Ct Tryz.prog 42 [pv p.bj,.int .i64 (width:Int),.int .i64 (bound:Int),.func (.func mk) #[] us.toArray,.slice (some ⟨b,0,none⟩) 1 1] (C::[(b,row (fl4 f0) 27)]::Cx) fun v H'=>
   ∃g C' e',v=flv g∧H'=C'::[(b,row (fl4 f0) 27)]::Cx∧JobS p B k a (s0+1) e' er ((g,ts.flatMap f)::Gf) C'∧FB bound c width (ts.flatMap f).length e' g∧(e'=0→e=0):=by
 have h:=SMake1n hR hJ (mFl Cx f) (fun _ _=>rfl) () width bound c κ hwd mk hcal us _ hM (fun _ t ht=>hκ t ht) hκb f0 ts hs h0
  (fun h=>Maker.oks_of (M:=mFl Cx f) (I:=fun _=>True) (Q:=okt) (fun _ t _ h=>⟨h,trivial⟩) ts () trivial (hok h)) (by rw[mFl_all];exact hbd) hc hcB hl hst b
 simp only[mFl_all,mFl_C] at h
 refine h.mono ?_
 rintro v H' ⟨g,C',e',k',h1,h2,h3,h4,h5⟩
 exact⟨g,C',e',h1,h2,h3,h4,fun h=>(h5 h).1⟩
end Go.Proofs.YtammjnjpheobaaaGreat
