/-
  Parts of the proof, put together (10). No condition.
-/
import Derived.Laws.MathBits
import Derived.Test.YtaofijjjheiknaaGreatP9
set_option linter.unusedVariables false
set_option linter.unusedSimpArgs false
set_option linter.unnecessarySimpa false
set_option maxHeartbeats 4000000
open Bool renaming false_eq_true→CI
open Go.IntKind renaming wrap→AL
open Go.Proofs.Tryz renaming prog→AC
open List renaming cons_append→AA,nil_append→AB,mem_cons_self→AE,mem_cons_of_mem→AF,getElem?_eq_getElem→AG,length_append→AH,length_cons→AJ,getElem?_eq_some_iff→AK,mem_cons→AN,mem_map→AO,append_nil→AP,length_map→AQ,mem_append→AR,length_nil→AS,mem_singleton→AX,map_cons→AZ,mem_of_getElem?→A0,take_of_length_le→A5,range→BA,pairwise_iff_getElem→BB,flatMap_cons→BC,getElem?_append_right→BE,getElem?_map→BH,pairwise_cons→BI,drop_eq_getElem_cons→BM,take_add_one→BP,length_take→BQ,take_append_drop→BT,getElem?_drop→BU,mem_filter→BV,replicate→BX,getElem?_take→BY,flatMap_append→B9,pairwise_append→CB,rel_of_pairwise_cons→CE,map_nil→CL,length_singleton→CQ,getElem?_set_ne→CW,getElem_of_mem→DC,length_set→DE,getElem?_set_self→DK,replicate_succ→D6,set_append_right→D9
open List.Pairwise renaming nil→DJ
open Nat renaming reduceAdd→AD,le_refl→AI,zero_le→AT,succ_mul→BJ,lt_trichotomy→B5,add_zero→B6,sub_self→DS,not_lt_zero→ED
open Option.some renaming injEq→BG
open Go.Proofs.Tryz
open Go.Value renaming int→Z9
open Go.IntKind renaming i64→Z8
namespace Go.Proofs.YtaofijjjheiknaaGreat
open Go.SL Go.Tup Go.Srt
theorem Qn {a b:T5}:eqv (ltO o1) a b=true↔a.c0=b.c0:=by
 have h1:ltO o1 a b=false↔¬a.c0<b.c0:=by rw[←Pb];simp
 have h2:ltO o1 b a=false↔¬b.c0<a.c0:=by rw[←Pb];simp
 rw[Gv,h1,h2];omega
theorem vO (a:T5):eqv (ltO o1) a=fun b=>decide (a.c0=b.c0):=by
 funext b;cases h:eqv (ltO o1) a b with
 |true=>exact(decide_eq_true (Qn.1 h)).symm
 |false=>
  refine(decide_eq_false fun h2=>?_).symm;rw[Qn.2 h2] at h;cases h
theorem Pc (l:List T5):(srt (ltO o1) true l).Pairwise fun a c=>a.c0<c.c0:=
 (Lk (Eg o1) true l).imp fun {a b} h=>(Pb a b).1 oA15
theorem vP {l:List T5} {z:T5}:z∈srt (ltO o1) true l↔(l.filter fun b=>decide (z.c0=b.c0)).head? =some z:=by
 have hp:=Ws (Eg o1) true l z;have hs:=Pc l;rw[vO] at hp;simp only[Gk,if_true] at hp;have hh:∀m:List T5,m.head? =some z↔m.take 1=[z]:=by intro m;cases m<;>simp
 rw[hh,hp];constructor
 ·intro hz;have hm:z∈(srt (ltO o1) true l).filter fun b=>decide (z.c0=b.c0):=BV.2 ⟨hz,by simp⟩;have ab:((srt (ltO o1) true l).filter fun b=>decide (z.c0=b.c0)).Pairwise fun a c=>a.c0<c.c0:=hs.sublist List.filter_sublist;have aa:∀y∈(srt (ltO o1) true l).filter fun b=>decide (z.c0=b.c0),z.c0=y.c0:=fun y hy=>by simpa using(BV.1 hy).2
  generalize (srt (ltO o1) true l).filter (fun b=>decide (z.c0=b.c0))=m at*
  match m,hm,ab,aa with
  |[a],hm,_,_=>simp only[AX] at hm;subst hm;rfl
  |a::b::m,_,ab,aa=>
   have h1:=CE ab (AE (a:=b) (l:=m));have h2:=aa a oA19;have h3:=aa b oA19;omega
 ·intro h;have h1:z∈((srt (ltO o1) true l).filter fun b=>decide (z.c0=b.c0)).take 1:=by rw[h];exact AX.2 rfl
  exact(BV.1 (List.mem_of_mem_take h1)).1
theorem okT2eq {a b:T5} (ha:okT 2 a) (hb:okT 2 b) (h0:a.c0=b.c0) (h1:a.c1=b.c1):a=b:=by
 have e2:a.c2=b.c2:=by have x:=ha.2 2 oM;have y:=hb.2 2 oM;exact x.trans y.symm
 have e3:a.c3=b.c3:=by have x:=ha.2 3 oM;have y:=hb.2 3 oM;exact x.trans y.symm
 have e4:a.c4=b.c4:=by have x:=ha.2 4 oM;have y:=hb.2 4 oM;exact x.trans y.symm
 cases a;cases b;simp only[T5.mk.injEq];exact⟨h0,h1,e2,e3,e4⟩
theorem jG {m:List T5} (hm:∀t∈m,okT 2 t) {z:T5}:z∈srt (ltO o1) true (srt (ltO o12) false m)↔z∈m∧∀y∈m,y.c0=z.c0→z.c1≤y.c1:=by
 rw[vP];have hs:((srt (ltO o12) false m).filter fun b=>decide (z.c0=b.c0)).Pairwise fun a c=>a.c0<c.c0∨a.c0=c.c0∧a.c1≤c.c1:=((vN false m).imp fun h=>by simpa using h).sublist List.filter_sublist;have aa:∀y,y∈(srt (ltO o12) false m).filter (fun b=>decide (z.c0=b.c0))↔y∈m∧y.c0=z.c0:=fun y=>by rw[BV,(Bt m).mem_iff];simp[eq_comm]
 generalize (srt (ltO o12) false m).filter (fun b=>decide (z.c0=b.c0))=s at*;constructor
 ·intro h
  match s,h with
  |a::s,h=>
   simp only[List.head?_cons,BG] at h;subst h;refine⟨((aa a).1 AE).1,fun y hy hq=>?_⟩;rcases AN.1 ((aa y).2 ⟨hy,hq⟩) with rfl|h2
   ·omega
   ·have:=CE hs h2;omega
 ·rintro⟨hz,ab⟩;have h1:=(aa z).2 ⟨hz,rfl⟩
  match s,h1 with
  |a::s,h1=>
   simp only[List.head?_cons,BG];obtain⟨ha,hq⟩:=(aa a).1 AE;rcases AN.1 h1 with rfl|h2
   ·rfl
   ·have h3:=CE hs h2;have h4:=ab a ha hq;exact okT2eq (hm a ha) (hm z hz) hq oM
theorem jH {lt:T5→T5→Bool} (h:Swo lt) {x:T5}:∀{s:List T5},Sd lt true s→((∃y∈s,eqv lt x y=true)→(Ig lt true x s).length=s.length)∧((∀y∈s,eqv lt x y=false)→(Ig lt true x s).length=s.length+1)
 |[],_=>⟨fun ⟨_,h,_⟩=>(nomatch h),fun _=>rfl⟩
 |y::s,hs=>by
  obtain⟨h1,h2⟩:=BI.1 hs;obtain⟨i1,i2⟩:=jH h (x:=x) (s:=s) h2;unfold Ig;cases hyx:lt y x with
  |true=>
   have aa:eqv lt x y=false:=by simp[eqv,hyx]
   simp only[if_true,AJ];refine⟨?_,fun ha=>by rw[i2 fun z hz=>ha z (AF _ hz)]⟩;rintro⟨z,hz,he⟩;rcases AN.1 hz with rfl|hz
   ·rw[aa] at he;cases he
   ·rw[i1 ⟨z,hz,he⟩]
  |false=>
   simp only[CI,if_false];cases hxy:lt x y with
   |true=>
    simp only[Bool.not_true,Bool.and_false,CI,if_false,AJ,and_true];refine⟨?_,fun _=>trivial⟩;rintro⟨z,hz,he⟩;exfalso;rcases AN.1 hz with rfl|hz
    ·simp[eqv,hxy] at he
    ·have h3:=h1 z hz;simp only[if_true] at h3;obtain⟨a,b⟩:=Gv.1 he;have:=h.ntrans x z y a (h.asym _ _ h3);rw[hxy] at this;cases this
   |false=>
    simp only[Bool.not_false,Bool.and_true,if_true,AJ];refine⟨fun _=>trivial,fun ha=>?_⟩;have:=ha y AE;simp[eqv,hxy,hyx] at this
theorem jI:∀(l:List T5),(srt (ltO o1) true l).length=l.length↔l.Pairwise fun a c=>a.c0≠c.c0
 |[]=>by simp[srt]
 |x::l=>by
  have ih:=jI l;have ab:=aJ (lt:=ltO o1) (once:=true) l;obtain⟨h1,h2⟩:=jH (Eg o1) (x:=x) (Lk (Eg o1) true l);rw[BI];simp only[srt,AJ];by_cases hx:∀y∈srt (ltO o1) true l,eqv (ltO o1) x y=false
  ·rw[h2 hx];have h3:∀y∈l,x.c0≠y.c0:=by intro y hy hq;obtain⟨w,hw,he⟩:=aV (o:=o1) (once:=true) hy;have h4:=hx w hw;have h5:=Qn.1 he;rw[Qn.2 (hq.trans h5)] at h4;cases h4
   constructor
   ·intro h;exact⟨h3,ih.1 oM⟩
   ·rintro⟨_,h⟩;rw[ih.2 h]
  ·have aa:∃y∈srt (ltO o1) true l,eqv (ltO o1) x y=true:=by simp only[Classical.not_forall,Bool.not_eq_false] at hx;obtain⟨y,hy,he⟩:=hx;exact⟨y,hy,he⟩
   rw[h1 aa];obtain⟨y,hy,he⟩:=aa;constructor
   ·intro h;omega
   ·rintro⟨h3,_⟩;exact absurd (Qn.1 he) (h3 y (Ji hy))
abbrev oK (col:Nat):T5:=⟨(col:Int)+1,0,0,0,0⟩
theorem ltO_oK {col:Nat} (h:col<5) (a b:T5):ltO (oK col) a b=true↔a.col col<b.col col:=by
 have hc:col=0∨col=1∨col=2∨col=3∨col=4:=oM;rcases hc with rfl|rfl|rfl|rfl|rfl;all_goals
  rw[ltO,Da,decide_eq_true_iff,if_pos oA18];exact aU _ _
theorem aW {col:Nat} (h:col<5):Gj (oK col)=true:=by have hc:col=0∨col=1∨col=2∨col=3∨col=4:=oM;rcases hc with rfl|rfl|rfl|rfl|rfl<;>decide
theorem Wz {col:Nat} (h:col<5) (l:List T5):(srt (ltO (oK col)) false l).Pairwise fun a c=>a.col col≤c.col col:=by
 refine(Lk (Eg (oK col)) false l).imp fun {a b} hh=>?_;have h1:¬ltO (oK col) b a=true:=by intro h2;simp only[CI,if_false] at hh;rw[hh] at h2;cases h2
 rw[ltO_oK h] at h1;omega
def Cj (v col:Nat) (hts ts:List T5):List T5:=(srt (ltO (oK col)) false ts).map (Bf hts col v col)
theorem Iu (v col:Nat) (hts ts:List T5):(Cj v col hts ts).length=ts.length:=by unfold Cj;rw[AQ,(Bt _).length_eq]
theorem Xa (v col:Nat) (hts ts:List T5):(Cj v col hts ts).Perm (ts.map (Bf hts col v col)):=(Bt (lt:=ltO (oK col)) ts).map _
theorem Pd {w wa:Nat} {hts ts:List T5} (hh:∀t∈hts,okT wa t) (h:∀t∈ts,okT w t) (v col:Nat) (hc:col<w) (hw:w≤5):∀t∈Cj v col hts ts,okT w t:=by intro t ht;unfold Cj at ht;obtain⟨u,hu,rfl⟩:=AO.1 ht;have:=Mj hh col v col oM (h u (Ji hu));rwa[show max w (col+1)=w by omega] at this
open Go.Spc
def lwMF (t:T5):List T5:=[⟨t.c0,1,0,0,0⟩]
theorem lwM:Bx (Cs [] (lwMF)) 2 (fun _ t=>okT 3 t) 132 [] []:=mkU fun _ _ _ _ _ _ t s=>mL1 s func132 (show lwMF t=[⟨t.c0,1,0,0,0⟩] from rfl)
theorem lwL (p:Jp) (fa fb:Fl) (b8 b4 b5:Nat) (J:Jb) (A T:Nat) (ts:List T5) (Rl:Fl→Int→Prop) (hL:Jl p J fa fb 0 1 3 A T ts Rl):Fg p J 133 [pv b8,pv b4,pv b5] (Cr p.bj b8 b4 b5 fa fb) A T none ts fun f e Hx'=>Hx'=Cr p.bj b8 b4 b5 fa fb∧Rl f e:=lM hL func133
def Ii (t:T5):List T5:=(if t.c3=1 then[] else(if t.c1=t.c2 then[] else[⟨t.c0,t.c1,t.c2,0,0⟩]))
theorem lwR:Bx (Cs [] (Ii)) 3 (fun _ t=>okT 4 t) 134 [] []:=mkU fun _ _ _ _ _ _ t s=>by
 by_cases h1:t.c3=1
 ·exact mL0 s func134 (show Ii t=_ from if_pos h1)
 ·by_cases h2:t.c1=t.c2
  ·exact mL0 s func134 (show Ii t=_ from (if_neg h1).trans (if_pos h2))
  ·exact mL1 s func134 (show Ii t=_ from (if_neg h1).trans (if_neg h2))
end Go.Proofs.YtaofijjjheiknaaGreat
namespace Go.SL
variable {P:Program} {ops:Array Oper} {Q:Exit→Act→World→Prop} {cls:Nat→Oper→Cls} {w0:World} {S:List Nat} {n:Nat} {l:List (Nat×Oper)} {L:Be} {D:List Deferred} {H:Hp} {qs:List Rd} {k:Nat}
theorem jJ {C c1 c2:Aa} {Ha Hb:Hp} (hp:C.Perm (c1++c2)) (h1:Ae c1 H Ha) (h2:Ae c2 Ha Hb):H.flatten.Perm ((C::Hb).flatten):=by refine(Tr h1 h2).trans ?_;simp only[List.flatten_cons];exact hp.symm.append_right _
theorem R1.close {o:Oper} {C c1 c2:Aa} {Ha Hb:Hp} (hp:C.Perm (c1++c2)) (h1:Ae c1 H Ha) (h2:Ae c2 Ha Hb) (h:R1 P ops Q cls w0 S n k o l L D (C::Hb) qs):R1 P ops Q cls w0 S n k o l L D H qs:=R1.recut (jJ hp h1 h2) h
theorem Dn.close {e:Exit} {C c1 c2:Aa} {Ha Hb:Hp} (hp:C.Perm (c1++c2)) (h1:Ae c1 H Ha) (h2:Ae c2 Ha Hb) (h:Dn Q w0 S n e L D (C::Hb)):Dn Q w0 S n e L D H:=Dn.recut (jJ hp h1 h2) h
end Go.SL
namespace Go.Proofs.YtaofijjjheiknaaGreat
open Go.SL Go.Spc Go.Tup Go.Srt
theorem Ap.row {p:Jp} {B k a s0:Nat} {e:Int} {er:Option Nat} {Gf:List (Fl×List T5)} {C:Aa} (h:Ap p B k a s0 e er Gf C):∃ph nh cap rest,C.Perm ([(p.bj,row [pv p.bw,Z9 Z8 e,.slice ph nh cap] 98)]++rest):=by obtain⟨⟨W,cd,ca,cs,held,ph,cap,ch,rfl,_⟩,_⟩:=h;refine⟨ph,held.length,cap,[Ab p.bw p.bd p.ba p.bs,cd,ca,cs,ch].flatten,?_⟩;unfold Bv Bq;refine Bz fun z=>?_;simp only[List.flatten_cons,List.flatten_nil,AP,List.flatten_append,List.count_append];omega
theorem Fg.mono {p:Jp} {J:Jb} {mk:Nat} {us:List Value} {Hx:Hp} {A T:Nat} {er:Option Nat} {ts:List T5} {R R':Fl→Int→Hp→Prop} (h:Fg p J mk us Hx A T er ts R) (hr:∀f e Hx',R f e Hx'→R' f e Hx'):Fg p J mk us Hx A T er ts R':=by intro W cd ca cs held ph cap h1 h2;refine(h W cd ca cs held ph cap h1 h2).mono ?_;rintro v H' ⟨f,e,aa,ab,ac,W',Hx',a1,a2,a3,a4,a5⟩;exact⟨f,e,aa,ab,ac,W',Hx',a1,a2,a3,a4,hr _ _ _ a5⟩
theorem Ec.lives {p:Jp} {J:Jb} {held:List (Fl×List T5)} {W:Wk} (h:Ec p J held W) (he:J.e=0):W.live.length≤J.G.length+p.L0.length∧Bi W.live=(J.G.map (·.1.blocks)).sum+Bi p.L0:=by
 obtain⟨hp,_⟩:=h.ok he;have h1:=h.live.length_eq;have h2:=Wt (held.map (·.1)) p.L0;have h3:Bi W.live=_:=(Tx h.live).trans (Ui _ _);have h4:=hp.length_eq;have h5:(held.map (·.1)).map (·.blocks)=held.map (·.1.blocks):=by simp
 have h6:=(hp.map (·.1.blocks)).sum_nat;rw[AQ] at h2;rw[h5,h6] at h3;exact⟨oM,h3⟩
def Kd (b:Nat) (f:Fl):Aa:=[(b,row [Z9 Z8 f.first,Z9 Z8 f.blocks,Z9 Z8 f.width,Z9 Z8 f.count] 42)]
theorem vec3 (b:Nat) (f1 f2 f3:Fl):Vec 42 4 (some ⟨b,0,none⟩) [f1,f2,f3].length 3 (Aj [f1,f2,f3]) [(b,row (fl4 f1++(fl4 f2++fl4 f3)) 42)]:=
 ⟨rfl,.inr ⟨b,[],rfl,by simp[Aj,fl4],by simp[Aj],by simp,by decide⟩⟩
theorem vec4 (b:Nat) (f1 f2 f3 f4:Fl):Vec 42 4 (some ⟨b,0,none⟩) [f1,f2,f3,f4].length 4 (Aj [f1,f2,f3,f4]) [(b,row (fl4 f1++(fl4 f2++(fl4 f3++(fl4 f4)))) 42)]:=
 ⟨rfl,.inr ⟨b,[],rfl,by simp[Aj,fl4],by simp[Aj],by simp,by decide⟩⟩
theorem vec5 (b:Nat) (f1 f2 f3 f4 f5:Fl):Vec 42 4 (some ⟨b,0,none⟩) [f1,f2,f3,f4,f5].length 5 (Aj [f1,f2,f3,f4,f5]) [(b,row (fl4 f1++(fl4 f2++(fl4 f3++(fl4 f4++(fl4 f5))))) 42)]:=
 ⟨rfl,.inr ⟨b,[],rfl,by simp[Aj,fl4],by simp[Aj],by simp,by decide⟩⟩
def Pe (bj b8 b4 bc b5:Nat) (fa fb:Fl) (key:Nat):Hp:=[[(b8,row [pv bj] 84)],[(b4,row (fl4 fa) 42)],[(bc,row [Z9 Z8 key] 3)],[(b5,row (fl4 fb) 42)]]
theorem nbLook (p:Jp) (fa fb:Fl) (b8 b4 bc b5:Nat) (J:Jb) (A T:Nat) (ts:List T5) (Rl:Fl→Int→Prop) (key:Nat) (hL:Jl p J fa fb key 2 key A T ts Rl):Fg p J 123 [pv b8,pv b4,pv bc,pv b5] (Pe p.bj b8 b4 bc b5 fa fb key) A T none ts fun f' e Hx'=>Hx'=Pe p.bj b8 b4 bc b5 fa fb key∧Rl f' e:=by
 intro W cd ca cs held ph ac hW ah;have hL:=hL W cd ca cs held hW ah;have aa:=eQ0;have ab:=eQ2;rw[aa fa,aa fb] at hL;unfold Bq Pe;rw[ab fa,ab fb];refine cG func123 fun _=>?_;repeat(refine sv ?_;intros)
 refine cX hL ?_;rintro _ _ ⟨f',e,ad,ae,ag,W',rfl,rfl,ai,hS,hR⟩;dsimp only[AA,AB];refine nx ?_;rw[aa];repeat(refine sv ?_;intros)
 (refine dP [[(p.bj,row [pv p.bw,Z9 Z8 0,.slice ph held.length ac] 98)],Ab p.bw p.bd p.ba p.bs,ad,ae,ag,[(b8,row [pv p.bj] 84)],[(b4,row [Z9 Z8 fa.first,Z9 Z8 fa.blocks,Z9 Z8 fa.width,Z9 Z8 fa.count] 42)],[(bc,row [Z9 Z8 key] 3)],[(b5,row [Z9 Z8 fb.first,Z9 Z8 fb.blocks,Z9 Z8 fb.width,Z9 Z8 fb.count] 42)]] ?_;exact⟨f',e,ad,ae,ag,W',_,rfl,rfl,ai,hS,rfl,hR⟩)
theorem Um {p:Jp} {B m k a s0:Nat} {e:Int} {er:Option Nat} {Gf:List (Fl×List T5)} {C:Aa} (hR:Rm p B m k a) (hJ:Ap p B k a s0 e er Gf C) (f ft:Fl) (ts hts:List T5) (G':List (Fl×List T5)) (col:Nat) (a2:col<4) {b c n w bt ct wt nt:Nat} (hF:FB b c w n e f) (an:FB bt ct wt nt e ft) (hP:Pk (f,ts) Gf G') (al:(ft,hts)∈G'∨In0 p (ft,hts)) (ao:col<w) (aq:w≤5) (hv:2<wt) (ae:e=0→hts.Pairwise fun a c=>a.c0<c.c0) (au:e=0→ts.length=n) (hb:b≤1000∧c≤1000∧bt≤1000∧ct≤1000) (am:b≤c∨(w≤3∧b≤2*c)) (ag:c≤B) (hT:Ck c≤m) (hk:Gf.length+1≤k) (a3:s0≤9900):Ct AC 58 [pv p.bj,flv f,Z9 Z8 col,flv ft] [C] fun v H'=>∃g C' e',v=flv g∧H'=[C']∧Ap p B k a (s0+2) e' er ((g,Cj 2 col hts ts)::G') C'∧FB b c w n e' g∧(e'=0→e=0):=by
 have aa:=eQ0;have ad:=eQ2;have av:tv (oK col)= .agg #[Z9 Z8 ((col:Int)+1),Z9 Z8 0,Z9 Z8 0,Z9 Z8 0,Z9 Z8 0]:=rfl;have a4:AL .i64 ((col:Int)+1)=(col:Int)+1:=Ah oM;have aw:=hP.perm.length_eq;rw[AJ] at aw;have ah:=Gb hR hJ f ts G' (oK col) (aW oM) false hF hP hb.1 ag hT oM;rw[aa,av] at ah;rw[aa,aa ft];refine cG func58 fun _=>?_;repeat(refine sA ?_;intros)
 repeat(refine sA ?_;intros)
 refine cX ah ?_;rintro _ _ ⟨g1,C1,e1,rfl,rfl,ax,ay,ab⟩;dsimp only[AA,AB];refine nx ?_;try rw[aa]
 have ai:=fun b8 b4 bc b5=>Ks hR ax 123 inferInstance g1 ft (srt (ltO (oK col)) false ts) hts col 2 col w c oA5 (al.imp (fun h=>AF _ h) id) (fun J A T az R h=>nbLook p g1 ft b8 b4 bc b5 J A T az R col h) ay (an.mono ab) ⟨hb.1,hb.2.1,hb.2.2⟩ ao hv oM oM aq
  (fun _=>Wz oM _) (fun h=>ae (ab h)) am ag (by simp only[AJ];omega) oM
 simp only[Pe,ad] at ai;repeat(refine sA ?_;intros)
 refine cX (ai _ _ _ _) ?_;rintro _ _ ⟨g2,C2,e2,rfl,rfl,a0,ac,aj⟩;dsimp only[AA,AB];refine nx ?_;try rw[aa]
 have ak:=fun b=>Ih hR a0 [(g1,srt (ltO (oK col)) false ts)] ((g2,Cj 2 col hts ts)::G') (.cons (.there .here) .nil) oA19 _ 1 _ (Nv b g1);simp only[ad,AZ,CL,AA,AB] at ak;repeat(refine sA ?_;intros)
 refine cX (ak _) ?_;rintro _ _ ⟨C3,rfl,rfl,a1⟩;dsimp only[AA,AB];refine nx ?_;repeat(refine sA ?_;intros)
 (refine dP [C3] ?_;exact⟨g2,C3,e2,rfl,rfl,a1,⟨ac.cnt,ac.blk,fun h=>⟨(ac.ok h).1,by rw[(ac.ok h).2,(Bt _).length_eq,au (ab (aj h))]⟩⟩,fun h=>ab (aj h)⟩)
theorem vQ (p:Jp) (fa fb:Fl) (b8 b4 bc b5:Nat) (J:Jb) (A T:Nat) (ts:List T5) (Rl:Fl→Int→Prop) (key:Nat) (hL:Jl p J fa fb key 1 key A T ts Rl):Fg p J 122 [pv b8,pv b4,pv bc,pv b5] (Pe p.bj b8 b4 bc b5 fa fb key) A T none ts fun f' e Hx'=>Hx'=Pe p.bj b8 b4 bc b5 fa fb key∧Rl f' e:=by
 intro W cd ca cs held ph ac hW ah;have hL:=hL W cd ca cs held hW ah;have aa:=eQ0;have ab:=eQ2;rw[aa fa,aa fb] at hL;unfold Bq Pe;rw[ab fa,ab fb];refine cG func122 fun _=>?_;repeat(refine sv ?_;intros)
 refine cX hL ?_;rintro _ _ ⟨f',e,ad,ae,ag,W',rfl,rfl,ai,hS,hR⟩;dsimp only[AA,AB];refine nx ?_;rw[aa];repeat(refine sv ?_;intros)
 (refine dP [[(p.bj,row [pv p.bw,Z9 Z8 0,.slice ph held.length ac] 98)],Ab p.bw p.bd p.ba p.bs,ad,ae,ag,[(b8,row [pv p.bj] 84)],[(b4,row [Z9 Z8 fa.first,Z9 Z8 fa.blocks,Z9 Z8 fa.width,Z9 Z8 fa.count] 42)],[(bc,row [Z9 Z8 key] 3)],[(b5,row [Z9 Z8 fb.first,Z9 Z8 fb.blocks,Z9 Z8 fb.width,Z9 Z8 fb.count] 42)]] ?_;exact⟨f',e,ad,ae,ag,W',_,rfl,rfl,ai,hS,rfl,hR⟩)
theorem jK {p:Jp} {B m k a s0:Nat} {e:Int} {er:Option Nat} {Gf:List (Fl×List T5)} {C:Aa} (hR:Rm p B m k a) (hJ:Ap p B k a s0 e er Gf C) (f ft:Fl) (ts hts:List T5) (G':List (Fl×List T5)) (col:Nat) (a2:col<4) {b c n w bt ct wt nt:Nat} (hF:FB b c w n e f) (an:FB bt ct wt nt e ft) (hP:Pk (f,ts) Gf G') (al:(ft,hts)∈G'∨In0 p (ft,hts)) (ao:col<w) (aq:w≤5) (hv:1<wt) (ae:e=0→hts.Pairwise fun a c=>a.c0<c.c0) (au:e=0→ts.length=n) (hb:b≤1000∧c≤1000∧bt≤1000∧ct≤1000) (am:b≤c∨(w≤3∧b≤2*c)) (ag:c≤B) (hT:Ck c≤m) (hk:Gf.length+1≤k) (a3:s0≤9900):Ct AC 57 [pv p.bj,flv f,Z9 Z8 col,flv ft] [C] fun v H'=>∃g C' e',v=flv g∧H'=[C']∧Ap p B k a (s0+2) e' er ((g,Cj 1 col hts ts)::G') C'∧FB b c w n e' g∧(e'=0→e=0):=by
 have aa:=eQ0;have ad:=eQ2;have av:tv (oK col)= .agg #[Z9 Z8 ((col:Int)+1),Z9 Z8 0,Z9 Z8 0,Z9 Z8 0,Z9 Z8 0]:=rfl;have a4:AL .i64 ((col:Int)+1)=(col:Int)+1:=Ah oM;have aw:=hP.perm.length_eq;rw[AJ] at aw;have ah:=Gb hR hJ f ts G' (oK col) (aW oM) false hF hP hb.1 ag hT oM;rw[aa,av] at ah;rw[aa,aa ft];refine cG func57 fun _=>?_;repeat(refine sA ?_;intros)
 repeat(refine sA ?_;intros)
 refine cX ah ?_;rintro _ _ ⟨g1,C1,e1,rfl,rfl,ax,ay,ab⟩;dsimp only[AA,AB];refine nx ?_;try rw[aa]
 have ai:=fun b8 b4 bc b5=>Ks hR ax 122 inferInstance g1 ft (srt (ltO (oK col)) false ts) hts col 1 col w c oA5 (al.imp (fun h=>AF _ h) id) (fun J A T az R h=>vQ p g1 ft b8 b4 bc b5 J A T az R col h) ay (an.mono ab) ⟨hb.1,hb.2.1,hb.2.2⟩ ao hv oM oM aq
  (fun _=>Wz oM _) (fun h=>ae (ab h)) am ag (by simp only[AJ];omega) oM
 simp only[Pe,ad] at ai;repeat(refine sA ?_;intros)
 refine cX (ai _ _ _ _) ?_;rintro _ _ ⟨g2,C2,e2,rfl,rfl,a0,ac,aj⟩;dsimp only[AA,AB];refine nx ?_;try rw[aa]
 have ak:=fun b=>Ih hR a0 [(g1,srt (ltO (oK col)) false ts)] ((g2,Cj 1 col hts ts)::G') (.cons (.there .here) .nil) oA19 _ 1 _ (Nv b g1);simp only[ad,AZ,CL,AA,AB] at ak;repeat(refine sA ?_;intros)
 refine cX (ak _) ?_;rintro _ _ ⟨C3,rfl,rfl,a1⟩;dsimp only[AA,AB];refine nx ?_;repeat(refine sA ?_;intros)
 (refine dP [C3] ?_;exact⟨g2,C3,e2,rfl,rfl,a1,⟨ac.cnt,ac.blk,fun h=>⟨(ac.ok h).1,by rw[(ac.ok h).2,(Bt _).length_eq,au (ab (aj h))]⟩⟩,fun h=>ab (aj h)⟩)
def Mk (ff ed:List T5):List T5:=ed.map (Bf (ff.map fun t=>⟨t.c0,1,0,0,0⟩) 0 1 3)
def Hl (ff ed:List T5):List T5:=(Mk ff ed).flatMap Ii
def Gp (tt ff ed:List T5):List T5:=Cj 2 2 tt (Cj 2 1 tt (Hl ff ed))
theorem jL (t:T5):(Ii t).length≤1:=by unfold Ii;split<;>(try split)<;>simp
theorem jM (ff ed:List T5):(Hl ff ed).length≤ed.length:=by have h:=Ss (f:=Ii) (n:=1) (Mk ff ed) fun t _=>jL t;unfold Hl;unfold Mk at h⊢;rw[AQ] at h;omega
theorem jN (tt ff ed:List T5):(Gp tt ff ed).length≤ed.length:=by unfold Gp;rw[Iu,Iu];exact jM ff ed
theorem vR {ff:List T5} (h:∀t∈ff,okT 3 t):∀t∈ff.map (fun t=>(⟨t.c0,1,0,0,0⟩:T5)),okT 2 t:=by intro t ht;obtain⟨u,hu,rfl⟩:=AO.1 ht;exact Ht (Dx (h u hu)).1 Ol
theorem jO {ff ed:List T5} (hf:∀t∈ff,okT 3 t) (he:∀t∈ed,okT 3 t):∀t∈Mk ff ed,okT 4 t:=by intro t ht;unfold Mk at ht;obtain⟨u,hu,rfl⟩:=AO.1 ht;exact Mj (vR hf) 0 1 3 oM (he u hu)
theorem vS {ff ed:List T5} (hf:∀t∈ff,okT 3 t) (he:∀t∈ed,okT 3 t):∀t∈Hl ff ed,okT 3 t:=by
 intro t ht;unfold Hl at ht;obtain⟨u,hu,ht⟩:=List.mem_flatMap.1 ht;have ti:=Dx (jO hf he u hu);unfold Ii at ht;split at ht
 ·cases ht
 ·split at ht
  ·cases ht
  ·rw[AX] at ht;subst ht;exact Jd ti.1 ti.2.1 ti.2.2.1
theorem vT {tt ff ed:List T5} (ht:∀t∈tt,okT 5 t) (hf:∀t∈ff,okT 3 t) (he:∀t∈ed,okT 3 t):∀t∈Gp tt ff ed,okT 3 t:=
 Pd ht (Pd ht (vS hf he) 2 1 oM oM) 2 2 oM oM
theorem vU {p:Jp} {B m k a s0:Nat} {e:Int} {er:Option Nat} {Gf:List (Fl×List T5)} {C:Aa} (hR:Rm p B m k a) (hJ:Ap p B k a s0 e er Gf C) (tf ff ef:Fl) (tt fl ed:List T5) (h1:In0 p (tf,tt)) (h2:In0 p (ff,fl)) (h3:In0 p (ef,ed)) (aj:tf.width=5) (av:ff.width=3) (ak:ef.width=3) (c:Nat) (bk:ff.count≤2*c) (bq:ef.count≤2*c) (hct:tf.count≤1000) (hc:c≤500) (ac:c≤B) (hT:Ck c≤m) (ht:tt.Pairwise fun a c=>a.c0<c.c0) (hf:fl.Pairwise fun a c=>a.c0<c.c0) (he:ed.Pairwise fun a c=>a.c0≤c.c0) (au:ef.count≤B) (hk:Gf.length+3≤k) (bp:s0≤9000):Ct AC 76 [pv p.bj,flv tf,flv ff,flv ef] [C] fun v H'=>∃g C' e',v=flv g∧H'=[C']∧Ap p B k a (s0+7) e' er ((g,Gp tt fl ed)::Gf) C'∧FB ef.count c 3 (Gp tt fl ed).length e' g∧(e'=0→e=0):=by
 have aa:=eQ0;have ab:=eQ2;obtain⟨t1,t2,t3,t4,t5⟩:=Lm h1;obtain⟨f1,f2,f3,f4,f5⟩:=Lm h2;obtain⟨d1,d2,d3,d4,d5⟩:=Lm h3;dsimp only at t1 t2 t3 t4 t5 f1 f2 f3 f4 f5 d1 d2 d3 d4 d5;have hp:=hR.ok;have hB:=hR.bs;have aw:tf.blocks≤tf.count:=by rw[t3];exact En (Bp hp.size.1 t4 t5)
 have bu:ff.blocks≤ff.count:=by rw[f3];exact En (Bp hp.size.1 f4 f5)
 have ax:ef.blocks≤ef.count:=by rw[d3];exact En (Bp hp.size.1 d4 d5)
 rw[aj] at t2;rw[av] at f2;rw[ak] at d2;have al:∀e,FB tf.count tf.count 5 tf.count e tf:=fun e=>⟨AI _,aw,fun _=>⟨aj,rfl⟩⟩
 have ay:∀e,FB ef.count ef.count 3 ef.count e ef:=fun e=>⟨AI _,ax,fun _=>⟨ak,rfl⟩⟩
 have ad:=fun b=>Gn hR hJ [] lwMF 2 ff.count c 1 oM 132 inferInstance [] (okT 3) lwM (fun t _=>AI _) oM ff fl (.inr h2) oM (fun _=>f2)
  (fun h=>by rw[Ex (f:=lwMF) (g:=fun t=>⟨t.c0,1,0,0,0⟩) (fun _=>rfl),AQ];omega) (.inr ⟨oM,oM⟩) ac oM oM b
 simp only[ab] at ad;rw[Ex (f:=lwMF) (g:=fun t=>⟨t.c0,1,0,0,0⟩) (fun _=>rfl)] at ad;rw[aa tf,aa ff,aa ef];refine cG func76 fun w0=>?_;repeat(refine sA ?_;intros)
 repeat(refine sA ?_;intros)
 refine cX (ad _) ?_;rintro _ _ ⟨g1,C1,e1,rfl,rfl,az,ae,a0⟩;dsimp only[AA,AB];refine nx ?_;try rw[aa]
 have bf:=ae.cnt;have bg:=ae.blk;have ag:=fun b8 b4 b5=>Ks hR az 133 inferInstance ef g1 ed (fl.map fun t=>⟨t.c0,1,0,0,0⟩) 0 1 3 4 B (.inr h3) oA5 (lwL _ ef g1 b8 b4 b5) (ay e1) ae oM oM oM oM oM oM
  (fun _=>he) (fun _=>by rw[List.pairwise_map];exact hf) (.inl au) (AI _) oA12 oM
 simp only[Cr,ab] at ag;rw[show ed.map (Bf (fl.map fun t=>⟨t.c0,1,0,0,0⟩) 0 1 3)=Mk fl ed from rfl] at ag;repeat(refine sA ?_;intros)
 refine cX (ag _ _ _) ?_;rintro _ _ ⟨g2,C2,e2,rfl,rfl,a1,am,a2⟩;dsimp only[AA,AB];refine nx ?_;try rw[aa]
 have bh:=am.cnt;have bi:=am.blk;have ah:=fun b=>Gn hR a1 [] Ii 3 ef.count c 1 oM 134 inferInstance [] (okT 4) lwR (fun t _=>jL t) oM g2 (Mk fl ed) oA5 oM (fun _=>jO f2 d2)
  (fun h=>by have:=jM fl ed;unfold Hl at this;omega) (.inr ⟨oM,oM⟩) ac oA12 oM b
 simp only[ab] at ah;rw[show(Mk fl ed).flatMap Ii=Hl fl ed from rfl] at ah;repeat(refine sA ?_;intros)
 refine cX (ah _) ?_;rintro _ _ ⟨g3,C3,e3,rfl,rfl,a3,a4,a5⟩;dsimp only[AA,AB];refine nx ?_;try rw[aa]
 have an:=fun b=>Ih hR a3 [(g1,fl.map fun t=>⟨t.c0,1,0,0,0⟩),(g2,Mk fl ed)] ((g3,Hl fl ed)::Gf) (.cons (.there (.there .here)) (.cons (.there .here) .nil)) oA19 _ 2 _ (Nw b g1 g2);simp only[ab,AZ,CL,AA,AB] at an;repeat(refine sA ?_;intros)
 refine cX (an _) ?_;rintro _ _ ⟨C4,rfl,rfl,a6⟩;dsimp only[AA,AB];refine nx ?_;have ao:=Um hR a6 g3 tf (Hl fl ed) tt Gf 1 oM a4 (al e3) .here (.inr h1) oM oM oM (fun _=>ht) (fun _=>rfl) oM (.inr ⟨oM,oM⟩) ac hT oA12 oM;rw[aa g3,aa tf] at ao;repeat(refine sA ?_;intros)
 refine cX ao ?_;rintro _ _ ⟨g5,C5,e5,rfl,rfl,a7,a8,a9⟩;dsimp only[AA,AB];refine nx ?_;try rw[aa]
 have aq:=Um hR a7 g5 tf (Cj 2 1 tt (Hl fl ed)) tt Gf 2 oM a8 (al e5) .here (.inr h1) oM oM oM (fun _=>ht) (fun _=>Iu _ _ _ _) oM (.inr ⟨oM,oM⟩) ac hT oA12 oM;rw[aa g5,aa tf] at aq;repeat(refine sA ?_;intros)
 refine cX aq ?_;rintro _ _ ⟨g6,C6,e6,rfl,rfl,bc,ai,be⟩;dsimp only[AA,AB];refine nx ?_;try rw[aa]
 repeat(refine sA ?_;intros)
 (refine dP [C6] ?_;exact⟨g6,C6,e6,rfl,rfl,bc,⟨ai.cnt,ai.blk,fun h=>by rw[show(Gp tt fl ed).length=(Hl fl ed).length by unfold Gp;rw[Iu,Iu]];exact ai.ok h⟩,fun h=>a0 (a2 (a5 (a9 (be h))))⟩)
section
variable {P:Program} {ops:Array Oper} {Q:Exit→Act→World→Prop} {cls:Nat→Oper→Cls} {w0:World} {S:List Nat} {n:Nat} {l:List (Nat×Oper)} {L:Be} {D:List Deferred} {H:Hp} {qs:List Rd} {k d:Nat} {ty:TypeId} {pos:String} {af:Array Edge} {g:Option (Nat×Bool)}
end
end Go.Proofs.YtaofijjjheiknaaGreat
namespace Go.Gr
abbrev Ed:=Nat×Nat
def Jn (g:Nat→Ed) (S:Nat→Prop) (x y:Nat):Prop:=∃i,S i∧((g i).1=x∧(g i).2=y∨(g i).1=y∧(g i).2=x)
inductive Cn (g:Nat→Ed) (S:Nat→Prop):Nat→Nat→Prop
 |refl (a:Nat):Cn g S a a
 |step {a b c:Nat}:Cn g S a b→Jn g S b c→Cn g S a c
variable {g:Nat→Ed} {S S':Nat→Prop}
theorem Jn.symm {x y:Nat} (h:Jn g S x y):Jn g S y x:=let ⟨i,h1,h2⟩:=h;⟨i,h1,h2.symm⟩
theorem Jn.mono {x y:Nat} (h:Jn g S x y) (hs:∀i,S i→S' i):Jn g S' x y:=let ⟨i,h1,h2⟩:=h;⟨i,hs i h1,h2⟩
theorem Cn.one {x y:Nat} (h:Jn g S x y):Cn g S x y:= .step (.refl x) h
theorem Cn.trans {a b c:Nat} (h:Cn g S a b) (h2:Cn g S b c):Cn g S a c:=by
 induction h2 with
 |refl=>exact h
 |step _ hj ih=>exact .step ih hj
theorem Cn.symm {a b:Nat} (h:Cn g S a b):Cn g S b a:=by
 induction h with
 |refl=>exact .refl _
 |step _ hj ih=>exact(Cn.one hj.symm).trans ih
theorem Cn.mono {a b:Nat} (h:Cn g S a b) (hs:∀i,S i→S' i):Cn g S' a b:=by
 induction h with
 |refl=>exact .refl _
 |step _ hj ih=>exact .step ih (hj.mono hs)
theorem Cn.edge {i:Nat} (h:S i):Cn g S (g i).1 (g i).2:= .one ⟨i,h,.inl ⟨rfl,rfl⟩⟩
theorem Cn.sub {a b:Nat} (h:Cn g S a b) (hs:∀i,S i→Cn g S' (g i).1 (g i).2):Cn g S' a b:=by
 induction h with
 |refl=>exact .refl _
 |step _ hj ih=>
  obtain⟨i,h1,⟨rfl,rfl⟩|⟨rfl,rfl⟩⟩:=hj
  ·exact ih.trans (hs i h1)
  ·exact ih.trans (hs i h1).symm
theorem Cn.congr {a b:Nat} (hs:∀i,S i↔S' i):Cn g S a b↔Cn g S' a b:=⟨fun h=>h.mono fun i=>(hs i).1,fun h=>h.mono fun i=>(hs i).2⟩
theorem Cn.stay {a b:Nat} (h:Cn g S a b) {X:Nat→Prop} (ha:X a) (hx:∀i,S i→(X (g i).1↔X (g i).2)):X b:=by
 induction h with
 |refl=>exact ha
 |step _ hj ih=>
  obtain⟨i,h1,⟨rfl,rfl⟩|⟨rfl,rfl⟩⟩:=hj
  ·exact(hx i h1).1 ih
  ·exact(hx i h1).2 ih
theorem Cn.add {i a b:Nat} (h:Cn g (fun j=>S j∨j=i) a b):Cn g S a b∨(Cn g S a (g i).1∧Cn g S (g i).2 b)∨(Cn g S a (g i).2∧Cn g S (g i).1 b):=by
 induction h with
 |refl=>exact .inl (.refl _)
 |step _ hj ih=>
  obtain⟨j,h1|rfl,h2⟩:=hj
  ·have hj:Cn g S _ _:= .one ⟨j,h1,h2⟩;rcases ih with ih|⟨i1,i2⟩|⟨i1,i2⟩
   ·exact .inl (ih.trans hj)
   ·exact .inr (.inl ⟨i1,i2.trans hj⟩)
   ·exact .inr (.inr ⟨i1,i2.trans hj⟩)
  ·rcases h2 with⟨rfl,rfl⟩|⟨rfl,rfl⟩
   ·rcases ih with ih|⟨i1,i2⟩|⟨i1,i2⟩
    ·exact .inr (.inl ⟨ih,.refl _⟩)
    ·exact .inr (.inl ⟨i1,.refl _⟩)
    ·exact .inl i1
   ·rcases ih with ih|⟨i1,i2⟩|⟨i1,i2⟩
    ·exact .inr (.inr ⟨ih,.refl _⟩)
    ·exact .inl i1
    ·exact .inr (.inr ⟨i1,.refl _⟩)
theorem Cn.bound {a b:Nat} (h:Cn g S a b):∃n,Cn g (fun j=>S j∧j<n) a b:=by
 induction h with
 |refl=>exact⟨0,.refl _⟩
 |step _ hj ih=>
  obtain⟨n,ih⟩:=ih;obtain⟨i,h1,h2⟩:=hj;exact⟨max n (i+1),.step (ih.mono fun j ⟨a,b⟩=>⟨a,oM⟩) ⟨i,⟨h1,oM⟩,h2⟩⟩
def Kr (g:Nat→Ed) (S:Nat→Prop) (i:Nat):Prop:=S i∧¬Cn g (fun j=>S j∧j<i) (g i).1 (g i).2
theorem Kr.conn_lt:∀(n:Nat) {a b:Nat},Cn g (fun j=>S j∧j<n) a b↔Cn g (fun j=>Kr g S j∧j<n) a b
 |0,a,b=>Cn.congr fun i=>by simp
 |n+1,a,b=>by
  refine⟨fun h=>?_,fun h=>h.mono fun i ⟨h1,h2⟩=>⟨h1.1,h2⟩⟩;refine h.sub fun i ⟨h1,h2⟩=>?_;by_cases hk:Kr g S i
  ·exact Cn.edge ⟨hk,h2⟩
  ·have h3:Cn g (fun j=>S j∧j<i) (g i).1 (g i).2:=by
    by_cases h4:Cn g (fun j=>S j∧j<i) (g i).1 (g i).2
    ·exact h4
    ·exact absurd ⟨h1,h4⟩ hk
   have h5:Cn g (fun j=>S j∧j<n) (g i).1 (g i).2:=h3.mono fun j ⟨a,b⟩=>⟨a,oM⟩
   exact((Kr.conn_lt n).1 h5).mono fun j ⟨a,b⟩=>⟨a,oM⟩
theorem Kr.conn {a b:Nat}:Cn g S a b↔Cn g (Kr g S) a b:=by refine⟨fun h=>?_,fun h=>h.mono fun i h=>h.1⟩;obtain⟨n,h⟩:=h.bound;exact((Kr.conn_lt n).1 h).mono fun i h=>h.1
theorem Kr.bridge_lt:∀(n i:Nat),i<n→Kr g S i→¬Cn g (fun j=>Kr g S j∧j<n∧j≠i) (g i).1 (g i).2
 |0,_,h,_=>by omega
 |n+1,i,h,hk=>by
  intro hc;by_cases ad:i=n
  ·subst ad;exact hk.2 (hc.mono fun j ⟨h1,h2,h3⟩=>⟨h1.1,oM⟩)
  ·have hi:i<n:=oM;by_cases ab:Kr g S n
   ·have ae:Cn g (fun j=>(Kr g S j∧j<n∧j≠i)∨j=n) (g i).1 (g i).2:=hc.mono fun j ⟨h1,h2,h3⟩=>by
     by_cases hj:j=n
     ·exact .inr hj
     ·exact .inl ⟨h1,oM,h3⟩
    have aa:∀{x y:Nat},Cn g (fun j=>Kr g S j∧j<n∧j≠i) x y→Cn g (fun j=>S j∧j<n) x y:=fun h=>h.mono fun j ⟨h1,h2,_⟩=>⟨h1.1,h2⟩
    have ac:Cn g (fun j=>S j∧j<n) (g i).1 (g i).2:=Cn.edge ⟨hk.1,hi⟩;rcases ae.add with h1|⟨h1,h2⟩|⟨h1,h2⟩
    ·exact Kr.bridge_lt n i hi hk h1
    ·exact ab.2 (((aa h1).symm.trans ac).trans (aa h2).symm)
    ·exact ab.2 (((aa h2).trans ac.symm).trans (aa h1))
   ·refine Kr.bridge_lt n i hi hk (hc.mono fun j ⟨h1,h2,h3⟩=>⟨h1,?_,h3⟩);have:j≠n:=fun e=>ab (e▸h1);omega
theorem Kr.bridge {i:Nat} (hk:Kr g S i):¬Cn g (fun j=>Kr g S j∧j≠i) (g i).1 (g i).2:=by intro h;obtain⟨n,h⟩:=h.bound;exact Kr.bridge_lt (max n (i+1)) i oM hk (h.mono fun j ⟨⟨a,b⟩,c⟩=>⟨a,oM,b⟩)
theorem vV {F C:Nat→Prop} (hb:∀i,F i→¬Cn g (fun j=>F j∧j≠i) (g i).1 (g i).2) (hc:∀i,C i→F i) (hj:∀i,F i→Cn g C (g i).1 (g i).2) (i:Nat) (h:F i):C i:=by
 cases Classical.propDecidable (C i) with
 |isTrue h=>exact h
 |isFalse hn=>exact absurd ((hj i h).mono fun j hj=>⟨hc j hj,fun e=>hn (e▸hj)⟩) (hb i h)
theorem Kr.cut {X:Nat→Prop} {i:Nat} (hs:S i) (hx:¬(X (g i).1↔X (g i).2)) (hm:∀j,S j→j<i→(X (g j).1↔X (g j).2)):Kr g S i:=by
 refine⟨hs,fun h=>hx ⟨fun h1=>?_,fun h1=>?_⟩⟩
 ·exact h.stay h1 fun j hj=>hm j hj.1 hj.2
 ·exact h.symm.stay h1 fun j hj=>hm j hj.1 hj.2
end Go.Gr
namespace Go.Proofs.YtaofijjjheiknaaGreat
open Go.Gr
inductive Fo where
 |nil
 |node (v:Nat) (s r:Fo)
def Fo.sz:Fo→Nat
 | .nil=>0
 | .node _ s r=>s.sz+1+r.sz
def Fo.vs:Fo→List Nat
 | .nil=>[]
 | .node v s r=>v::(s.vs++r.vs)
theorem Fo.vs_len:∀T:Fo,T.vs.length=T.sz
 | .nil=>rfl
 | .node v s r=>by simp only[Fo.vs,Fo.sz,AJ,AH,s.vs_len,r.vs_len];omega
structure Tw (g:Nat→Ed) (F:Nat→Prop) (P:Nat) (vt ed bro:Nat→Nat):Prop where
 mem:∀k,k<P→F (ed k)
 ends:∀k,k<P→((g (ed k)).1=vt k∧(g (ed k)).2=vt (k+1)∨(g (ed k)).1=vt (k+1)∧(g (ed k)).2=vt k)
 round:vt P=vt 0
 bro_lt:∀k,k<P→bro k<P
 bro_ne:∀k,k<P→bro k≠k
 bro_bro:∀k,k<P→bro (bro k)=k
 bro_from:∀k,k<P→vt (bro k)=vt (k+1)
 bro_to:∀k,k<P→vt (bro k+1)=vt k
 uniq:∀j k,j<P→k<P→ed j=ed k→j=k∨j=bro k
 bridge:∀i,F i→¬Cn g (fun j=>F j∧j≠i) (g i).1 (g i).2
namespace Tw
variable {g:Nat→Ed} {F:Nat→Prop} {P:Nat} {vt ed bro:Nat→Nat}
theorem join (h:Tw g F P vt ed bro) {k:Nat} (hk:k<P) {e:Nat} (aa:ed k≠e):Cn g (fun j=>F j∧j≠e) (vt k) (vt (k+1)):= .one ⟨ed k,⟨h.mem k hk,aa⟩,h.ends k hk⟩
theorem walk (h:Tw g F P vt ed bro) {e j:Nat}:∀{k:Nat},j≤k→k≤P→(∀n,j≤n→n<k→ed n≠e)→Cn g (fun i=>F i∧i≠e) (vt j) (vt k)
 |0,hj,_,_=>by
  obtain rfl:j=0:=by omega
  exact .refl _
 |k+1,hj,hk,hn=>by
  rcases Nat.eq_or_lt_of_le hj with rfl|aa
  ·exact .refl _
  ·exact(h.walk (k:=k) oM oM fun n h1 h2=>hn n h1 oM).trans (h.join oM (hn k oM oM))
theorem apart (h:Tw g F P vt ed bro) {k:Nat} (hk:k<P):¬Cn g (fun j=>F j∧j≠ed k) (vt k) (vt (k+1)):=by
 intro hc;rcases h.ends k hk with⟨h1,h2⟩|⟨h1,h2⟩
 ·exact h.bridge _ (h.mem k hk) (by rw[h1,h2];exact hc)
 ·exact h.bridge _ (h.mem k hk) (by rw[h1,h2];exact hc.symm)
theorem first (h:Tw g F P vt ed bro) {p j:Nat} (hp:p<P) (hd:p<bro p) (hj:j≤p):vt j≠vt (p+1):=by intro he;refine h.apart hp ?_;rw[←he];refine(h.walk hj oM ?_).symm;intro n h1 h2 hq;rcases h.uniq n p oM hp hq with h3|h3<;>omega
theorem again (h:Tw g F P vt ed bro) {p:Nat} (hp:p<P) (hu:¬p<bro p):∃j,j≤p∧vt j=vt (p+1):=⟨bro p,oM,h.bro_from p hp⟩
theorem down_inj (h:Tw g F P vt ed bro) {p q:Nat} (hp:p<P) (hq:q<P) (ab:p<bro p) (aa:q<bro q) (he:vt (p+1)=vt (q+1)):p=q:=by
 rcases B5 p q with h1|h1|h1
 ·exact(h.first hq aa (show p+1≤q by omega) he).elim
 ·exact h1
 ·exact(h.first hp ab (show q+1≤p by omega) he.symm).elim
theorem down_of (h:Tw g F P vt ed bro):∀{j:Nat},j≤P→vt j≠vt 0→∃p,p<j∧p<bro p∧vt (p+1)=vt j:=by
 intro j;induction j using Nat.strongRecOn with
 |ind j ih=>
  intro hj aa
  match j,aa with
  |0,aa=>exact(aa rfl).elim
  |j+1,aa=>
   by_cases hd:j<bro j
   ·exact⟨j,oM,hd,rfl⟩
   ·have h1:=h.bro_ne j oM;have h2:=h.bro_from j oM;obtain⟨p,p1,p2,p3⟩:=ih (bro j) oM oM (by rw[h2];exact aa);exact⟨p,oM,p2,by rw[p3,h2]⟩
theorem nocross (h:Tw g F P vt ed bro) {p a:Nat} (hp:p<P) (h1:p<a) (h2:a<bro p):p<bro a∧bro a<bro p:=by
 have hb:=h.bro_lt p hp;have ha:a<P:=oM;have aa:∀n,n<P→n≠p→n≠bro p→ed n≠ed p:=fun n hn e1 e2 hq=>by
  rcases h.uniq n p hn hp hq with h3|h3
  ·exact e1 h3
  ·exact e2 h3
 have ac:bro a≠p:=fun hq=>by have:=h.bro_bro a ha;rw[hq] at this;omega
 have ab:bro a≠bro p:=fun hq=>by have:=h.bro_bro a ha;rw[hq,h.bro_bro p hp] at this;omega
 have hV:Cn g (fun i=>F i∧i≠ed p) (vt (p+1)) (vt a):=h.walk oM oM fun n h3 h4=>aa n oM oM oM;have ad:=h.bro_lt a ha;rcases B5 (bro a) p with h3|h3|h3
 ·exfalso;refine h.apart hp (Cn.symm (hV.trans ?_));rw[←h.bro_to a ha];exact h.walk oM oM fun n h4 h5=>aa n oM oM oM
 ·exact(ac h3).elim
 rcases B5 (bro a) (bro p) with h4|h4|h4
 ·exact⟨h3,h4⟩
 ·exact(ab h4).elim
 ·exfalso;refine h.apart hp (Cn.symm ((hV.trans (h.join ha (aa a ha oM oM))).trans ?_));rw[←h.bro_from a ha];have e1:Cn g (fun i=>F i∧i≠ed p) (vt (bro a)) (vt P):=h.walk oM oM fun n h5 h6=>aa n oM oM oM;rw[h.round] at e1;exact e1.trans (h.walk oM oM fun n h5 h6=>aa n oM oM oM)
end Tw
def Iv (P:Nat) (vt bro:Nat→Nat):Fo→Nat→Nat→Prop
 | .nil,p,q=>p=q
 | .node v s r,p,q=>p<P∧p<bro p∧bro p<P∧vt (p+1)=v∧bro (bro p)=p∧vt (bro p+1)=vt p∧Iv P vt bro s (p+1) (bro p)∧Iv P vt bro r (bro p+1) q
theorem Tw.build {g:Nat→Ed} {F:Nat→Prop} {P:Nat} {vt ed bro:Nat→Nat} (h:Tw g F P vt ed bro):∀(m p q:Nat),q=p+m→q≤P→(∀n,p≤n→n<q→p≤bro n∧bro n<q)→∃T,Iv P vt bro T p q:=by
 intro m;induction m using Nat.strongRecOn with
 |ind m ih=>
  intro p q hq hP hc
  match m,ih with
  |0,_=>exact⟨.nil,by simpa[Iv] using hq.symm⟩
  |m+1,ih=>
   have hp:p<P:=oM;have h1:=hc p oM oM;have h2:=h.bro_ne p hp;obtain⟨s,hs⟩:=ih (bro p-(p+1)) oM (p+1) (bro p) oM oM (fun n h3 h4=>by
    have:=h.nocross hp (show p<n by omega) h4;omega)
   obtain⟨r,hr⟩:=ih (q-(bro p+1)) oM (bro p+1) q oM oM (fun n h3 h4=>by
    have h5:=hc n oM h4;have hn:n<P:=oM;refine⟨?_,h5.2⟩;rcases Nat.lt_or_ge (bro p) (bro n) with h6|h6
    ·omega
    ·exfalso;have e1:=h.bro_bro n hn;by_cases h7:bro n=p
     ·rw[h7] at e1;omega
     ·by_cases h8:bro n=bro p
      ·rw[h8,h.bro_bro p hp] at e1;omega
      ·have:=h.nocross hp (a:=bro n) oM oM;omega)
   exact⟨.node (vt (p+1)) s r,hp,oM,h.bro_lt p hp,rfl,h.bro_bro p hp,h.bro_to p hp,hs,hr⟩
theorem Tw.trees {g:Nat→Ed} {F:Nat→Prop} {P:Nat} {vt ed bro:Nat→Nat} (h:Tw g F P vt ed bro):∃T,Iv P vt bro T 0 P:=h.build P 0 P oM (AI _) fun n _ hn=>⟨oM,h.bro_lt n hn⟩
theorem Iv.len {P:Nat} {vt bro:Nat→Nat}:∀{T:Fo} {p q:Nat},Iv P vt bro T p q→q=p+2*T.sz
 | .nil,p,q,h=>by simp only[Iv] at h;simp[Fo.sz,h]
 | .node v s r,p,q,h=>by obtain⟨_,_,_,_,_,_,h1,h2⟩:=h;have e1:=h1.len;have e2:=h2.len;simp only[Fo.sz];omega
theorem Iv.vs_mem {P:Nat} {vt bro:Nat→Nat}:∀{T:Fo} {p q:Nat},Iv P vt bro T p q→∀x,x∈T.vs↔∃k,p≤k∧k<q∧k<bro k∧vt (k+1)=x
 | .nil,p,q,h,x=>by
  simp only[Iv] at h;simp only[Fo.vs,List.not_mem_nil,false_iff];rintro⟨k,h1,h2,_⟩;omega
 | .node v s r,p,q,h,x=>by
  obtain⟨hp,hd,ab,hv,aa,_,h1,h2⟩:=h;have e1:=h1.len;have e2:=h2.len;simp only[Fo.vs,AN,AR,h1.vs_mem x,h2.vs_mem x];constructor
  ·rintro(rfl|⟨k,k1,k2,k3,k4⟩|⟨k,k1,k2,k3,k4⟩)
   ·exact⟨p,oM,oM,hd,hv⟩
   ·exact⟨k,oM,oM,k3,k4⟩
   ·exact⟨k,oM,oM,k3,k4⟩
  ·rintro⟨k,k1,k2,k3,k4⟩;by_cases h3:k=p
   ·subst h3;exact .inl (k4.symm.trans hv)
   ·by_cases h4:k<bro p
    ·exact .inr (.inl ⟨k,oM,h4,k3,k4⟩)
    ·by_cases h5:k=bro p
     ·subst h5;rw[aa] at k3;omega
     ·exact .inr (.inr ⟨k,oM,k2,k3,k4⟩)
theorem Tw.vs_nodup {g:Nat→Ed} {F:Nat→Prop} {P:Nat} {vt ed bro:Nat→Nat} (hT:Tw g F P vt ed bro):∀{T:Fo} {p q:Nat},q≤P→Iv P vt bro T p q→T.vs.Nodup
 | .nil,_,_,_,_=>by simp[Fo.vs]
 | .node v s r,p,q,hq,h=>by
  obtain⟨hp,hd,ab,hv,ac,_,h1,h2⟩:=h;have e1:=h1.len;have e2:=h2.len;simp only[Fo.vs,List.nodup_cons,AR,List.nodup_append];refine⟨?_,hT.vs_nodup oM h1,hT.vs_nodup hq h2,?_⟩
  ·rw[h1.vs_mem,h2.vs_mem];rintro(⟨k,k1,k2,k3,k4⟩|⟨k,k1,k2,k3,k4⟩)
   ·have:=hT.down_inj hp oM hd k3 (hv.trans k4.symm);omega
   ·have:=hT.down_inj hp oM hd k3 (hv.trans k4.symm);omega
  ·intro x hx y hy aa;subst aa;obtain⟨k,k1,k2,k3,k4⟩:=(h1.vs_mem x).1 hx;obtain⟨j,j1,j2,j3,j4⟩:=(h2.vs_mem x).1 hy;have:=hT.down_inj oM oM k3 j3 (k4.trans j4.symm);omega
def Fo.Jo (J:Int→Nat→Prop):Int→Fo→Prop
 |_,.nil=>True
 |u,.node v s r=>J u v∧s.Jo J (v:Int)∧r.Jo J u
theorem Iv.jo {P:Nat} {vt bro:Nat→Nat} {J:Int→Nat→Prop} (hJ:∀k,k<P→J (vt k:Int) (vt (k+1))):∀{T:Fo} {p q:Nat},Iv P vt bro T p q→T.Jo J (vt p)
 | .nil,_,_,_=>trivial
 | .node v s r,p,q,h=>by obtain⟨hp,hd,ab,rfl,ac,aa,h1,h2⟩:=h;refine⟨hJ p hp,h1.jo hJ,?_⟩;have:=h2.jo hJ;rwa[aa] at this
open Go.SL Go.Tup
section
variable {α:Type} {f:α→List Value} {k:Nat}
theorem Kt (hf:∀a,(f a).length=k):∀l:List α,(l.flatMap f).length=l.length*k
 |[]=>by simp
 |a::l=>by rw[BC,AH,hf,Kt hf l,AJ,BJ];omega
theorem jP (hf:∀a,(f a).length=k):∀(l:List α) (i:Nat),(l.flatMap f).drop (i*k)=(l.drop i).flatMap f
 |[],i=>by simp
 |a::l,0=>by simp
 |a::l,i+1=>by rw[BC,List.drop_succ_cons,←jP hf l i,show(i+1)*k=(f a).length+i*k by rw[hf,BJ];omega,List.drop_append];simp
theorem jQ (hf:∀a,(f a).length=k) {l:List α} {i:Nat} {a:α} (h:l[i]? =some a):((l.flatMap f).drop (i*k)).take k=f a:=by obtain⟨hi,rfl⟩:=AK.1 h;rw[jP hf,BM hi,BC,List.take_left' (hf _)]
theorem aX (hf:∀a,(f a).length=k) {l:List α} {i:Nat} {a:α} (h:l[i]? =some a) (rest:List Value):((l.flatMap f++rest).drop (i*k)).take k=f a:=by obtain⟨hi,_⟩:=AK.1 h;have hl:=Kt hf l;have h1:(i+1)*k≤l.length*k:=Nat.mul_le_mul_right _ hi;rw[BJ] at h1;rw[List.drop_append_of_le_length oM,List.take_append_of_le_length (by rw[List.length_drop];omega),jQ hf h]
theorem aY (hf:∀a,(f a).length=k) {l:List α} {i j:Nat} {a:α} {v:Value} (h:l[i]? =some a) (hj:(f a)[j]? =some v) (rest:List Value):(l.flatMap f++rest)[i*k+j]? =some v:=by
 have h1:=aX hf h rest;have aa:j<k:=by have:=(AK.1 hj).1;rw[hf] at this;exact this
 have h2:=congrArg (fun l=>l[j]?) h1;simp only[BY,if_pos aa,BU] at h2;rw[h2,hj]
theorem aZ (hf:∀a,(f a).length=k) (l:List α) (i:Nat) (b:α) (rest:List Value) (h:i<l.length):Bs (l.flatMap f++rest) (i*k) (f b)=(l.set i b).flatMap f++rest:=by
 obtain⟨l1,a,l2,rfl,aa⟩:∃l1 a l2,l=l1++a::l2∧l1.length=i:=⟨l.take i,l[i],l.drop (i+1),by rw[←BM h,BT],by simp;omega⟩
 subst aa;have h1:=Kt hf l1;rw[Ma _ _ _ (by simp only[B9,BC,AH,Kt hf,hf];omega)];rw[D9 _ _ (AI _),DS,List.set_cons_zero];simp only[B9,BC,List.append_assoc];rw[←h1,List.take_left,hf];congr 2;rw[←List.drop_drop,List.drop_left,←hf a,List.drop_left]
theorem jR {cs xs:List Value} {off m i:Nat} {v:Value} (h:(cs.drop off).take m=xs) (hv:xs[i]? =some v):cs[off+i]? =some v:=by
 rw[←h,BY] at hv;split at hv
 ·rwa[BU] at hv
 ·cases hv
theorem vW {cs xs vs:List Value} {off m i q:Nat} (h:(cs.drop off).take m=xs) (hv:(xs.drop i).take q=vs) (hq:vs.length=q):(cs.drop (off+i)).take q=vs:=by
 rw[←h,List.drop_take,List.drop_drop,List.take_take] at hv;have h1:(vs.length:Nat)≤m-i:=by rw[←hv,BQ];omega
 rw[show min q (m-i)=q by omega] at hv;exact hv
def Rw (f:α→List Value) (k:Nat) (p:Option Addr) (m:Nat) (xs:List α) (c:Aa):Prop:=
 xs.length=m∧((m=0∧c=[])∨∃b off cs T fz,p=some ⟨b,off,none⟩∧c=[(b,Al cs T fz)]∧(cs.drop off).take (m*k)=xs.flatMap f)
theorem Rw.pos (hf:∀a,(f a).length=k) {p:Option Addr} {m:Nat} {xs:List α} {c:Aa} (h:Rw f k p m xs c) (hm:0<m):∃b off cs T fz,p=some ⟨b,off,none⟩∧c=[(b,Al cs T fz)]∧(∀i a,xs[i]? =some a→(cs.drop (off+i*k)).take k=f a)∧∀i j a v,xs[i]? =some a→(f a)[j]? =some v→cs[off+i*k+j]? =some v:=by
 obtain⟨hl,⟨h0,_⟩|⟨b,off,cs,T,fz,rfl,rfl,h⟩⟩:=h
 ·omega
 ·refine⟨b,off,cs,T,fz,rfl,rfl,fun i a hi=>vW h (jQ hf hi) (hf a),fun i j a v hi hj=>?_⟩;have:=aY hf hi hj [];rw[AP] at this;rw[Nat.add_assoc];exact jR h this
theorem Rw.ofVec (hf:∀a,(f a).length=k) {E:Nat} {p:Option Addr} {m cap:Nat} {xs:List α} {c:Aa} (h:Vec E k p m cap (xs.flatMap f) c) (hk:0<k):Rw f k p m xs c:=by
 have hl:xs.length=m:=by have:=h.1;rw[Kt hf] at this;exact Nat.eq_of_mul_eq_mul_right hk this
 rcases h.2 with⟨_,h0,_,hc⟩|⟨b,rest,hp,hc,_,_,_⟩
 ·exact⟨hl,.inl ⟨h0,hc⟩⟩
 ·refine⟨hl,.inr ⟨b,0,xs.flatMap f++rest,E,(0,0),hp,hc,?_⟩⟩;rw[List.drop_zero,←h.1,List.take_left]
end
abbrev IE:=Int×Int
def ecl (e:IE):List Value:=[Z9 Z8 e.1,Z9 Z8 e.2]
def bcl (x:Bool):List Value:=[.bool x]
theorem Iw (e:IE):(ecl e).length=2:=rfl
theorem vX (e:Bool):(bcl e).length=1:=rfl
theorem Nd:∀ts:List T5,flat ts=ts.flatMap Ak
 |[]=>rfl
 |t::ts=>by rw[BC,←Nd ts];rfl
theorem Ds (t:T5):(Ak t).length=5:=rfl
theorem RV.rw {p:Option Addr} {n:Nat} {ts:List T5} {c:Aa} (h:RV p n ts c):Rw Ak 5 p n ts c:=by obtain⟨h1,h2⟩:=h;rw[Nd] at h2;exact⟨h1,h2⟩
theorem Rw.rv {p:Option Addr} {n:Nat} {ts:List T5} {c:Aa} (h:Rw Ak 5 p n ts c):RV p n ts c:=by obtain⟨h1,h2⟩:=h;rw[←Nd] at h2;exact⟨h1,h2⟩
def gv (n:Int) (p:Option Addr) (m cap:Nat):Value:= .agg #[Z9 Z8 n,.slice p m cap]
def inE (n:Int) (e:IE):Prop:=0≤e.1∧e.1<n∧0≤e.2∧e.2<n
instance (n:Int) (e:IE):Decidable (inE n e):=by unfold inE;infer_instance
def Gc (n:Int) (es:List IE):Bool:=decide (0≤n∧n≤1073741824∧es.length≤1073741824)&&es.all fun e=>decide (inE n e)
theorem bA (n:Int) (p:Option Addr) (m cap:Nat) (es:List IE) (c:Aa) (hv:Rw ecl 2 p m es c) (hm:m≤maxLen):CtQ AC 16 [gv n p m cap] [c] (.bool (Gc n es)):=by
 have hl:=hv.1;simp only[maxLen] at hm;have ad:∀i e,es[i]? =some e→¬inE n e→Gc n es=false:=fun i e hi he=>by unfold Gc;rw[Bool.and_eq_false_iff];exact .inr (by simp only[List.all_eq_false,decide_eq_true_eq];exact⟨e,A0 hi,he⟩)
 unfold gv;by_cases h1:n<0
 ·have hb:Gc n es=false:=by unfold Gc;rw[decide_eq_false oM];rfl
  rw[hb];refine cG func16 fun _=>?_;repeat(refine sA ?_;intros)
  (refine dP [c] ?_;exact⟨rfl,rfl⟩)
 by_cases h2:1073741824<n
 ·have hb:Gc n es=false:=by unfold Gc;rw[decide_eq_false oM];rfl
  rw[hb];refine cG func16 fun _=>?_;repeat(refine sA ?_;intros)
  (refine dP [c] ?_;exact⟨rfl,rfl⟩)
 by_cases h3:1073741824<m
 ·have hb:Gc n es=false:=by unfold Gc;rw[decide_eq_false oM];rfl
  rw[hb];refine cG func16 fun _=>?_;repeat(refine sA ?_;intros)
  (refine dP [c] ?_;exact⟨rfl,rfl⟩)
 refine cG func16 fun _=>?_;repeat(refine sA ?_;intros)
 rename_i b1;refine G.loop (X:=Nat) (fun i=>i≤m∧∀j e,j<i→es[j]? =some e→inE n e)
  (fun i=>[(3,Z9 Z8 i),(1,pv b1)])
  (fun _=>[[(b1,row [Z9 Z8 n,.slice p m cap] 24)],c]) (fun i=>m-i) 0 ⟨AT _,fun j e h=>by omega⟩ (body:=?_)
 rintro i ⟨hi,ae⟩;by_cases aj:i<m
 ·obtain⟨b,off,cs,T,fz,rfl,rfl,ag,ai⟩:=hv.pos Iw oM;have ac:es[i]? =some es[i]:=AG oM;have hc:=ag i _ ac;have aa:=ad i _ ac;generalize he:es[i]=e at*;obtain⟨u,v⟩:=e;have ak:(cs.drop (off+i*2)).take 2=[Z9 Z8 u,Z9 Z8 v]:=hc;by_cases g1:u<0
  ·rw[aa (by unfold inE;dsimp only;omega)];repeat(refine sA ?_;intros)
   (refine dP [[(b,Al cs T fz)]] ?_;exact⟨rfl,rfl⟩)
  by_cases g2:n≤u
  ·rw[aa (by unfold inE;dsimp only;omega)];repeat(refine sA ?_;intros)
   (refine dP [[(b,Al cs T fz)]] ?_;exact⟨rfl,rfl⟩)
  by_cases g3:v<0
  ·rw[aa (by unfold inE;dsimp only;omega)];repeat(refine sA ?_;intros)
   (refine dP [[(b,Al cs T fz)]] ?_;exact⟨rfl,rfl⟩)
  by_cases g4:n≤v
  ·rw[aa (by unfold inE;dsimp only;omega)];repeat(refine sA ?_;intros)
   (refine dP [[(b,Al cs T fz)]] ?_;exact⟨rfl,rfl⟩)
  repeat(refine sA ?_;intros)
  refine Dn.round (i+1) ⟨oM,fun j e hj ab=>?_⟩ oM;by_cases ah:j=i
  ·subst ah;rw[ac] at ab;simp only[BG] at ab;subst ab;exact⟨oD,oD,oD,oD⟩
  ·exact ae j e oM ab
 ·obtain rfl:i=m:=by omega
  have hb:Gc n es=true:=by unfold Gc;rw[decide_eq_true oM,Bool.true_and,List.all_eq_true];intro e he;obtain⟨j,hj,rfl⟩:=DC he;exact decide_eq_true (ae j _ oM (AG hj))
  rw[hb];repeat(refine sA ?_;intros)
  (refine dP [c] ?_;exact⟨rfl,rfl⟩)
theorem bB (n:Int) (p:Option Addr) (m cap:Nat) (a b:Int) (hm:m≤maxLen):CtQ AC 17 [gv n p m cap,Z9 Z8 a,Z9 Z8 b] [] (.bool (dec (n≤a∧(m:Int)≤b))):=by
 simp only[maxLen] at hm;unfold gv;by_cases h1:n≤a
 ·by_cases h2:(m:Int)≤b
  ·rw[Fj ⟨h1,h2⟩];refine cG func17 fun _=>?_;repeat(refine sA ?_;intros)
   (refine dP [] ?_;exact⟨congrArg Value.bool (Fj h2),rfl⟩)
  ·rw[Jf oM];refine cG func17 fun _=>?_;repeat(refine sA ?_;intros)
   (refine dP [] ?_;exact⟨congrArg Value.bool (Jf h2),rfl⟩)
 ·rw[Jf oM];refine cG func17 fun _=>?_;repeat(refine sA ?_;intros)
  (refine dP [] ?_;exact⟨rfl,rfl⟩)
def gE (es:List IE) (i:Nat):Ed:=match es[i]? with
 |some e=>(e.1.toNat,e.2.toNat)
 |none=>(0,0)
def Ey (es:List IE) (ob:List Bool) (w:Int) (i:Nat):Prop:=∃e,es[i]? =some e∧e.1≠w∧e.2≠w∧ob[i]?≠some true
def Au (l:List Int):List Value:=l.map (Value.int .i64)
theorem Ln {l:List Int} {i:Nat} {x:Int} (h:l[i]? =some x):(Au l)[i]? =some (Z9 Z8 x):=by unfold Au;rw[BH,h];rfl
theorem Lo (l:List Int) (i:Nat) (x:Int):(Au l).set i (Z9 Z8 x)=Au (l.set i x):=by unfold Au;rw[List.map_set]
structure Ml (g:Nat→Ed) (S:Nat→Prop) (N:Nat) (w:Int) (l:List Int):Prop where
 len:l.length=N
 at_:∀v,v<N→(v:Int)≠w→∃x:Nat,l[v]? =some (x:Int)∧Cn g S v x∧x≤v∧(x:Int)≠w
 out:∀v,v<N→(v:Int)=w→l[v]? =some (-1)
structure Ee (g:Nat→Ed) (S:Nat→Prop) (N:Nat) (w:Int) (l:List Int):Prop where
 len:l.length=N
 at_:∀v,v<N→(v:Int)≠w→∃x:Nat,l[v]? =some (x:Int)∧Cn g S v x∧x≤v∧∀u,Cn g S v u→x≤u
 out:∀v,v<N→(v:Int)=w→l[v]? =some (-1)
def Lp (l:List Int):Nat:=(l.map Int.toNat).sum
theorem Xb {l:List Int} {i:Nat} {x y:Int} (h:l[i]? =some x) (hy:y.toNat<x.toNat):Lp (l.set i y)<Lp l:=by
 obtain⟨hi,rfl⟩:=AK.1 h;unfold Lp;have e1:l=l.take i++l[i]::l.drop (i+1):=by rw[←BM hi,BT]
 have e2:l.set i y=l.take i++y::l.drop (i+1):=by rw[List.set_eq_take_append_cons_drop,if_pos hi]
 rw[e2]
 conv=>rhs;rw[e1]
 simp only[List.map_append,AZ,List.sum_append_nat,List.sum_cons];omega
theorem Ml.done {g:Nat→Ed} {S:Nat→Prop} {N:Nat} {w:Int} {l:List Int} (h:Ml g S N w l) (hs:∀i,S i→l[(g i).1]? =l[(g i).2]?):Ee g S N w l:=by
 refine⟨h.len,fun v hv hw=>?_,h.out⟩;obtain⟨x,h1,h2,h3,_⟩:=h.at_ v hv hw;refine⟨x,h1,h2,h3,fun u hu=>?_⟩;have h4:l[u]? =l[v]? :=hu.stay (X:=fun y=>l[y]? =l[v]?) rfl fun i hi=>by rw[hs i hi]
 rw[h1] at h4;have aa:u<N:=by rw[←h.len];exact(AK.1 h4).1
 by_cases ab:(u:Int)=w
 ·have:=h.out u aa ab;rw[h4] at this;simp only[BG] at this;omega
 ·obtain⟨y,h5,_,h6,_⟩:=h.at_ u aa ab;rw[h4] at h5;simp only[BG] at h5;omega
theorem Ml.put {g:Nat→Ed} {S:Nat→Prop} {N:Nat} {w:Int} {l:List Int} (h:Ml g S N w l) {a b:Nat} {x y:Nat} (ha:l[a]? =some (x:Int)) (hb:l[b]? =some (y:Int)) (hj:Cn g S b a) (ae:x≤y) (ab:(a:Int)≠w) (ac:(b:Int)≠w):Ml g S N w (l.set b (x:Int)):=by
 have ag:b<N:=by rw[←h.len];exact(AK.1 hb).1
 have ad:a<N:=by rw[←h.len];exact(AK.1 ha).1
 refine⟨by rw[DE];exact h.len,fun v hv hw=>?_,fun v hv hw=>?_⟩
 ·by_cases aa:v=b
  ·subst aa;obtain⟨x',h1,h2,h3,h4⟩:=h.at_ a ad ab;obtain⟨y',g1,g2,g3,g4⟩:=h.at_ v hv hw;rw[ha] at h1;rw[hb] at g1;simp only[BG] at h1 g1;obtain rfl:x=x':=by omega
   exact⟨x,by rw[DK (by rw[h.len];exact hv)],hj.trans h2,oM,h4⟩
  ·obtain⟨x',h1,h2,h3⟩:=h.at_ v hv hw;exact⟨x',by rw[CW (Ne.symm aa)];exact h1,h2,h3⟩
 ·have aa:v≠b:=fun e=>ac (e▸hw);rw[CW (Ne.symm aa)];exact h.out v hv hw
structure LabX where
 i:Nat
 l:List Int
 ch:Bool
theorem bC {l:List Int} {i:Nat} {x:Int} (h:l[i]? =some x):l.set i x=l:=by obtain⟨hi,rfl⟩:=AK.1 h;exact List.set_getElem_self hi
def n0 (N:Nat):List Int:=(BA N).map fun (v:Nat)=>(v:Int)
theorem Pf (N:Nat):(n0 N).length=N:=by simp[n0]
theorem Su {N v:Nat} (h:v<N):(n0 N)[v]? =some (v:Int):=by simp[n0,h]
def nf (N i:Nat):List Int:=(n0 N).take i++BX (N-i) 0
theorem jS (N i:Nat) (h:i≤N):(nf N i).length=N:=by simp[nf,Pf];omega
theorem jT (N i:Nat) (h:i<N):(nf N i).set i (i:Int)=nf N (i+1):=by
 unfold nf;have hl:((n0 N).take i).length=i:=by simp[Pf];omega
 rw[D9 _ _ oM,hl,DS,show N-i=(N-(i+1))+1 by omega,D6,List.set_cons_zero,BP,Su h];simp
theorem jU (N:Nat):nf N N=n0 N:=by simp[nf,Pf,A5]
theorem bD:∀N,Bl N [Value.int .i64 0]=Au (nf N 0)
 |0=>rfl
 |N+1=>by have:=bD N;unfold nf Au at this⊢;simp only[List.take_zero,AB,Nat.sub_zero] at this⊢;rw[D6,AZ,←this];rfl
theorem n0in (g:Nat→Ed) (S:Nat→Prop) (N:Nat) (w:Int) (hw:¬(0≤w∧w<N)):Ml g S N w (n0 N):=
 ⟨Pf N,fun v hv aa=>⟨v,Su hv,.refl _,AI _,aa⟩,fun v hv h=>absurd ⟨oM,oM⟩ hw⟩
theorem n0inW (g:Nat→Ed) (S:Nat→Prop) (N w:Nat) (hw:w<N):Ml g S N w ((n0 N).set w (-1)):=
 ⟨by rw[DE];exact Pf N,fun v hv aa=>⟨v,by rw[CW oM];exact Su hv,.refl _,AI _,aa⟩,
  fun v hv h=>by
   obtain rfl:v=w:=by omega
   rw[DK (by rw[Pf];exact hv)]⟩
theorem jV (N:Nat) (hN:N≤1000000) (p:Option Addr) (m cap:Nat) (es:List IE) (c:Aa) (hv:Rw ecl 2 p m es c) (hm:m≤1000000) (hf:∀e∈es,inE N e) (po:Option Addr) (ko ae:Nat) (ob:List Bool) (co:Aa) (ay:Rw bcl 1 po ko ob co) (bh:ko≤1000000) (w:Int):Ct AC 98 [gv N p m cap,.slice po ko ae,Z9 Z8 w] [c,co] fun v H'=>∃bl l,v= .slice (some ⟨bl,0,none⟩) N N∧H'=[c,co,[(bl,row (Au l) 3)]]∧Ee (gE es) (Ey es ob w) N w l:=by
 have hl:=hv.1;have bi:=ay.1;have bk:∀x:Nat,x≤1000000→(x:Int)≤9223372036854775807:=fun x h=>by omega
 unfold gv;refine cG func98 fun _=>?_;repeat(refine sA ?_;intros)
 rename_i b3 bl;rw[bD];refine G.loop (X:=Nat) (fun i=>i≤N) (fun i=>[(8,Z9 Z8 i),(7,.slice (some ⟨bl,0,none⟩) N N),(3,pv b3),(1,.slice po ko ae),(2,Z9 Z8 w)])
  (fun i=>[[(bl,row (Au (nf N i)) 3)],[(b3,row [Z9 Z8 N,.slice p m cap] 24)],c,co]) (fun i=>N-i) 0 (AT _) (body:=?_)
 intro i hi;by_cases ab:i<N
 ·have ac:(Au (nf N i)).set i (Z9 Z8 i)=Au (nf N (i+1)):=by rw[Lo,jT N i ab]
  have az:i<(Au (nf N i)).length:=by simp only[Au,AQ,jS N i hi];exact ab
  repeat(refine sA ?_;intros)
  refine Dn.round (i+1) oM oM
 obtain rfl:i=N:=by omega
 rw[jU];clear hi ab;apply G.seq;repeat(first|(refine stn ?_;intros)|refine G.draw [] (h:=?_))
 apply G.seq;repeat(first|(refine stn ?_;intros)|refine G.draw [] (h:=?_))
 refine G.cut (D':=[]) (X:=List Int) (fun l=>Ml (gE es) (Ey es ob w) i w l) (fun _=>[(7,.slice (some ⟨bl,0,none⟩) i i),(3,pv b3),(1,.slice po ko ae),(2,Z9 Z8 w)]) (fun l=>[[(bl,row (Au l) 3)],[(b3,row [Z9 Z8 i,.slice p m cap] 24)],c,co]) ?_ ?_
 ·by_cases hw:0≤w∧w<i
  ·obtain⟨w',rfl⟩:∃w':Nat,w=(w':Int):=⟨w.toNat,oM⟩
   have ac:(Au (n0 i)).set w' (Z9 Z8 (-1))=Au ((n0 i).set w' (-1)):=Lo _ _ _;have az:w'<(Au (n0 i)).length:=by simp only[Au,AQ,Pf];omega
   repeat(refine sA ?_;intros)
   exact Dn.meet ((n0 i).set w' (-1)) (n0inW _ _ i w' oM)
  ·have aj:=n0in (gE es) (Ey es ob w) i w hw;by_cases bp:0≤w
   ·repeat(refine sA ?_;intros)
    exact Dn.meet (n0 i) aj
   ·repeat(refine sA ?_;intros)
    exact Dn.meet (n0 i) aj
 intro l0 a0;repeat(refine sA ?_;intros)
 refine G.loop (X:=List Int×Bool) (fun x=>Ml (gE es) (Ey es ob w) i w x.1∧(x.2=false→∀j,Ey es ob w j→x.1[(gE es j).1]? =x.1[(gE es j).2]?))
  (fun x=>[(9,.bool x.2),(7,.slice (some ⟨bl,0,none⟩) i i),(3,pv b3),(1,.slice po ko ae),(2,Z9 Z8 w)]) (fun x=>[[(bl,row (Au x.1) 3)],[(b3,row [Z9 Z8 i,.slice p m cap] 24)],c,co]) (fun x=>2*Lp x.1+(if x.2 then 1 else 0)) (l0,true) ⟨a0,fun h=>by cases h⟩ (body:=?_)
 rintro⟨l,ch⟩ ⟨aj,a1⟩;dsimp only at aj a1⊢;cases ch with
 |false=>
  repeat(refine sA ?_;intros)
  (refine dP [c,co,[(bl,row (Au l) 3)]] ?_;exact⟨bl,l,rfl,rfl,aj.done (a1 rfl)⟩)
 |true=>
 repeat(refine sA ?_;intros)
 refine G.loop (X:=LabX) (fun x=>x.i≤m∧Ml (gE es) (Ey es ob w) i w x.l∧Lp x.l≤Lp l∧(x.ch=true→Lp x.l<Lp l)∧(x.ch=false→∀j,j<x.i→Ey es ob w j→x.l[(gE es j).1]? =x.l[(gE es j).2]?))
  (fun x=>[(10,Z9 Z8 x.i),(9,.bool x.ch),(7,.slice (some ⟨bl,0,none⟩) i i),(3,pv b3),(1,.slice po ko ae),(2,Z9 Z8 w)]) (fun x=>[[(bl,row (Au x.l) 3)],[(b3,row [Z9 Z8 i,.slice p m cap] 24)],c,co]) (fun x=>m-x.i) ⟨0,l,false⟩ ⟨AT _,aj,AI _,fun h=>(by cases h),fun _ j h=>absurd h (ED j)⟩ (body:=?_)
 rintro⟨k,l2,ch⟩ ⟨hk,aa,aq,ak,al⟩;dsimp only at hk aa aq ak al⊢;by_cases ab:k<m;rotate_left
 ·obtain rfl:k=m:=by omega
  repeat(refine sA ?_;intros)
  refine Dn.round (l2,ch) ⟨aa,fun h j hj=>al h j ?_ hj⟩ ?_
  ·obtain⟨e,h1,_⟩:=hj;rw[←hl];exact(AK.1 h1).1
  ·dsimp only;cases ch with
   |true=>have:=ak rfl;simp only[if_true];omega
   |false=>simp only[CI,if_false,if_true];omega
 obtain⟨b,off,cs,T,fz,rfl,rfl,a2,bf⟩:=hv.pos Iw oM;have ah:es[k]? =some es[k]:=AG oM;have hc:=a2 k _ ah;have a4:=hf _ (A0 ah);generalize he:es[k]=e at*;obtain⟨u,v⟩:=e;obtain⟨f1,f2,f3,f4⟩:=a4;dsimp only at f1 f2 f3 f4;obtain⟨u,rfl⟩:∃u':Nat,u=(u':Int):=⟨u.toNat,oM⟩
 obtain⟨v,rfl⟩:∃v':Nat,v=(v':Int):=⟨v.toNat,oM⟩
 have bq:(cs.drop (off+k*2)).take 2=[Z9 Z8 u,Z9 Z8 v]:=hc;have au:gE es k=(u,v):=by unfold gE;rw[ah];simp
 have ai:¬Ey es ob w k→Ml (gE es) (Ey es ob w) i w l2∧Lp l2≤Lp l∧(ch=true→Lp l2<Lp l)∧(ch=false→∀j,j<k+1→Ey es ob w j→l2[(gE es j).1]? =l2[(gE es j).2]?):=fun a5=>
  ⟨aa,aq,ak,fun h j hj ha=>by
   by_cases am:j=k
   ·subst am;exact absurd ha a5
   ·exact al h j oM ha⟩
 by_cases g1:(u:Int)=w
 ·obtain⟨q1,q2,q3,q4⟩:=ai fun ⟨e,h1,h2,_⟩=>by rw[ah] at h1;simp only[BG] at h1;subst h1;exact h2 g1
  repeat(refine sA ?_;intros)
  refine Dn.round ⟨k+1,l2,ch⟩ ⟨ab,q1,q2,q3,q4⟩ oD
 by_cases g2:(v:Int)=w
 ·obtain⟨q1,q2,q3,q4⟩:=ai fun ⟨e,h1,_,h2,_⟩=>by rw[ah] at h1;simp only[BG] at h1;subst h1;exact h2 g2
  repeat(refine sA ?_;intros)
  refine Dn.round ⟨k+1,l2,ch⟩ ⟨ab,q1,q2,q3,q4⟩ oD
 by_cases g3:k<ko
 ·obtain⟨bu,bg,bv,To,bz,rfl,rfl,a6,av⟩:=ay.pos vX oM;have aw:ob[k]? =some ob[k]:=AG oM;have a7:=av k 0 _ _ aw rfl;rw[Nat.mul_one,B6] at a7;generalize b2:ob[k]=o at*;cases o with
  |true=>
   obtain⟨q1,q2,q3,q4⟩:=ai fun ⟨e,h1,_,_,h2⟩=>h2 aw;repeat(refine sA ?_;intros)
   refine Dn.round ⟨k+1,l2,ch⟩ ⟨ab,q1,q2,q3,q4⟩ oD
  |false=>
  have an:Ey es ob w k:=⟨_,ah,g1,g2,by rw[aw];decide⟩
  obtain⟨x,x1,x2,x3,x4⟩:=aa.at_ u oM g1;obtain⟨y,y1,y2,y3,y4⟩:=aa.at_ v oM g2;have a8:=Ln x1;have a9:=Ln y1;have ag:Cn (gE es) (Ey es ob w) u v:=by have:=Cn.edge (g:=gE es) an;rw[au] at this;exact this
  have bc:u<(Au l2).length:=by simp only[Au,AQ,aa.len];omega
  have be:v<(Au l2).length:=by simp only[Au,AQ,aa.len];omega
  by_cases ax:x=y
  ·subst ax;have ac:(Au l2).set u (Z9 Z8 x)=Au l2:=by rw[Lo];congr 1;exact bC x1
   repeat(refine sA ?_;intros)
   refine Dn.round ⟨k+1,l2,ch⟩ ⟨ab,aa,aq,ak,fun h j hj ha=>?_⟩ oD;by_cases am:j=k
   ·subst am;rw[au];exact x1.trans y1.symm
   ·exact al h j (by dsimp only at hj;omega) ha
  ·by_cases a3:x<y
   ·have ac:(Au l2).set v (Z9 Z8 x)=Au (l2.set v (x:Int)):=Lo _ _ _;have ao:=Xb (y:=(x:Int)) y1 oM;have ad:=aa.put x1 y1 ag.symm oM g1 g2;repeat(refine sA ?_;intros)
    refine Dn.round ⟨k+1,l2.set v (x:Int),true⟩ ⟨ab,ad,oD,fun _=>by dsimp only;omega,fun h=>(by cases h)⟩ oD
   ·have ac:(Au l2).set u (Z9 Z8 y)=Au (l2.set u (y:Int)):=Lo _ _ _;have ao:=Xb (y:=(y:Int)) x1 oM;have ad:=aa.put y1 x1 ag oM g2 g1;repeat(refine sA ?_;intros)
    refine Dn.round ⟨k+1,l2.set u (y:Int),true⟩ ⟨ab,ad,oD,fun _=>by dsimp only;omega,fun h=>(by cases h)⟩ oD
 ·have an:Ey es ob w k:=⟨_,ah,g1,g2,by rw[List.getElem?_eq_none oM];decide⟩
  obtain⟨x,x1,x2,x3,x4⟩:=aa.at_ u oM g1;obtain⟨y,y1,y2,y3,y4⟩:=aa.at_ v oM g2;have a8:=Ln x1;have a9:=Ln y1;have ag:Cn (gE es) (Ey es ob w) u v:=by have:=Cn.edge (g:=gE es) an;rw[au] at this;exact this
  have bc:u<(Au l2).length:=by simp only[Au,AQ,aa.len];omega
  have be:v<(Au l2).length:=by simp only[Au,AQ,aa.len];omega
  by_cases ax:x=y
  ·subst ax;have ac:(Au l2).set u (Z9 Z8 x)=Au l2:=by rw[Lo];congr 1;exact bC x1
   repeat(refine sA ?_;intros)
   refine Dn.round ⟨k+1,l2,ch⟩ ⟨ab,aa,aq,ak,fun h j hj ha=>?_⟩ oD;by_cases am:j=k
   ·subst am;rw[au];exact x1.trans y1.symm
   ·exact al h j (by dsimp only at hj;omega) ha
  ·by_cases a3:x<y
   ·have ac:(Au l2).set v (Z9 Z8 x)=Au (l2.set v (x:Int)):=Lo _ _ _;have ao:=Xb (y:=(x:Int)) y1 oM;have ad:=aa.put x1 y1 ag.symm oM g1 g2;repeat(refine sA ?_;intros)
    refine Dn.round ⟨k+1,l2.set v (x:Int),true⟩ ⟨ab,ad,oD,fun _=>by dsimp only;omega,fun h=>(by cases h)⟩ oD
   ·have ac:(Au l2).set u (Z9 Z8 y)=Au (l2.set u (y:Int)):=Lo _ _ _;have ao:=Xb (y:=(y:Int)) x1 oM;have ad:=aa.put y1 x1 ag oM g2 g1;repeat(refine sA ?_;intros)
    refine Dn.round ⟨k+1,l2.set u (y:Int),true⟩ ⟨ab,ad,oD,fun _=>by dsimp only;omega,fun h=>(by cases h)⟩ oD
def Fp (n:Int) (t:T5):Prop:=0≤t.c0∧0≤t.c1∧0≤t.c2∧t.c1<n∧t.c2<n
instance (n:Int) (t:T5):Decidable (Fp n t):=by unfold Fp;infer_instance
def Ij (n:Int) (ts:List T5):Prop:=(∀t∈ts,Fp n t)∧ts.Pairwise fun a b=>a.c0≠b.c0
instance (n:Int) (ts:List T5):Decidable (Ij n ts):=by unfold Ij;infer_instance
theorem vY (n:Nat) (hn:n≤1073741824) (p:Option Addr) (m cap:Nat) (ts:List T5) (c:Aa) (hv:RV p m ts c) (hm:m≤1000000):CtQ AC 99 [Z9 Z8 n,.slice p m cap] [c] (.bool (dec (Ij n ts))):=by
 have hl:=hv.1;have ah:∀i t,ts[i]? =some t→¬Fp n t→dec (Ij n ts)=false:=fun i t hi ht=>Jf fun h=>ht (h.1 t (A0 hi));refine cG func99 fun _=>?_;repeat(refine sv ?_;intros)
 refine G.loop (X:=Nat) (fun i=>i≤m∧(∀j t,j<i→ts[j]? =some t→Fp n t)∧∀j k t u,j<k→k<i→ts[j]? =some t→ts[k]? =some u→t.c0≠u.c0)
  (fun i=>[(5,Z9 Z8 i),(1,.slice p m cap),(0,Z9 Z8 n)]) (fun _=>[c]) (fun i=>m-i) 0 ⟨AT _,fun j t h=>absurd h (ED j),fun j k t u _ h=>absurd h (ED k)⟩ (body:=?_)
 rintro i ⟨hi,ai,aj⟩;by_cases an:i<m
 ·obtain⟨b,off,cs,T,fz,rfl,rfl,_,ab⟩:=(RV.rw hv).pos Ds oM;have hit:ts[i]? =some ts[i]:=AG oM;have q0:=ab i 0 _ _ hit rfl;have q1:=ab i 1 _ _ hit rfl;have q2:=ab i 2 _ _ hit rfl;rw[B6] at q0;have ac:=ah i _ hit;generalize ht:ts[i]=t at*;by_cases g0:t.c0<0
  ·rw[ac (by unfold Fp;omega)];repeat(refine sv ?_;intros)
   (refine dP [[(b,Al cs T fz)]] ?_;exact⟨rfl,rfl⟩)
  by_cases g1:t.c1<0
  ·rw[ac (by unfold Fp;omega)];repeat(refine sv ?_;intros)
   (refine dP [[(b,Al cs T fz)]] ?_;exact⟨rfl,rfl⟩)
  by_cases g2:t.c2<0
  ·rw[ac (by unfold Fp;omega)];repeat(refine sv ?_;intros)
   (refine dP [[(b,Al cs T fz)]] ?_;exact⟨rfl,rfl⟩)
  by_cases g3:(n:Int)≤t.c1
  ·rw[ac (by unfold Fp;omega)];repeat(refine sv ?_;intros)
   (refine dP [[(b,Al cs T fz)]] ?_;exact⟨rfl,rfl⟩)
  by_cases g4:(n:Int)≤t.c2
  ·rw[ac (by unfold Fp;omega)];repeat(refine sv ?_;intros)
   (refine dP [[(b,Al cs T fz)]] ?_;exact⟨rfl,rfl⟩)
  repeat(refine sv ?_;intros)
  refine G.loop (X:=Nat) (fun k=>k≤i∧∀j u,j<k→ts[j]? =some u→u.c0≠t.c0)
   (fun k=>[(6,Z9 Z8 k),(5,Z9 Z8 i),(1,.slice (some ⟨b,off,none⟩) m cap),(0,Z9 Z8 n)]) (fun _=>[[(b,Al cs T fz)]]) (fun k=>i-k) 0 ⟨AT _,fun j u h=>absurd h (ED j)⟩ (body:=?_)
  rintro k ⟨hk,ak⟩;by_cases ag:k<i
  ·have al:ts[k]? =some ts[k]:=AG oM;have r0:=ab k 0 _ _ al rfl;rw[B6] at r0;generalize hu:ts[k]=u at*;by_cases he:u.c0=t.c0
   ·have hb:dec (Ij n ts)=false:=Jf fun h=>by have:=BB.1 h.2 k i oM oM ag;rw[hu,ht] at this;exact this he
    rw[hb];repeat(refine sv ?_;intros)
    (refine dP [[(b,Al cs T fz)]] ?_;exact⟨rfl,rfl⟩)
   ·repeat(refine sv ?_;intros)
    refine Dn.round (k+1) ⟨ag,fun j u' hj aa=>?_⟩ oM;by_cases ad:j=k
    ·subst ad;rw[al] at aa;simp only[BG] at aa;subst aa;exact he
    ·exact ak j u' oM aa
  ·obtain rfl:k=i:=by omega
   repeat(refine sv ?_;intros)
   refine Dn.round (k+1) ⟨an,fun j u hj aa=>?_,fun j l u v am aq aa ae=>?_⟩ oM
   ·by_cases ad:j=k
    ·subst ad;rw[hit] at aa;simp only[BG] at aa;subst aa;exact⟨oM,oM,oM,oM,oM⟩
    ·exact ai j u oM aa
   ·by_cases ao:l=k
    ·subst ao;rw[hit] at ae;simp only[BG] at ae;subst ae;exact ak j u am aa
    ·exact aj j l u v am oM aa ae
 ·obtain rfl:i=m:=by omega
  have hb:dec (Ij n ts)=true:=Fj ⟨fun t ht=>by
   obtain⟨j,hj,rfl⟩:=DC ht;exact ai j _ oM (AG hj),BB.2 fun j k hj hk ad=>aj j k _ _ ad oM (AG hj) (AG hk)⟩
  rw[hb];repeat(refine sv ?_;intros)
  (refine dP [c] ?_;exact⟨rfl,rfl⟩)
theorem Un {E sz:Nat} {p:Option Addr} {m cap:Nat} {xs:List Value} {c:Aa} (h:Vec E sz p m cap xs c) (hm:0<m):∃b rest,p=some ⟨b,0,none⟩∧c=[(b,row (xs++rest) E)]∧cap*sz≤xs.length+rest.length∧m≤cap∧cap≤maxLen:=by
 rcases h.2 with⟨_,e,_⟩|hh
 ·omega
 ·exact hh
theorem t_cut (A B:List T5) (t:T5) (r:List Value) {k:Nat} (hk:A.length=k):((flat (A++t::B)++r).drop (k*5)).take 5=[Z9 Z8 t.c0,Z9 Z8 t.c1,Z9 Z8 t.c2,Z9 Z8 t.c3,Z9 Z8 t.c4]:=by rw[Nd];exact aX (k:=5) Ds (l:=A++t::B) (i:=k) (a:=t) (by subst hk;simp) r
theorem t_set (A B:List T5) (t u:T5) (r:List Value) {k:Nat} (hk:A.length=k):Bs (flat (A++t::B)++r) (k*5) [Z9 Z8 u.c0,Z9 Z8 u.c1,Z9 Z8 u.c2,Z9 Z8 u.c3,Z9 Z8 u.c4]=flat (A++u::B)++r:=by
 rw[Nd,Nd];have h:=aZ (k:=5) Ds (A++t::B) k u r (by subst hk;simp);have h2:(A++t::B).set k u=A++u::B:=by subst hk;simp
 rw[h2] at h;exact h
theorem Sv (a:List T5):(flat a).length=a.length*5:=by rw[Nd,Kt Ds]
def Cw (t:T5):IE:=(t.c1,t.c2)
def Fq (l:List T5):List Value:=(l.map Cw).flatMap ecl
def Gd (l:List T5):List Value:=Au (l.map (·.c0))
theorem vZ (a b:List T5):Fq (a++b)=Fq a++Fq b:=by simp[Fq]
theorem wA (a b:List T5):Gd (a++b)=Gd a++Gd b:=by simp[Gd,Au]
theorem Uo (a:List T5):(Fq a).length=a.length*2:=by unfold Fq;rw[Kt Iw,AQ]
theorem Uq (a:List T5):(Gd a).length=a.length:=by simp[Gd,Au]
theorem bE (A B:List T5) (t:T5) (r:List Value) {k:Nat} (hk:A.length=k):((Fq (A++t::B)++r).drop (k*2)).take 2=[Z9 Z8 t.c1,Z9 Z8 t.c2]:=by have h:=aX (k:=2) Iw (l:=(A++t::B).map Cw) (i:=k) (a:=Cw t) (by subst hk;simp) r;exact h
theorem e_set (A B:List T5) (t u:T5) (r:List Value) {k:Nat} (hk:A.length=k):Bs (Fq (A++t::B)++r) (k*2) [Z9 Z8 u.c1,Z9 Z8 u.c2]=Fq (A++u::B)++r:=by
 have h:=aZ (k:=2) Iw ((A++t::B).map Cw) k (Cw u) r (by subst hk;simp);rw[←List.map_set] at h;have h2:(A++t::B).set k u=A++u::B:=by subst hk;simp
 rw[h2] at h;exact h
theorem bF (A B:List T5) (t:T5) (r:List Value) {k:Nat} (hk:A.length=k):(Gd (A++t::B)++r)[k]? =some (Z9 Z8 t.c0):=by subst hk;simp[Gd,Au,List.getElem?_append]
theorem n_set (A B:List T5) (t u:T5) (r:List Value) {k:Nat} (hk:A.length=k):(Gd (A++t::B)++r).set k (Z9 Z8 u.c0)=Gd (A++u::B)++r:=by subst hk;simp[Gd,Au,List.set_append]
def Sn (l:List T5):Prop:=l.Pairwise fun a b=>a.c0≤b.c0
structure GrX where
 i:Nat
 sl:List T5
 pe:Option Addr
 ce:Nat
 he:Aa
 pn:Option Addr
 cn:Nat
 hn:Aa
structure GrY where
 kz:Int
 A:List T5
 B:List T5
theorem wB (n:Nat) (p:Option Addr) (m cap:Nat) (ts:List T5) (c:Aa) (hv:RV p m ts c) (hm:m≤1000000):Ct AC 100 [Z9 Z8 n,.slice p m cap] [c] fun v H'=>∃sl pe ce he pn cn hn,v= .tuple #[gv n pe m ce,.slice pn m cn]∧H'=[c,he,hn]∧Vec 53 2 pe m ce (Fq sl) he∧Vec 2 1 pn m cn (Gd sl) hn∧sl.Perm ts∧Sn sl:=by
 have hl:=hv.1;unfold gv;refine cG func100 fun _=>?_;repeat(first|(refine sv ?_;intros)|refine gD ?_)
 rename_i b4 b6;refine G.loop (X:=GrX) (fun x=>x.i≤m∧x.sl.Perm (ts.take x.i)∧Sn x.sl∧Vec 53 2 x.pe x.i x.ce (Fq x.sl) x.he∧Vec 2 1 x.pn x.i x.cn (Gd x.sl) x.hn)
  (fun x=>[(8,Z9 Z8 x.i),(7,.slice x.pn x.i x.cn),(6,pv b6),(4,pv b4),(1,.slice p m cap)])
  (fun x=>[[(b6,row [Z9 Z8 n,.slice x.pe x.i x.ce] 24)],[(b4,row [Z9 Z8 0,.slice none 0 0] 24)],c,x.he,x.hn]) (fun x=>m-x.i) ⟨0,[],none,0,[],none,0,[]⟩
  ⟨AT _,by simp,DJ,Vec.nil _ _,Vec.nil _ _⟩ oA7 oA3 ?_
 rintro⟨i,sl,pe,ce,he,pn,cn,hn⟩ ⟨hi,hp,hs,aj,ak⟩;dsimp only at hi hp hs aj ak⊢;by_cases an:i<m
 ·obtain⟨b,off,cs,T,fz,rfl,rfl,_,ac⟩:=(RV.rw hv).pos Ds oM;have hit:ts[i]? =some ts[i]:=AG oM;have q0:=ac i 0 _ _ hit rfl;have q1:=ac i 1 _ _ hit rfl;have q2:=ac i 2 _ _ hit rfl;rw[B6] at q0;generalize ht:ts[i]=t at*;have a7:i+1≤maxLen:=by simp only[maxLen];omega
  have al:sl.length=i:=by have:=hp.length_eq;rw[BQ] at this;omega
  repeat(first|(refine sv ?_;intros)|refine gD ?_)
  rename_i a8 aw ad ax ag a9 ay ae az ah;have ao:Vec 53 2 aw (i+1) ad (Fq (sl++[t])) ax:=by rw[vZ];exact ag
  have aq:Vec 2 1 ay (i+1) ae (Gd (sl++[t])) az:=by rw[wA];exact ah
  obtain⟨eb,re,rfl,rfl,a0,a1,a2⟩:=Un ao (Nat.succ_pos _);obtain⟨nb,rn,rfl,rfl,a3,a4,au⟩:=Un aq (Nat.succ_pos _);clear aj ak ag ah;rw[Uo,AH,CQ,al] at a0;rw[Uq,AH,CQ,al] at a3;refine G.loop (X:=GrY) (fun x=>x.A++x.B=sl∧x.kz=(x.A.length:Int)∧∀u∈x.B,t.c0<u.c0)
   (fun x=>[(9,Z9 Z8 x.kz),(8,Z9 Z8 i),(7,.slice (some ⟨nb,0,none⟩) (i+1) ae),(6,pv b6),(4,pv b4),(1,.slice (some ⟨b,off,none⟩) m cap)])
   (fun x=>[[(b6,row [Z9 Z8 n,.slice (some ⟨eb,0,none⟩) (i+1) ad] 24)],[(b4,row [Z9 Z8 0,.slice none 0 0] 24)],[(b,Al cs T fz)],[(eb,row (Fq (x.A++t::x.B)++re) 53)],[(nb,row (Gd (x.A++t::x.B)++rn) 2)]]) (fun x=>x.A.length) ⟨(i:Int),sl,[]⟩ ⟨by simp,oD,by simp⟩ (body:=?_)
  rintro⟨kz,A,B⟩ ⟨ab,am,hB⟩;dsimp only at ab am hB⊢;have av:A.length+B.length=i:=by rw[←al,←ab,AH]
  have ai:(∀u∈A,u.c0≤t.c0)→(A++t::B).Perm (ts.take (i+1))∧Sn (A++t::B)∧Vec 53 2 (some ⟨eb,0,none⟩) (i+1) ad (Fq (A++t::B)) [(eb,row (Fq (A++t::B)++re) 53)]∧
    Vec 2 1 (some ⟨nb,0,none⟩) (i+1) ae (Gd (A++t::B)) [(nb,row (Gd (A++t::B)++rn) 2)]:=by
   intro hA;refine⟨?_,?_,Vec.mk' rfl (by rw[Uo];simp;omega) (by rw[AH,Uo];simp;omega) a1 a2,Vec.mk' rfl (by rw[Uq];simp;omega) (by rw[AH,Uq];simp;omega) a4 au⟩
   ·rw[BP,hit];refine(List.perm_middle.trans ?_);rw[ab];exact(hp.cons t).trans (List.perm_append_comm (l₁:=[t]))
   ·unfold Sn at hs⊢;rw[←ab,CB] at hs;rw[CB,BI];exact⟨hs.1,⟨fun u hu=>Int.le_of_lt (hB u hu),hs.2.1⟩,fun x hx y hy=>by
     rcases AN.1 hy with rfl|hy
     ·exact hA x hx
     ·exact hs.2.2 x hx y hy⟩
  rcases List.eq_nil_or_concat A with rfl|⟨A',x,rfl⟩
  ·obtain⟨e1,e2,e3,e4⟩:=ai oA19;have bc:kz=0:=by simpa using am
   repeat(first|(refine sv ?_;intros)|refine gD ?_)
   refine Dn.round ⟨i+1,[]++t::B,_,ad,_,_,ae,_⟩ ⟨an,e1,e2,e3,e4⟩ oD
  ·have be:kz=((A'.length+1:Nat):Int):=by simpa using am
   have ek:kz.toNat=A'.length+1:=oM;have bf:(kz-1).toNat=A'.length:=oM;have bg:A'.length+1+B.length=i:=by simpa using av
   have aa:∀u v:T5,(A'++[u])++v::B=A'++u::v::B:=fun u v=>by simp
   rw[List.concat_eq_append] at*;rw[aa];have c1:=bE (A'++[x]) B t re (k:=A'.length+1) oA19;have c2:=bE A' (t::B) x re rfl;have s1:=e_set (A'++[x]) B t x re (k:=A'.length+1) oA19;have s2:=e_set A' (x::B) x t re rfl;have d1:=bF (A'++[x]) B t rn (k:=A'.length+1) oA19;have d2:=bF A' (t::B) x rn rfl;have u1:=n_set (A'++[x]) B t x rn (k:=A'.length+1) oA19;have u2:=n_set A' (x::B) x t rn rfl;simp only[aa] at c1 s1 d1 u1;have l1:(A'.length+1)*2+2≤(Fq (A'++x::t::B)++re).length:=by rw[AH,Uo];simp;omega
   have l2:(A'.length+1)*2+2≤(Fq (A'++x::x::B)++re).length:=by rw[AH,Uo];simp;omega
   have l3:A'.length+1<(Gd (A'++x::t::B)++rn).length:=by rw[AH,Uq];simp;omega
   have l4:A'.length+1<(Gd (A'++x::x::B)++rn).length:=by rw[AH,Uq];simp;omega
   by_cases a5:t.c0<x.c0
   ·have a6:∀r:List Value,Fq (A'++t::x::B)++re=r→True:=fun _ _=>trivial;generalize bh:Fq (A'++x::t::B)++re=r0 at*;generalize bi:Fq (A'++x::x::B)++re=r1 at*;generalize bk:Gd (A'++x::t::B)++rn=m0 at*;generalize bp:Gd (A'++x::x::B)++rn=m1 at*;repeat(first|(refine sv ?_;intros)|refine gD ?_)
    refine Dn.round ⟨kz-1,A',x::B⟩ ⟨by rw[←ab];simp,oD,fun u hu=>?_⟩ oA19;rcases AN.1 hu with rfl|hu
    ·exact a5
    ·exact hB u hu
   ·obtain⟨e1,e2,e3,e4⟩:=ai (fun u hu=>by
     unfold Sn at hs;rw[←ab,CB,CB] at hs;rcases AR.1 hu with hu|hu
     ·have:=hs.1.2.2 u hu x oA19;omega
     ·simp only[AX] at hu;subst hu;omega)
    simp only[aa] at e1 e2 e3 e4;repeat(first|(refine sv ?_;intros)|refine gD ?_)
    refine Dn.round ⟨i+1,A'++x::t::B,_,ad,_,_,ae,_⟩ ⟨an,e1,e2,e3,e4⟩ oD
 ·obtain rfl:i=m:=by omega
  rw[A5 oM] at hp;repeat(first|(refine sv ?_;intros)|refine gD ?_)
  (refine dP [c,he,hn] ?_;exact⟨sl,pe,ce,he,pn,cn,hn,rfl,rfl,aj,ak,hp,hs⟩)
def Ik (l:List Bool):List Value:=l.map Value.bool
theorem wC (l:List Bool) (i:Nat) (x:Bool):(Ik l).set i (.bool x)=Ik (l.set i x):=by unfold Ik;rw[List.map_set]
theorem jW:∀N,Bl N [Value.bool false]=Ik (BX N false)
 |0=>rfl
 |N+1=>by have:=jW N;unfold Ik at this⊢;rw[D6,AZ,←this];rfl
structure Xc (g:Nat→Ed) (i N:Nat) (l:List Int):Prop where
 len:l.length=N
 nat:∀v,v<N→∃x:Nat,l[v]? =some (x:Int)
 eq:∀a b,a<N→b<N→(l[a]? =l[b]?↔Cn g (fun j=>j<i) a b)
def Ez (la lb:Int) (l:List Int):List Int:=l.map fun y=>if y=lb then la else y
theorem Xc.step {g:Nat→Ed} {i N:Nat} {l:List Int} (h:Xc g i N l) {la lb:Int} (hu:(g i).1<N) (hv:(g i).2<N) (ha:l[(g i).1]? =some la) (hb:l[(g i).2]? =some lb):Xc g (i+1) N (Ez la lb l):=by
 refine⟨by unfold Ez;rw[AQ];exact h.len,fun v ad=>?_,fun a b aa ab=>?_⟩
 ·obtain⟨x,hx⟩:=h.nat v ad;obtain⟨y,hy⟩:=h.nat _ hu;rw[ha] at hy;simp only[BG] at hy;unfold Ez;rw[BH,hx];by_cases ac:(x:Int)=lb
  ·exact⟨y,by simp[ac,hy]⟩
  ·exact⟨x,by simp[ac]⟩
 ·have hc:Cn g (fun j=>j<i+1) a b↔Cn g (fun j=>j<i) a b∨(Cn g (fun j=>j<i) a (g i).1∧Cn g (fun j=>j<i) (g i).2 b)∨(Cn g (fun j=>j<i) a (g i).2∧Cn g (fun j=>j<i) (g i).1 b):=by
   constructor
   ·intro hc;exact Cn.add (hc.mono fun j hj=>by omega)
   ·have hm:∀{x y},Cn g (fun j=>j<i) x y→Cn g (fun j=>j<i+1) x y:=fun hc=>hc.mono fun j hj=>Nat.lt_succ_of_lt hj;have he:Cn g (fun j=>j<i+1) (g i).1 (g i).2:=Cn.edge (Nat.lt_succ_self i);rintro(h1|⟨h1,h2⟩|⟨h1,h2⟩)
    ·exact hm h1
    ·exact((hm h1).trans he).trans (hm h2)
    ·exact((hm h1).trans he.symm).trans (hm h2)
  rw[hc,←h.eq a b aa ab,←h.eq a _ aa hu,←h.eq _ b hv ab,←h.eq a _ aa hv,←h.eq _ b hu ab,ha,hb];obtain⟨x,hx⟩:=h.nat a aa;obtain⟨y,hy⟩:=h.nat b ab;unfold Ez;rw[BH,BH,hx,hy];simp only[Option.map_some,BG];by_cases h1:(x:Int)=lb<;>by_cases h2:(y:Int)=lb<;>simp only[h1,h2,if_true,if_false]<;>constructor<;>intro h3<;>first|omega|(simp[h1,h2] at h3⊢;omega)|(simp_all)
theorem wD (la lb:Int) (l:List Int) (k:Nat) {y:Int} (h:l[k]? =some y):((Ez la lb l).take k++l.drop k).set k (if y=lb then la else y)=(Ez la lb l).take (k+1)++l.drop (k+1):=by
 obtain⟨hk,rfl⟩:=AK.1 h;have hl:((Ez la lb l).take k).length=k:=by unfold Ez;simp;omega
 rw[D9 _ _ oM,hl,DS,BM hk,List.set_cons_zero,BP];unfold Ez;rw[BH,AG hk];simp
def Ur (es:List IE) (fl:List Bool):Prop:=fl.length=es.length∧∀i b,fl[i]? =some b→(b=true↔Kr (gE es) (fun j=>j<es.length) i)
structure FoX where
 i:Nat
 l:List Int
 f:List Bool
theorem wE (N:Nat) (hN:N≤1000000) (p:Option Addr) (m cap:Nat) (es:List IE) (c:Aa) (hv:Rw ecl 2 p m es c) (hm:m≤1000000) (hf:∀e∈es,inE N e):Ct AC 101 [gv N p m cap] [c] fun v H'=>∃bi fl,v= .slice (some ⟨bi,0,none⟩) m m∧H'=[c,[(bi,row (Ik fl) 4)]]∧Ur es fl:=by
 have hl:=hv.1;unfold gv;refine cG func101 fun _=>?_;repeat(refine sv ?_;intros)
 rename_i b1 bi bl;rw[bD,jW];refine G.loop (X:=Nat) (fun i=>i≤N) (fun i=>[(5,Z9 Z8 i),(4,.slice (some ⟨bl,0,none⟩) N N),(3,.slice (some ⟨bi,0,none⟩) m m),(1,pv b1)])
  (fun i=>[[(bl,row (Au (nf N i)) 3)],[(bi,row (Ik (BX m false)) 4)],[(b1,row [Z9 Z8 N,.slice p m cap] 24)],c]) (fun i=>N-i) 0 (AT _) (body:=?_)
 intro i hi;by_cases ab:i<N
 ·have an:(Au (nf N i)).set i (Z9 Z8 i)=Au (nf N (i+1)):=by rw[Lo,jT N i ab]
  have ao:i<(Au (nf N i)).length:=by simp only[Au,AQ,jS N i hi];exact ab
  repeat(refine sv ?_;intros)
  refine Dn.round (i+1) oM oM
 obtain rfl:i=N:=by omega
 rw[jU];clear hi ab;repeat(refine sv ?_;intros)
 refine G.loop (X:=FoX) (fun x=>x.i≤m∧Xc (gE es) x.i i x.l∧x.f.length=m∧∀j b,j<x.i→x.f[j]? =some b→(b=true↔Kr (gE es) (fun j=>j<es.length) j))
  (fun x=>[(6,Z9 Z8 x.i),(4,.slice (some ⟨bl,0,none⟩) i i),(3,.slice (some ⟨bi,0,none⟩) m m),(1,pv b1)]) (fun x=>[[(bl,row (Au (x.l)) 3)],[(bi,row (Ik (x.f)) 4)],[(b1,row [Z9 Z8 i,.slice p m cap] 24)],c]) (fun x=>m-x.i) ⟨0,n0 i,BX m false⟩
  ⟨AT _,⟨Pf i,fun v hv=>⟨v,Su hv⟩,fun a b ha hb=>by
   rw[Su ha,Su hb];constructor
   ·intro h;obtain rfl:a=b:=by simp only[BG] at h;omega
    exact .refl _
   ·intro h;have:a=b:=h.stay (X:=fun y=>a=y) rfl (fun j hj=>absurd hj (ED j));rw[this]⟩,by simp,fun j b h=>absurd h (ED j)⟩ (body:=?_)
 rintro⟨k,l,f⟩ ⟨hk,hL,ah,ai⟩;dsimp only at hk hL ah ai⊢;by_cases ab:k<m;rotate_left
 ·obtain rfl:k=m:=by omega
  repeat(refine sv ?_;intros)
  (refine dP [c,[(bi,row (Ik f) 4)]] ?_;exact⟨bi,f,rfl,rfl,oM,fun j b hj=>ai j b (by rw[←ah];exact(AK.1 hj).1) hj⟩)
 obtain⟨b,off,cs,T,fz,rfl,rfl,a1,ag⟩:=hv.pos Iw oM;have ad:es[k]? =some es[k]:=AG oM;have q0:=ag k 0 _ _ ad rfl;have q1:=ag k 1 _ _ ad rfl;rw[B6] at q0;have av:=hf _ (A0 ad);generalize he:es[k]=e at*;obtain⟨u,v⟩:=e;obtain⟨f1,f2,f3,f4⟩:=av;dsimp only at f1 f2 f3 f4 q0 q1;obtain⟨u,rfl⟩:∃u':Nat,u=(u':Int):=⟨u.toNat,oM⟩
 obtain⟨v,rfl⟩:∃v':Nat,v=(v':Int):=⟨v.toNat,oM⟩
 have ac:gE es k=(u,v):=by unfold gE;rw[ad];simp
 obtain⟨la,x1⟩:=hL.nat u oM;obtain⟨lb,y1⟩:=hL.nat v oM;have a2:=Ln x1;have a3:=Ln y1;have aj:=hL.step (la:=la) (lb:=lb) (by rw[ac];dsimp only;omega) (by rw[ac];dsimp only;omega) (by rw[ac];exact x1) (by rw[ac];exact y1);have aw:dec ((la:Int)≠(lb:Int))=true↔Kr (gE es) (fun j=>j<es.length) k:=by
  have h1:=hL.eq u v oM oM;rw[x1,y1,BG] at h1;rw[Vf];unfold Kr;rw[ac];have h2:Cn (gE es) (fun j=>j<es.length∧j<k) u v↔Cn (gE es) (fun j=>j<k) u v:=Cn.congr fun j=>⟨fun h=>h.2,fun h=>⟨oM,h⟩⟩
  rw[h2,←h1];exact⟨fun h=>⟨oM,h⟩,fun h=>h.2⟩
 have ax:(Ik f).set k (.bool (dec ((la:Int)≠(lb:Int))))=Ik (f.set k (dec ((la:Int)≠(lb:Int)))):=wC _ _ _;have ay:k<(Ik f).length:=by simp only[Ik,AQ];omega
 repeat(refine sv ?_;intros)
 refine G.loop (X:=Nat) (fun j=>j≤i) (fun j=>[(9,Z9 Z8 j),(8,Z9 Z8 lb),(7,Z9 Z8 la),(6,Z9 Z8 k),(4,.slice (some ⟨bl,0,none⟩) i i),(3,.slice (some ⟨bi,0,none⟩) m m),(1,pv b1)])
  (fun j=>[[(bl,row (Au ((Ez la lb l).take j++l.drop j)) 3)],[(bi,row (Ik (f.set k (dec ((la:Int)≠(lb:Int))))) 4)],[(b1,row [Z9 Z8 i,.slice (some ⟨b,off,none⟩) m cap] 24)],[(b,Al cs T fz)]]) (fun j=>i-j) 0 (AT _) (body:=?_)
 intro j hj;by_cases aq:j<i
 ·obtain⟨y,hy⟩:=hL.nat j aq;have az:(Au ((Ez la lb l).take j++l.drop j))[j]? =some (Z9 Z8 y):=by
   refine Ln ?_;have ak:((Ez la lb l).take j).length=j:=by unfold Ez;simp[hL.len];omega
   rw[BE oM,ak,DS,BU];exact hy
  have ae:=wD la lb l j hy;by_cases au:(y:Int)=lb
  ·have an:(Au ((Ez la lb l).take j++l.drop j)).set j (Z9 Z8 la)=Au ((Ez la lb l).take (j+1)++l.drop (j+1)):=by rw[Lo];rw[if_pos au] at ae;rw[ae]
   have ao:j<(Au ((Ez la lb l).take j++l.drop j)).length:=(AK.1 az).1;repeat(refine sv ?_;intros)
   refine Dn.round (j+1) oM oM
  ·have al:(Ez la lb l).take j++l.drop j=(Ez la lb l).take (j+1)++l.drop (j+1):=by
    rw[if_neg au] at ae;rw[←ae];refine(bC ?_).symm;have ak:((Ez la lb l).take j).length=j:=by unfold Ez;simp[hL.len];omega
    rw[BE oM,ak,DS,BU];exact hy
   repeat(refine sv ?_;intros)
   rw[al];refine Dn.round (j+1) oM oM
 ·obtain rfl:j=i:=by omega
  have am:(Ez la lb l).take j++l.drop j=Ez la lb l:=by rw[List.drop_eq_nil_of_le (by rw[hL.len];exact AI _),AP,A5 (by unfold Ez;rw[AQ,hL.len];exact AI _)]
  rw[am];repeat(refine sv ?_;intros)
  refine Dn.round ⟨k+1,Ez la lb l,f.set k (dec ((la:Int)≠(lb:Int)))⟩ ⟨ab,aj,by rw[DE];exact ah,fun q bq hq aa=>?_⟩ oD;dsimp only at hq aa;by_cases a0:q=k
  ·subst a0;rw[DK oM] at aa;simp only[BG] at aa;subst aa;exact aw
  ·rw[CW oM] at aa;exact ai q bq oM aa
def Bb (l:List Int):List T5:=(BA l.length).map fun (v:Nat)=>⟨(v:Int),l.getD v 0,0,0,0⟩
def Ba (sl:List T5) (fl:List Bool):List T5:=(sl.zip fl).filterMap fun x=>if x.2 then some ⟨x.1.c0,x.1.c1,x.1.c2,0,0⟩ else none
def Ny (N:Nat) (ts a b:List T5):Prop:=∃sl fl lab,sl.Perm ts∧Sn sl∧Ee (gE (sl.map Cw)) (fun i=>i<sl.length) N (-1) lab∧Ur (sl.map Cw) fl∧a=Bb lab∧b=Ba sl fl
theorem wF {l:List Int} {v:Nat} {x:Int} (h:l[v]? =some x):(Bb l).take (v+1)=(Bb l).take v++[⟨(v:Int),x,0,0,0⟩]:=by obtain⟨hv,rfl⟩:=AK.1 h;unfold Bb;rw[BP,BH,List.getElem?_range hv];simp[hv]
theorem wG {sl:List T5} {fl:List Bool} {i:Nat} {t:T5} {b:Bool} (h1:sl[i]? =some t) (h2:fl[i]? =some b):Ba (sl.take (i+1)) (fl.take (i+1))=Ba (sl.take i) (fl.take i)++(if b then[⟨t.c0,t.c1,t.c2,0,0⟩] else[]):=by
 obtain⟨ha,rfl⟩:=AK.1 h1;obtain⟨hb,rfl⟩:=AK.1 h2;unfold Ba;rw[BP,BP,AG ha,AG hb,List.zip_append oA16,List.filterMap_append];congr 1;simp only[Option.toList_some,List.zip_cons_cons,List.zip_nil_left,List.filterMap_cons,List.filterMap_nil];cases fl[i]<;>rfl
theorem flat_append (a b:List T5):flat (a++b)=flat a++flat b:=by rw[Nd,Nd,Nd,B9]
structure CoX where
 i:Nat
 p:Option Addr
 k:Nat
 cap:Nat
 ch:Aa
theorem wH (N:Nat) (hN:N≤1000000) (p:Option Addr) (m cap:Nat) (ts:List T5) (c:Aa) (hv:RV p m ts c) (hm:m≤1000000) (ho:Ij N ts):Ct AC 43 [Z9 Z8 N,.slice p m cap] [c] fun v H'=>∃pa na ka ca pb nb kb cb a b,v= .tuple #[.slice pa na ka,.slice pb nb kb,.bool true]∧H'=[c,ca,cb]∧RV pa na a ca∧RV pb nb b cb∧nb≤m∧Ny N ts a b:=by
 have hE:=vY N oM p m cap ts c hv hm;rw[Fj ho] at hE;have hG:=wB N p m cap ts c hv hm;refine cG func43 fun _=>?_;repeat(refine sA ?_;intros)
 refine cL hG ?_;rintro _ _ ⟨sl,pe,ce,he,pn,cn,hn,rfl,rfl,ak,aw,hp,hs⟩;try dsimp only[AA,AB]
 have a8:sl.length=m:=hp.length_eq.trans hv.1;have hR:Rw ecl 2 pe m (sl.map Cw) he:=Rw.ofVec Iw ak oM;have ag:∀e∈sl.map Cw,inE N e:=by intro e he;obtain⟨t,ht,rfl⟩:=AO.1 he;obtain⟨_,h1,h2,h3,h4⟩:=ho.1 t (hp.mem_iff.1 ht);exact⟨h1,h3,h2,h4⟩
 have al:=jV N hN pe m ce (sl.map Cw) he hR hm ag none 0 0 [] [] ⟨rfl,.inl ⟨rfl,rfl⟩⟩ oM (-1);have am:=wE N hN pe m ce (sl.map Cw) he hR hm ag;unfold gv at al am⊢;repeat(refine sA ?_;intros)
 refine cL al ?_;rintro _ _ ⟨bl,lab,rfl,rfl,hL⟩;repeat(refine sA ?_;intros)
 rename_i b7;have ax:=hL.len;have ay:Ee (gE (sl.map Cw)) (fun i=>i<sl.length) N (-1) lab:=by
  have ae:∀i,Ey (sl.map Cw) [] (-1) i↔i<sl.length:=fun i=>by
   constructor
   ·rintro⟨e,h1,_⟩;have:=(AK.1 h1).1;rwa[AQ] at this
   ·intro hi;have h1:(sl.map Cw)[i]? =some (Cw sl[i]):=by simp[hi]
    have h2:=ag _ (A0 h1);unfold inE at h2;exact⟨_,h1,oM,oM,by simp⟩
  refine⟨hL.len,fun v hv az=>?_,hL.out⟩;obtain⟨x,a1,a2,a3,a4⟩:=hL.at_ v hv az;exact⟨x,a1,(Cn.congr ae).1 a2,a3,fun u hu=>a4 u ((Cn.congr ae).2 hu)⟩
 have an:∀x:Nat,x≤1000000→x+1≤maxLen:=fun x hx=>by simp only[maxLen];omega
 refine G.loop (X:=CoX) (fun x=>x.i≤N∧Vec 33 5 x.p x.i x.cap (flat ((Bb lab).take x.i)) x.ch)
  (fun x=>[(12,Z9 Z8 x.i),(11,.slice (some ⟨bl,0,none⟩) N N),(10,.slice none 0 0),(9,.slice x.p x.i x.cap),(8,.slice pn m cn),(7,pv b7),(0,Z9 Z8 N)])
  (fun x=>[[(b7,row [Z9 Z8 N,.slice pe m ce] 24)],[(bl,row (Au lab) 3)],c,he,hn,x.ch]) (fun x=>N-x.i) ⟨0,none,0,0,[]⟩ ⟨AT _,Vec.nil _ _⟩ oA7 oA3 ?_
 rintro⟨i,p1,_,c1,ch⟩ ⟨hi,hV⟩;dsimp only at hi hV⊢;by_cases ab:i<N
 ·obtain⟨x,hx⟩:∃x,lab[i]? =some x:=⟨lab[i]' oM,AG oM⟩
  have a9:=Ln hx;have a0:=an i oM;repeat(refine sA ?_;intros)
  rename_i p' ac ah ai;refine Dn.round ⟨i+1,p',0,ac,ah⟩ ⟨ab,by rw[wF hx,flat_append];exact ai⟩ oD
 obtain rfl:i=N:=by omega
 have bc:(Bb lab).length=i:=by simp[Bb,ax]
 rw[A5 oM] at hV;clear ab;repeat(refine sA ?_;intros)
 refine cL am ?_;rintro _ _ ⟨bi,fl,rfl,rfl,hF⟩;try dsimp only[AA,AB]
 have a5:=hF.1;rw[AQ] at a5;repeat(refine sA ?_;intros)
 refine G.loop (X:=CoX) (fun x=>x.i≤m∧x.k=(Ba (sl.take x.i) (fl.take x.i)).length∧x.k≤x.i∧Vec 33 5 x.p x.k x.cap (flat (Ba (sl.take x.i) (fl.take x.i))) x.ch)
  (fun x=>[(14,Z9 Z8 x.i),(13,.slice (some ⟨bi,0,none⟩) m m),(10,.slice x.p x.k x.cap),(9,.slice p1 i c1),(8,.slice pn m cn),(7,pv b7)])
  (fun x=>[[(b7,row [Z9 Z8 i,.slice pe m ce] 24)],[(bi,row (Ik fl) 4)],c,he,hn,ch,x.ch]) (fun x=>m-x.i) ⟨0,none,0,0,[]⟩ ⟨AT _,by simp[Ba],AI _,by simpa[Ba,flat] using Vec.nil 33 5⟩ oA7 oA3 ?_
 rintro⟨j,p2,k,c2,aj⟩ ⟨hj,hk,ao,ad⟩;dsimp only at hj hk ao ad⊢;by_cases ab:j<m
 ·have a6:sl[j]? =some sl[j]:=AG oM;have aq:fl[j]? =some fl[j]:=AG oM;have aa:=wG a6 aq;have be:(Ik fl)[j]? =some (.bool fl[j]):=by unfold Ik;rw[BH,aq];rfl
  obtain⟨eb,re,rfl,rfl,bf,bg,bh⟩:=Un ak oM;obtain⟨nb,rn,rfl,rfl,bk,bp,a7⟩:=Un aw oM;obtain⟨l1,l2,au,av⟩:∃l1 l2,sl=l1++sl[j]::l2∧l1.length=j:=⟨sl.take j,sl.drop (j+1),by rw[←BM oM,BT],by simp;omega⟩
  have g0:=bF l1 l2 sl[j] rn av;have g1:=bE l1 l2 sl[j] re av;rw[←au] at g0 g1;generalize sl[j]' oM=t at*;generalize fl[j]' oM=o at*;have ga:(Fq sl++re)[j*2]? =some (Z9 Z8 t.c1):=by have:=congrArg (fun l=>l[0]?) g1;simpa[BY,BU] using this
  have gb:(Fq sl++re)[j*2+1]? =some (Z9 Z8 t.c2):=by have:=congrArg (fun l=>l[1]?) g1;simpa[BY,BU] using this
  have a0:=an k oM;cases o with
  |true=>
   simp only[if_true] at aa;repeat(refine sA ?_;intros)
   rename_i p' ac ah ai;refine Dn.round ⟨j+1,p',k+1,ac,ah⟩ ⟨ab,by rw[aa,AH,←hk];rfl,oD,by rw[aa,flat_append];exact ai⟩ oD
  |false=>
   simp only[CI,if_false,AP] at aa;repeat(refine sA ?_;intros)
   refine Dn.round ⟨j+1,p2,k,c2,aj⟩ ⟨ab,by rw[aa];exact hk,oD,by rw[aa];exact ad⟩ oD
 ·obtain rfl:j=m:=by omega
  rw[A5 oM,A5 oM] at ad;repeat(refine sA ?_;intros)
  (refine dP [c,ch,aj] ?_;exact⟨p1,i,c1,ch,p2,k,c2,aj,_,_,rfl,rfl,RV.vec hV,RV.vec ad,ao,sl,fl,lab,hp,hs,ay,hF,rfl,rfl⟩)
end Go.Proofs.YtaofijjjheiknaaGreat
