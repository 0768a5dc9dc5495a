/-
  Parts of the proof, put together: Rank2, Rank3, Rank4, It, RankP, RankP2. No condition.
-/
import Derived.Test.YtammjnjpheobaaaGreatK25
set_option linter.unusedVariables false
set_option linter.unusedSimpArgs false
set_option linter.unnecessarySimpa false
set_option maxHeartbeats 4000000
namespace Go.Proofs.YtammjnjpheobaaaGreat
open Go.SL Go.Spc Go.Tup Go.Srt
theorem or_nil {a b:Option Nat} (h:a.or b=none):a=none∧b=none:=by
 cases a with
 |none=>exact⟨rfl,h⟩
 |some x=>cases h
theorem vec4 (b:Nat) (f1 f2 f3 f4:Fl):Vec 27 4 (some ⟨b,0,none⟩) [f1,f2,f3,f4].length 4 (fcells [f1,f2,f3,f4]) [(b,row (fl4 f1++(fl4 f2++(fl4 f3++fl4 f4))) 27)]:=
 ⟨rfl,.inr ⟨b,[],rfl,by simp[fcells,fl4],by simp[fcells],by simp,by decide⟩⟩
def riseE (ts:List T5):Option Nat:=(riseM 0).bad (-1) ts
theorem riseM_bad (b:Nat):∀(ts:List T5) (k:Int),(riseM b).bad k ts=(riseM 0).bad k ts
 |[],_=>rfl
 |t::ts,k=>by
  simp only[Maker.bad]
  rw[show(riseM b).err k t=(riseM 0).err k t from rfl,show(riseM b).next k t=(riseM 0).next k t from rfl,riseM_bad b ts]
theorem rise_bad:∀{ts:List T5} {k:Int},(riseM 0).bad k ts=none↔ts.Pairwise (fun a c=>a.c0<c.c0)∧∀t∈ts,k<t.c0
 |[],k=>by simp[Maker.bad]
 |t::ts,k=>by
  simp only[Maker.bad]
  have ih:=rise_bad (ts:=ts) (k:=t.c0)
  by_cases h:t.c0≤k
  ·rw[show(riseM 0).err k t=some 3 from if_pos h]
   simp only[reduceCtorEq,false_iff]
   rintro⟨_,h2⟩
   have:=h2 t List.mem_cons_self
   omega
  ·rw[show(riseM 0).err k t=none from if_neg h,show(riseM 0).next k t=t.c0 from rfl]
   dsimp only
   rw[ih,List.pairwise_cons]
   constructor
   ·rintro⟨h1,h2⟩
    exact⟨⟨h2,h1⟩,fun u hu=>by
     rcases List.mem_cons.1 hu with rfl|hu
     ·omega
     ·have:=h2 u hu;omega⟩
   ·rintro⟨⟨h1,h2⟩,h3⟩
    exact⟨h2,h1⟩
theorem riseE_none {ts:List T5}:riseE ts=none↔ts.Pairwise (fun a c=>a.c0<c.c0)∧∀t∈ts,0≤t.c0:=by
 unfold riseE
 rw[rise_bad]
 exact and_congr Iff.rfl ⟨fun h t ht=>by have:=h t ht;omega,fun h t ht=>by have:=h t ht;omega⟩
theorem riseM_oks (b:Nat):∀(ts:List T5) (k:Int),(riseM b).oks (fun _ _=>True) k ts
 |[],_=>trivial
 |t::ts,k=>⟨trivial,fun _=>riseM_oks b ts _⟩
theorem rising_ct {p:Jp} {B m k a s0:Nat} {e:Int} {er:Option Nat} {Gf:List (Fl×List T5)} {C:Chunk} (hR:Rm p B m k a) (hJ:JobS p B k a s0 e er Gf C) (f:Fl) (ts:List T5) (hs:(f,ts)∈Gf∨In0 p (f,ts)) (h0:f.count≤1000∧f.blocks≤1000) (hst:s0≤10000):
  Ct Tryz.prog 132 [pv p.bj,flv f,.int .i64 0] [C] fun v H'=>∃C' e',v= .tuple #[]∧H'=[C']∧JobS p B k a (s0+1) e' (er.or (riseE ts)) Gf C'∧(e'=0→e=0∧riseE ts=none):=by
 have hflv:flv f= .agg #[.int .i64 (f.first:Int),.int .i64 (f.blocks:Int),.int .i64 (f.width:Int),.int .i64 (f.count:Int)]:=rfl
 have e1:IntKind.wrap .i64 (0-1)= -1:=by decide
 have hO:=fun bl=>SOver hR hJ (riseM bl) (-1) 165 inferInstance [pv bl] _ (rise_see bl) f ts hs h0 (fun _=>riseM_oks bl ts _) hst
 simp only[riseM_C,riseM_bad] at hO
 rw[hflv] at hO⊢
 refine Ct.intro Tryz.func132 rfl Tryz.ntmps132 (nle rfl) fun w0=> ?_;dsimp only[argSlots,Nat.reduceAdd]
 repeat(refine st ?_;intros)
 refine R.callX (hct:=hO _) (h:= ?_)
 rintro _ _ ⟨C',e',k',rfl,rfl,hJ',hE'⟩
 dsimp only[List.cons_append,List.nil_append]
 constructor
 ·(·(first|(intro _ _ h;cases h;done)|(repeat(first|exact qok_nil|(apply qok_cons;(·first|(intro hc;exact absurd hc (nmem rfl))|(intro _;apply CellPr.mk;(·repeat(first|exact Has.here|apply Has.there));(first|exact rfl|assumption))|(intro _;apply CellsPr.mk;(·repeat(first|exact Has.here|apply Has.there));(first|exact rfl|assumption))))))))
 repeat(refine st ?_;intros)
 (refine Dn.postEnd (Hr:=[C']) Tryz.results132 (hR:= ?_);exact⟨C',e',rfl,rfl,hJ',fun h=>⟨(hE' h).1,(hE' h).2.2⟩⟩)
def linksF (l:List T5):List T5:=srt (ltO o1) false (linkM.all () l)
def allF (l:List T5):List T5:=srt (ltO o1) false (l.map fun t=>⟨t.c0,0,0,0,0⟩)
def aheadF (l:List T5):List T5:=(allF l).map (lookF (linksF l) 0 1 1)
def bothF (l:List T5):List T5:=(aheadF l).map (lookF (linksF l) 0 2 2)
def begF (l:List T5):List T5:=(bothF l).map fndO
def cntB (l:List T5):Int:=(fndM 0).st 0 (bothF l)
def errB (l:List T5):Option Nat:=(((linkM.bad () l).or (riseE (linksF l))).or (riseE (allF l))).or (if cntB l=((linksF l).length:Int) then none else some 3)
theorem fndM_all (b:Nat):∀(ts:List T5) (k:Int),(fndM b).all k ts=ts.map fndO
 |[],_=>rfl
 |t::ts,k=>by simp only[Maker.all,fndM_all b ts,List.map_cons];rfl
theorem fndM_st (b b':Nat):∀(ts:List T5) (k:Int),(fndM b).st k ts=(fndM b').st k ts
 |[],_=>rfl
 |t::ts,k=>by simp only[Maker.st];rw[show(fndM b).next k t=(fndM b').next k t from rfl,fndM_st b b' ts]
theorem linkM_len (k:Unit) (t:T5):(linkM.outs k t).length≤1:=by unfold linkM linkO;dsimp only;split<;>simp
theorem linkM_ok:∀{ts:List T5} {k:Unit},(∀t∈ts,okT 3 t)→∀z∈linkM.all k ts,okT 3 z
 |[],_,_,z,hz=>by simp[Maker.all] at hz
 |t::ts,k,h,z,hz=>by
  simp only[Maker.all,List.mem_append] at hz
  rcases hz with hz|hz
  ·have ti:=okT_cols (h t List.mem_cons_self)
   unfold linkM linkO at hz;dsimp only at hz
   split at hz
   ·cases hz
   ·simp only[List.mem_singleton] at hz;subst hz
    exact okT3 ti.2.1 ti.1 ti.2.2.1
  ·exact linkM_ok (fun u hu=>h u (List.mem_cons_of_mem _ hu)) z hz
theorem linksF_ok {l:List T5} (h:∀t∈l,okT 3 t):∀z∈linksF l,okT 3 z:=fun z hz=>linkM_ok h z (srt_sub hz)
theorem allF_ok {l:List T5} (h:∀t∈l,okT 3 t):∀z∈allF l,okT 1 z:=fun z hz=>by
 obtain⟨t,ht,rfl⟩:=List.mem_map.1 (srt_sub hz)
 exact okT1 (okT_cols (h t ht)).1
theorem allF_len (l:List T5):(allF l).length=l.length:=by unfold allF;rw[(perm_srt _).length_eq,List.length_map]
theorem bothF_ok {l:List T5} (h:∀t∈l,okT 3 t):∀z∈bothF l,okT 3 z:=fun z hz=>by
 obtain⟨y,hy,rfl⟩:=List.mem_map.1 hz
 obtain⟨x,hx,rfl⟩:=List.mem_map.1 hy
 exact lookF_ok (linksF_ok h) 0 2 2 (by omega) (lookF_ok (linksF_ok h) 0 1 1 (by omega) (allF_ok h x hx))
theorem bothF_len (l:List T5):(bothF l).length=l.length:=by unfold bothF aheadF;rw[List.length_map,List.length_map,allF_len]
theorem begF_ok {l:List T5} (h:∀t∈l,okT 3 t):∀z∈begF l,okT 3 z:=fun z hz=>by
 obtain⟨y,hy,rfl⟩:=List.mem_map.1 hz
 exact fndO_ok (bothF_ok h y hy)
theorem begF_len (l:List T5):(begF l).length=l.length:=by unfold begF;rw[List.length_map,bothF_len]
structure ECx where
 e:Int
 C:Chunk
theorem begun_ct {p:Jp} {B m k a s0:Nat} {e:Int} {Gf:List (Fl×List T5)} {C:Chunk} (hR:Rm p B m k a) (hJ:JobS p B k a s0 e none Gf C) (lf:Fl) (l:List T5) (hl0:In0 p (lf,l)) (hw:lf.width=3) (hcn:lf.count≤1000) (c:Nat) (hc:lf.count≤2*c) (hcB:c≤B) (hT:sortT c≤m) (hk:Gf.length+5≤k) (hst:s0≤9000):
  Ct Tryz.prog 92 [pv p.bj,flv lf] [C] fun v H'=>∃f C' e',v=flv f∧H'=[C']∧JobS p B k a (s0+9) e' (errB l) ((f,begF l)::Gf) C'∧FB lf.count c 3 l.length e' f∧(e'=0→e=0):=by
 have hflv:∀f:Fl,flv f= .agg #[.int .i64 (f.first:Int),.int .i64 (f.blocks:Int),.int .i64 (f.width:Int),.int .i64 (f.count:Int)]:=fun _=>rfl
 have hfl4:∀f:Fl,fl4 f=[.int .i64 (f.first:Int),.int .i64 (f.blocks:Int),.int .i64 (f.width:Int),.int .i64 (f.count:Int)]:=fun _=>rfl
 have hto1:tv o1= .agg #[.int .i64 1,.int .i64 0,.int .i64 0,.int .i64 0,.int .i64 0]:=rfl
 obtain⟨hll,hlfit,hlb,_,_⟩:=in0file hl0
 dsimp only at hll hlfit hlb
 rw[hw] at hlfit
 have hB:=hR.bs
 have hlbl:lf.blocks≤lf.count:=by rw[hlb];exact nb_le hR.ok.size.1 (by omega) (by omega)
 have hM1:=fun b=>SMake1 hR hJ linkM () 3 lf.count c 1 (by omega) 131 inferInstance [] _ link_mk (fun k t _=>linkM_len k t) (by omega) lf l (.inr hl0) (by omega)
  (fun _=>Maker.oks_of (M:=linkM) (I:=fun _=>True) (Q:=okT 3) (fun _ t _ h=>⟨h,trivial⟩) _ () trivial hlfit) (fun _=>by
   have:=Maker.all_len (M:=linkM) (n:=1) linkM_len l ()
   omega) (.inr ⟨by omega,hc⟩) hcB (by omega) (by omega) b
 simp only[hfl4,show∀k,linkM.C k=[] from fun _=>rfl] at hM1
 rw[hflv]
 refine Ct.intro Tryz.func92 rfl Tryz.ntmps92 (nle rfl) fun w0=> ?_;dsimp only[argSlots,Nat.reduceAdd]
 repeat(refine st ?_;intros)
 rename_i b2 b3 b4 bs1
 repeat(refine st ?_;intros)
 refine R.callX (hct:=hM1 _) (h:= ?_)
 rintro _ _ ⟨f1,C1,e1,k1,rfl,rfl,hJ1,hF1,hE1⟩
 dsimp only[List.cons_append,List.nil_append]
 constructor
 ·(·(first|(intro _ _ h;cases h;done)|(repeat(first|exact qok_nil|(apply qok_cons;(·first|(intro hc;exact absurd hc (nmem rfl))|(intro _;apply CellPr.mk;(·repeat(first|exact Has.here|apply Has.there));(first|exact rfl|assumption))|(intro _;apply CellsPr.mk;(·repeat(first|exact Has.here|apply Has.there));(first|exact rfl|assumption))))))))
 try rw[hflv]
 rw[orNone] at hJ1
 have hS2:=SSort hR hJ1 f1 _ Gf o1 rfl false hF1 .here (by omega) hcB hT (by omega)
 rw[hflv,hto1,show srt (ltO o1) false (linkM.all () l)=linksF l from rfl] at hS2
 repeat(refine st ?_;intros)
 refine R.callX (hct:=hS2) (h:= ?_)
 rintro _ _ ⟨f2,C2,e2,rfl,rfl,hJ2,hF2,hE2⟩
 dsimp only[List.cons_append,List.nil_append]
 constructor
 ·(·(first|(intro _ _ h;cases h;done)|(repeat(first|exact qok_nil|(apply qok_cons;(·first|(intro hc;exact absurd hc (nmem rfl))|(intro _;apply CellPr.mk;(·repeat(first|exact Has.here|apply Has.there));(first|exact rfl|assumption))|(intro _;apply CellsPr.mk;(·repeat(first|exact Has.here|apply Has.there));(first|exact rfl|assumption))))))))
 try rw[hflv]
 have hF2c:=hF2.cnt
 have hF2b:=hF2.blk
 have hr3:=rising_ct hR hJ2 f2 (linksF l) (by first|exact .inr (by assumption)|exact .inl (by repeat(first|exact List.mem_cons_self|apply List.mem_cons_of_mem))) (by omega) (by omega)
 rw[hflv] at hr3
 repeat(refine st ?_;intros)
 rename_i b5
 refine R.callX (hct:=hr3) (h:= ?_)
 rintro _ _ ⟨C3,e3,rfl,rfl,hJ3,hE3⟩
 dsimp only[List.cons_append,List.nil_append]
 constructor
 ·(·(first|(intro _ _ h;cases h;done)|(repeat(first|exact qok_nil|(apply qok_cons;(·first|(intro hc;exact absurd hc (nmem rfl))|(intro _;apply CellPr.mk;(·repeat(first|exact Has.here|apply Has.there));(first|exact rfl|assumption))|(intro _;apply CellsPr.mk;(·repeat(first|exact Has.here|apply Has.there));(first|exact rfl|assumption))))))))
 have hM4:=fun b=>SMap1 hR hJ3 (fun t=>⟨t.c0,0,0,0,0⟩) 1 lf.count c (by omega) 133 inferInstance (okT 3) elem_mk (fun t h=>okT1 (okT_cols h).1) lf l (.inr hl0) (by omega) (fun _=>hlfit) (fun _=>by omega) (.inr ⟨by omega,hc⟩) hcB (by simp only[List.length_cons,List.length_nil];omega) (by omega) b
 simp only[hfl4] at hM4
 repeat(refine st ?_;intros)
 refine R.callX (hct:=hM4 _) (h:= ?_)
 rintro _ _ ⟨f4,C4,e4,rfl,rfl,hJ4,hF4,hE4⟩
 dsimp only[List.cons_append,List.nil_append]
 constructor
 ·(·(first|(intro _ _ h;cases h;done)|(repeat(first|exact qok_nil|(apply qok_cons;(·first|(intro hc;exact absurd hc (nmem rfl))|(intro _;apply CellPr.mk;(·repeat(first|exact Has.here|apply Has.there));(first|exact rfl|assumption))|(intro _;apply CellsPr.mk;(·repeat(first|exact Has.here|apply Has.there));(first|exact rfl|assumption))))))))
 try rw[hflv]
 have hS5:=SSort hR hJ4 f4 _ _ o1 rfl false hF4 .here (by omega) hcB hT (by omega)
 rw[hflv,hto1,show srt (ltO o1) false (l.map fun t=>(⟨t.c0,0,0,0,0⟩:T5))=allF l from rfl] at hS5
 repeat(refine st ?_;intros)
 refine R.callX (hct:=hS5) (h:= ?_)
 rintro _ _ ⟨f5,C5,e5,rfl,rfl,hJ5,hF5,hE5⟩
 dsimp only[List.cons_append,List.nil_append]
 constructor
 ·(·(first|(intro _ _ h;cases h;done)|(repeat(first|exact qok_nil|(apply qok_cons;(·first|(intro hc;exact absurd hc (nmem rfl))|(intro _;apply CellPr.mk;(·repeat(first|exact Has.here|apply Has.there));(first|exact rfl|assumption))|(intro _;apply CellsPr.mk;(·repeat(first|exact Has.here|apply Has.there));(first|exact rfl|assumption))))))))
 try rw[hflv]
 have hF5c:=hF5.cnt
 have hF5b:=hF5.blk
 have hr6:=rising_ct hR hJ5 f5 (allF l) (by first|exact .inr (by assumption)|exact .inl (by repeat(first|exact List.mem_cons_self|apply List.mem_cons_of_mem))) (by omega) (by omega)
 rw[hflv] at hr6
 repeat(refine st ?_;intros)
 rename_i bs4 b6
 refine R.callX (hct:=hr6) (h:= ?_)
 rintro _ _ ⟨C6,e6,rfl,rfl,hJ6,hE6⟩
 dsimp only[List.cons_append,List.nil_append]
 constructor
 ·(·(first|(intro _ _ h;cases h;done)|(repeat(first|exact qok_nil|(apply qok_cons;(·first|(intro hc;exact absurd hc (nmem rfl))|(intro _;apply CellPr.mk;(·repeat(first|exact Has.here|apply Has.there));(first|exact rfl|assumption))|(intro _;apply CellsPr.mk;(·repeat(first|exact Has.here|apply Has.there));(first|exact rfl|assumption))))))))
 have hup:e6=0→e2=0∧e5=0∧e=0∧linkM.bad () l=none∧riseE (linksF l)=none∧riseE (allF l)=none:=fun h=>by
  obtain⟨h5,q6⟩:=hE6 h
  obtain⟨h2,q3⟩:=hE3 (hE4 (hE5 h5))
  obtain⟨h0,_,q1⟩:=hE1 (hE2 h2)
  exact⟨h2,h5,h0,q1,q3,q6⟩
 have hR7:=fun b8 b4 b5=>SLookRun hR hJ6 134 inferInstance f5 f2 (allF l) (linksF l) 0 1 1 2 c (by first|exact .inr (by assumption)|exact .inl (by repeat(first|exact List.mem_cons_self|apply List.mem_cons_of_mem))) (by first|exact .inr (by assumption)|exact .inl (by repeat(first|exact List.mem_cons_self|apply List.mem_cons_of_mem))) (lkAhead p f5 f2 b8 b4 b5) (hF5.mono fun h=>(hE6 h).1) (hF2.mono fun h=>(hup h).1) (by omega) (by omega) (by omega) (by omega) (by omega) (by omega)
  (fun _=>srt_o1 _) (fun h=>(riseE_none.1 (hup h).2.2.2.2.1).1) (.inr ⟨by omega,by omega⟩) hcB (by simp only[List.length_cons,List.length_nil];omega) (by omega)
 simp only[lookH,hfl4] at hR7
 repeat(refine st ?_;intros)
 refine R.callX (hct:=hR7 _ _ _) (h:= ?_)
 rintro _ _ ⟨f7,C7,e7,rfl,rfl,hJ7,hF7,hE7⟩
 dsimp only[List.cons_append,List.nil_append]
 constructor
 ·(·(first|(intro _ _ h;cases h;done)|(repeat(first|exact qok_nil|(apply qok_cons;(·first|(intro hc;exact absurd hc (nmem rfl))|(intro _;apply CellPr.mk;(·repeat(first|exact Has.here|apply Has.there));(first|exact rfl|assumption))|(intro _;apply CellsPr.mk;(·repeat(first|exact Has.here|apply Has.there));(first|exact rfl|assumption))))))))
 try rw[hflv]
 rw[show(allF l).map (lookF (linksF l) 0 1 1)=aheadF l from rfl] at hJ7
 have hF7c:=hF7.cnt
 have hF7b:=hF7.blk
 have hR8:=fun b8 b4 b5=>SLookRun hR hJ7 135 inferInstance f7 f2 (aheadF l) (linksF l) 0 2 2 3 c (by first|exact .inr (by assumption)|exact .inl (by repeat(first|exact List.mem_cons_self|apply List.mem_cons_of_mem))) (by first|exact .inr (by assumption)|exact .inl (by repeat(first|exact List.mem_cons_self|apply List.mem_cons_of_mem))) (lkBoth p f7 f2 b8 b4 b5) hF7 (hF2.mono fun h=>(hup (hE7 h)).1) (by omega) (by omega) (by omega) (by omega) (by omega) (by omega)
  (fun _=>by unfold aheadF;rw[List.pairwise_map];exact srt_o1 _) (fun h=>(riseE_none.1 (hup (hE7 h)).2.2.2.2.1).1) (.inr ⟨by omega,by omega⟩) hcB (by simp only[List.length_cons,List.length_nil];omega) (by omega)
 simp only[lookH,hfl4] at hR8
 repeat(refine st ?_;intros)
 refine R.callX (hct:=hR8 _ _ _) (h:= ?_)
 rintro _ _ ⟨f8,C8,e8,rfl,rfl,hJ8,hF8,hE8⟩
 dsimp only[List.cons_append,List.nil_append]
 constructor
 ·(·(first|(intro _ _ h;cases h;done)|(repeat(first|exact qok_nil|(apply qok_cons;(·first|(intro hc;exact absurd hc (nmem rfl))|(intro _;apply CellPr.mk;(·repeat(first|exact Has.here|apply Has.there));(first|exact rfl|assumption))|(intro _;apply CellsPr.mk;(·repeat(first|exact Has.here|apply Has.there));(first|exact rfl|assumption))))))))
 try rw[hflv]
 rw[show(aheadF l).map (lookF (linksF l) 0 2 2)=bothF l from rfl] at hJ8
 have hF8c:=hF8.cnt
 have hF8b:=hF8.blk
 have hM9:=fun b9 b=>SMake1n hR hJ8 (fndM b9) (fun _ _=>rfl) 0 3 f8.count c 1 (by omega) 136 inferInstance [pv b9] _ (fnd_mk b9) (fun _ _ _=>Nat.le_refl _) (by omega) f8 (bothF l) (by first|exact .inr (by assumption)|exact .inl (by repeat(first|exact List.mem_cons_self|apply List.mem_cons_of_mem))) (by omega)
  (fun _=>Maker.oks_of (M:=fndM b9) (I:=fun _=>True) (Q:=okT 3) (fun _ t _ h=>⟨h,trivial⟩) _ 0 trivial (bothF_ok hlfit)) (fun h=>by
   rw[fndM_all,List.length_map,bothF_len]
   have:=(hF8.ok h).2
   rw[allF_len] at this
   omega) (.inr ⟨by omega,by omega⟩) hcB (by simp only[List.length_cons,List.length_nil];omega) (by omega) b
 simp only[hfl4,fndM_C,fndM_all,fndM_st _ 0] at hM9
 rw[show(bothF l).map fndO=begF l from rfl,show(fndM 0).st 0 (bothF l)=cntB l from rfl] at hM9
 repeat(refine st ?_;intros)
 refine R.callX (hct:=hM9 _ _) (h:= ?_)
 rintro _ _ ⟨f9,C9,e9,k9,rfl,rfl,hJ9,hF9,hE9⟩
 dsimp only[List.cons_append,List.nil_append]
 constructor
 ·(·(first|(intro _ _ h;cases h;done)|(repeat(first|exact qok_nil|(apply qok_cons;(·first|(intro hc;exact absurd hc (nmem rfl))|(intro _;apply CellPr.mk;(·repeat(first|exact Has.here|apply Has.there));(first|exact rfl|assumption))|(intro _;apply CellsPr.mk;(·repeat(first|exact Has.here|apply Has.there));(first|exact rfl|assumption))))))))
 try rw[hflv]
 have h9:e9=0→e6=0∧k9=cntB l∧f2.count=(linksF l).length:=fun h=>by
  obtain⟨h8,hk9⟩:=hE9 h
  have h6:=hE7 (hE8 h8)
  exact⟨h6,hk9,(hF2.ok (hup h6).1).2⟩
 obtain⟨x2,hx2⟩:∃x2:Option Nat,x2=if cntB l=((linksF l).length:Int) then none else some 3:=⟨_,rfl⟩
 have herr:(((linkM.bad () l).or (riseE (linksF l))).or (riseE (allF l))).or x2=errB l:=by rw[hx2];rfl
 repeat(refine stn ?_;intros)
 rename_i b7 b8 b9 bs9 b10
 refine G.cut (D':=[]) (X:=ECx) (fun x=>JobS p B k a (s0+9) x.e (errB l) ((f9,begF l)::(f8,bothF l)::(f7,aheadF l)::(f5,allF l)::(f2,linksF l)::Gf) x.C∧(x.e=0→e9=0)) (fun _=>[(10,pv b10),(8,pv b8),(7,pv b7),(6,pv b6),(5,pv b5),(4,pv b4),(2,pv b2)])
  (fun x=>[x.C,fbox b10 f9,fbox b8 f8,fbox b7 f7,fbox b6 f5,fbox b5 f2,fbox b4 ⟨0,0,0,0⟩,[(b2,row [pv p.bj] 82)]]) ?_ ?_
 ·by_cases hcc:k9=(f2.count:Int)
  ·subst hcc
   repeat(refine st ?_;intros)
   refine Dn.meet ⟨e9,C9⟩ ⟨?_,fun h=>h⟩
   rw[←herr]
   refine hJ9.orE x2 fun h=> ?_
   obtain⟨_,h1,h2⟩:=h9 h
   rw[hx2,if_pos]
   rw[←h1,h2]
  ·have hF10:=SFail hJ9 3 (by decide) (by decide) x2 (fun h=>by
    obtain⟨_,h1,h2⟩:=h9 h
    rw[hx2,if_neg]
    rw[←h1,←h2];exact hcc)
   repeat(refine st ?_;intros)
   refine R.callX (hct:=hF10) (h:= ?_)
   rintro _ _ ⟨e10,C10,rfl,rfl,hJ10,he10⟩
   dsimp only[List.cons_append,List.nil_append]
   constructor
   ·(·(first|(intro _ _ h;cases h;done)|(repeat(first|exact qok_nil|(apply qok_cons;(·first|(intro hc;exact absurd hc (nmem rfl))|(intro _;apply CellPr.mk;(·repeat(first|exact Has.here|apply Has.there));(first|exact rfl|assumption))|(intro _;apply CellsPr.mk;(·repeat(first|exact Has.here|apply Has.there));(first|exact rfl|assumption))))))))
   repeat(refine st ?_;intros)
   exact Dn.meet ⟨e10,C10⟩ ⟨by rw[←herr];exact hJ10,fun h=>absurd h he10⟩
 rintro⟨e10,C10⟩ ⟨hJ10,hE10⟩
 dsimp only[fbox] at hJ10 hE10⊢
 have hF9':FB lf.count c 3 l.length e10 f9:=⟨by have:=hF9.cnt;omega,hF9.blk,fun h=>by have:=hF9.ok (hE10 h);rwa[begF_len] at this⟩
 have hFr:=fun b=>SFree hR hJ10 [(f2,linksF l),(f5,allF l),(f7,aheadF l),(f8,bothF l)] ((f9,begF l)::Gf) (.cons (.there (.there (.there (.there .here)))) (.cons (.there (.there (.there .here))) (.cons (.there (.there .here)) (.cons (.there .here) .nil)))) (by simp) _ 4 _ (vec4 b f2 f5 f7 f8)
 simp only[hfl4,List.map_cons,List.map_nil,List.cons_append,List.nil_append] at hFr
 repeat(refine st ?_;intros)
 refine R.callX (hct:=hFr _) (h:= ?_)
 rintro _ _ ⟨C11,rfl,rfl,hJ11⟩
 dsimp only[List.cons_append,List.nil_append]
 constructor
 ·(·(first|(intro _ _ h;cases h;done)|(repeat(first|exact qok_nil|(apply qok_cons;(·first|(intro hc;exact absurd hc (nmem rfl))|(intro _;apply CellPr.mk;(·repeat(first|exact Has.here|apply Has.there));(first|exact rfl|assumption))|(intro _;apply CellsPr.mk;(·repeat(first|exact Has.here|apply Has.there));(first|exact rfl|assumption))))))))
 repeat(refine st ?_;intros)
 (refine Dn.post (Hr:=[C11]) Tryz.results92 (hR:= ?_);exact⟨f9,C11,e10,rfl,rfl,hJ11,hF9',fun h=>(hup (h9 (hE10 h)).1).2.2.1⟩)
theorem openM_st (b:Nat):∀(ts:List T5) (k:Bool),(openM b).st k ts=(k||ts.any fun t=>decide (t.c1≠-1))
 |[],k=>by simp[Maker.st]
 |t::ts,k=>by
  simp only[Maker.st,openM_st b ts,List.any_cons]
  show((k||decide (t.c1≠-1))||_)=_
  rw[Bool.or_assoc]
theorem openM_oks (b:Nat):∀(ts:List T5) (k:Bool),(openM b).oks (fun _ _=>True) k ts
 |[],_=>trivial
 |t::ts,k=>⟨trivial,fun _=>openM_oks b ts _⟩
def openT (s:List T5):Bool:=s.any fun t=>decide (t.c1≠-1)
def farF (s:List T5):List T5:=(srt (ltO o2) false s).map (lookF s 1 1 3)
def sumsF (s:List T5):List T5:=(farF s).map (lookF s 1 2 4)
def jumpF (s:List T5):List T5:=srt (ltO o1) false ((sumsF s).map jmpF)
theorem farF_ok {s:List T5} (h:∀t∈s,okT 3 t):∀z∈farF s,okT 4 z:=fun z hz=>by
 obtain⟨y,hy,rfl⟩:=List.mem_map.1 hz
 exact lookF_ok h 1 1 3 (by omega) (h y (srt_sub hy))
theorem sumsF_ok {s:List T5} (h:∀t∈s,okT 3 t):∀z∈sumsF s,okT 5 z:=fun z hz=>by
 obtain⟨y,hy,rfl⟩:=List.mem_map.1 hz
 exact lookF_ok h 1 2 4 (by omega) (farF_ok h y hy)
theorem farF_len (s:List T5):(farF s).length=s.length:=by unfold farF;rw[List.length_map,(perm_srt _).length_eq]
theorem sumsF_len (s:List T5):(sumsF s).length=s.length:=by unfold sumsF;rw[List.length_map,farF_len]
theorem jumpF_len (s:List T5):(jumpF s).length=s.length:=by unfold jumpF;rw[(perm_srt _).length_eq,List.length_map,sumsF_len]
theorem jumpF_ok {s:List T5} (h:∀t∈s,okT 3 t):∀z∈jumpF s,okT 3 z:=fun z hz=>by
 obtain⟨y,hy,rfl⟩:=List.mem_map.1 (srt_sub hz)
 exact jmpF_ok (sumsF_ok h y hy)
theorem ltO_o2 (a b:T5):ltO o2 a b=true↔a.c1<b.c1:=by
 have hf:formed o2=true:=by decide
 unfold ltO cmpT
 rw[decide_eq_true_iff,if_pos hf]
 exact cmp3lt a.c1 b.c1
theorem srt_o2 (l:List T5):(srt (ltO o2) false l).Pairwise fun a c=>a.c1≤c.c1:=by
 refine(sd_srt (ltO_swo o2) false l).imp fun {a b} h=> ?_
 have h1:¬ltO o2 b a=true:=by
  intro h2
  simp only[Bool.false_eq_true,if_false] at h
  rw[h] at h2;cases h2
 rw[ltO_o2] at h1
 omega
theorem jump_ct {p:Jp} {B m k a s0:Nat} {e:Int} {er:Option Nat} {Gf:List (Fl×List T5)} {C:Chunk} (hR:Rm p B m k a) (f:Fl) (s:List T5) (hJ:JobS p B k a s0 e er ((f,s)::Gf) C) (n c:Nat) (hF:FB n c 3 s.length e f) (hn:n≤1000) (hnc:n≤2*c) (hcB:c≤B) (hnB:n≤B) (hT:sortT c≤m) (hk:Gf.length+5≤k) (hst:s0≤9000)
  (hok:∀t∈s,okT 3 t) (hsr:e=0→s.Pairwise fun a c=>a.c0<c.c0):
  Ct Tryz.prog 94 [pv p.bj,flv f] [C] fun v H'=>∃f' ob C' e',v= .tuple #[flv f',.bool ob]∧H'=[C']∧
   ((ob=false∧f'=f∧JobS p B k a (s0+1) e' er ((f,s)::Gf) C'∧(e'=0→e=0∧openT s=false))∨(ob=true∧JobS p B k a (s0+7) e' er ((f',jumpF s)::Gf) C'∧FB n c 3 s.length e' f'∧(e'=0→e=0∧openT s=true))):=by
 have hflv:∀f:Fl,flv f= .agg #[.int .i64 (f.first:Int),.int .i64 (f.blocks:Int),.int .i64 (f.width:Int),.int .i64 (f.count:Int)]:=fun _=>rfl
 have hfl4:∀f:Fl,fl4 f=[.int .i64 (f.first:Int),.int .i64 (f.blocks:Int),.int .i64 (f.width:Int),.int .i64 (f.count:Int)]:=fun _=>rfl
 have hto1:tv o1= .agg #[.int .i64 1,.int .i64 0,.int .i64 0,.int .i64 0,.int .i64 0]:=rfl
 have hto2:tv o2= .agg #[.int .i64 2,.int .i64 0,.int .i64 0,.int .i64 0,.int .i64 0]:=rfl
 have hB:=hR.bs
 have hFc:=hF.cnt
 have hFb:=hF.blk
 have hO:=fun b6=>SOver hR hJ (openM b6) false 138 inferInstance [pv b6] _ (open_see b6) f s (by first|exact .inr (by assumption)|exact .inl (by repeat(first|exact List.mem_cons_self|apply List.mem_cons_of_mem))) (by omega) (fun _=>openM_oks b6 s _) (by omega)
 simp only[openM_C,openM_st,Bool.false_or,Maker.bad_none (M:=openM _) (fun _ _=>rfl),or_none'] at hO
 rw[show(s.any fun t=>decide (t.c1≠-1))=openT s from rfl] at hO
 rw[hflv] at hO⊢
 refine Ct.intro Tryz.func94 rfl Tryz.ntmps94 (nle rfl) fun w0=> ?_;dsimp only[argSlots,Nat.reduceAdd]
 repeat(refine st ?_;intros)
 rename_i b2 b3 b4 b6
 refine R.callX (hct:=hO _) (h:= ?_)
 rintro _ _ ⟨C1,e1,k1,rfl,rfl,hJ1,hE1⟩
 dsimp only[List.cons_append,List.nil_append]
 constructor
 ·(·(first|(intro _ _ h;cases h;done)|(repeat(first|exact qok_nil|(apply qok_cons;(·first|(intro hc;exact absurd hc (nmem rfl))|(intro _;apply CellPr.mk;(·repeat(first|exact Has.here|apply Has.there));(first|exact rfl|assumption))|(intro _;apply CellsPr.mk;(·repeat(first|exact Has.here|apply Has.there));(first|exact rfl|assumption))))))))
 cases k1 with
 |false=>
  repeat(refine st ?_;intros)
  (refine Dn.post (Hr:=[C1]) Tryz.results94 (hR:= ?_);exact⟨f,false,C1,e1,rfl,rfl,.inl ⟨rfl,rfl,hJ1,fun h=>⟨(hE1 h).1,(hE1 h).2.1.symm⟩⟩⟩)
 |true=>
 obtain⟨ph,nh,pc,rest,hrow⟩:=hJ1.row
 by_cases he1:e1=0
 rotate_left
 ·repeat(refine stn ?_;intros)
  refine G.open hrow (by(repeat(first|exact Take.here|apply Take.there))) ?_
  repeat(refine st ?_;intros)
  refine Dn.close hrow (by(repeat(first|exact Take.here|apply Take.there))) (by(repeat(first|exact Take.here|apply Take.there))) ?_
  (refine Dn.post (Hr:=[C1]) Tryz.results94 (hR:= ?_);exact⟨f,false,C1,e1,rfl,rfl,.inl ⟨rfl,rfl,hJ1,fun h=>absurd h he1⟩⟩)
 subst he1
 obtain⟨he0,hop,_⟩:=hE1 rfl
 subst he0
 have hM2:=fun b=>SMap1 hR hJ1 (fun t=>t) 3 f.count c (by omega) 139 inferInstance (okT 3) same_mk (fun t h=>h) f s (by first|exact .inr (by assumption)|exact .inl (by repeat(first|exact List.mem_cons_self|apply List.mem_cons_of_mem))) (by omega) (fun _=>hok) (fun h=>by have:=(hF.ok h).2;omega) (.inr ⟨by omega,by omega⟩) hcB (by simp only[List.length_cons,List.length_nil];omega) (by omega) b
 simp only[hfl4,map_id_t] at hM2
 repeat(refine stn ?_;intros)
 refine G.open hrow (by(repeat(first|exact Take.here|apply Take.there))) ?_
 repeat(refine st ?_;intros)
 refine R1.close hrow (by(repeat(first|exact Take.here|apply Take.there))) (by(repeat(first|exact Take.here|apply Take.there))) ?_
 repeat(refine st ?_;intros)
 refine R.callX (hct:=hM2 _) (h:= ?_)
 rintro _ _ ⟨f2,C2,e2,rfl,rfl,hJ2,hF2,hE2⟩
 dsimp only[List.cons_append,List.nil_append]
 constructor
 ·(·(first|(intro _ _ h;cases h;done)|(repeat(first|exact qok_nil|(apply qok_cons;(·first|(intro hc;exact absurd hc (nmem rfl))|(intro _;apply CellPr.mk;(·repeat(first|exact Has.here|apply Has.there));(first|exact rfl|assumption))|(intro _;apply CellsPr.mk;(·repeat(first|exact Has.here|apply Has.there));(first|exact rfl|assumption))))))))
 try rw[hflv]
 have hS3:=SSort hR hJ2 f2 _ _ o2 rfl false hF2 .here (by omega) hcB hT (by omega)
 rw[hflv,hto2] at hS3
 repeat(refine st ?_;intros)
 refine R.callX (hct:=hS3) (h:= ?_)
 rintro _ _ ⟨f3,C3,e3,rfl,rfl,hJ3,hF3,hE3⟩
 dsimp only[List.cons_append,List.nil_append]
 constructor
 ·(·(first|(intro _ _ h;cases h;done)|(repeat(first|exact qok_nil|(apply qok_cons;(·first|(intro hc;exact absurd hc (nmem rfl))|(intro _;apply CellPr.mk;(·repeat(first|exact Has.here|apply Has.there));(first|exact rfl|assumption))|(intro _;apply CellsPr.mk;(·repeat(first|exact Has.here|apply Has.there));(first|exact rfl|assumption))))))))
 try rw[hflv]
 have hF3c:=hF3.cnt
 have hF3b:=hF3.blk
 have hR4:=fun b8 b4 b5=>SLookRun hR hJ3 140 inferInstance f3 f (srt (ltO o2) false s) s 1 1 3 4 n (by first|exact .inr (by assumption)|exact .inl (by repeat(first|exact List.mem_cons_self|apply List.mem_cons_of_mem))) (by first|exact .inr (by assumption)|exact .inl (by repeat(first|exact List.mem_cons_self|apply List.mem_cons_of_mem))) (lkFar p f3 f b8 b4 b5) hF3 (hF.mono fun _=>rfl) (by omega) (by omega) (by omega) (by omega) (by omega) (by omega)
  (fun _=>srt_o2 _) (fun h=>hsr rfl) (.inl (by omega)) hnB (by simp only[List.length_cons,List.length_nil];omega) (by omega)
 simp only[lookH,hfl4] at hR4
 repeat(refine st ?_;intros)
 refine R.callX (hct:=hR4 _ _ _) (h:= ?_)
 rintro _ _ ⟨f4,C4,e4,rfl,rfl,hJ4,hF4,hE4⟩
 dsimp only[List.cons_append,List.nil_append]
 constructor
 ·(·(first|(intro _ _ h;cases h;done)|(repeat(first|exact qok_nil|(apply qok_cons;(·first|(intro hc;exact absurd hc (nmem rfl))|(intro _;apply CellPr.mk;(·repeat(first|exact Has.here|apply Has.there));(first|exact rfl|assumption))|(intro _;apply CellsPr.mk;(·repeat(first|exact Has.here|apply Has.there));(first|exact rfl|assumption))))))))
 try rw[hflv]
 rw[show(srt (ltO o2) false s).map (lookF s 1 1 3)=farF s from rfl] at hJ4
 have hF4c:=hF4.cnt
 have hF4b:=hF4.blk
 have hR5:=fun b8 b4 b5=>SLookRun hR hJ4 141 inferInstance f4 f (farF s) s 1 2 4 5 n (by first|exact .inr (by assumption)|exact .inl (by repeat(first|exact List.mem_cons_self|apply List.mem_cons_of_mem))) (by first|exact .inr (by assumption)|exact .inl (by repeat(first|exact List.mem_cons_self|apply List.mem_cons_of_mem))) (lkSums p f4 f b8 b4 b5) hF4 (hF.mono fun _=>rfl) (by omega) (by omega) (by omega) (by omega) (by omega) (by omega)
  (fun _=>by unfold farF;rw[List.pairwise_map];exact(srt_o2 _).imp fun h=>h) (fun h=>hsr rfl) (.inl (by omega)) hnB (by simp only[List.length_cons,List.length_nil];omega) (by omega)
 simp only[lookH,hfl4] at hR5
 repeat(refine st ?_;intros)
 refine R.callX (hct:=hR5 _ _ _) (h:= ?_)
 rintro _ _ ⟨f5,C5,e5,rfl,rfl,hJ5,hF5,hE5⟩
 dsimp only[List.cons_append,List.nil_append]
 constructor
 ·(·(first|(intro _ _ h;cases h;done)|(repeat(first|exact qok_nil|(apply qok_cons;(·first|(intro hc;exact absurd hc (nmem rfl))|(intro _;apply CellPr.mk;(·repeat(first|exact Has.here|apply Has.there));(first|exact rfl|assumption))|(intro _;apply CellsPr.mk;(·repeat(first|exact Has.here|apply Has.there));(first|exact rfl|assumption))))))))
 try rw[hflv]
 rw[show(farF s).map (lookF s 1 2 4)=sumsF s from rfl] at hJ5
 have hF5c:=hF5.cnt
 have hF5b:=hF5.blk
 have hM6:=fun b=>SMake1n hR hJ5 (mMap jmpF) (fun _ _=>rfl) () 3 f.count c 1 (by omega) 142 inferInstance [] _ jmp_mk (fun _ _ _=>Nat.le_refl _) (by omega) f5 (sumsF s) (by first|exact .inr (by assumption)|exact .inl (by repeat(first|exact List.mem_cons_self|apply List.mem_cons_of_mem))) (by omega)
  (fun _=>Maker.oks_of (M:=mMap jmpF) (I:=fun _=>True) (Q:=okT 5) (fun _ t _ h=>⟨h,trivial⟩) _ () trivial (sumsF_ok hok)) (fun h=>by
   rw[mMap_all,List.length_map,sumsF_len]
   have:=(hF.ok rfl).2
   omega) (.inr ⟨by omega,by omega⟩) hcB (by simp only[List.length_cons,List.length_nil];omega) (by omega) b
 rw[mMap_all] at hM6
 simp only[hfl4,show∀k,(mMap jmpF).C k=[] from fun _=>rfl] at hM6
 repeat(refine st ?_;intros)
 refine R.callX (hct:=hM6 _) (h:= ?_)
 rintro _ _ ⟨f6,C6,e6,k6,rfl,rfl,hJ6,hF6,hE6⟩
 dsimp only[List.cons_append,List.nil_append]
 constructor
 ·(·(first|(intro _ _ h;cases h;done)|(repeat(first|exact qok_nil|(apply qok_cons;(·first|(intro hc;exact absurd hc (nmem rfl))|(intro _;apply CellPr.mk;(·repeat(first|exact Has.here|apply Has.there));(first|exact rfl|assumption))|(intro _;apply CellsPr.mk;(·repeat(first|exact Has.here|apply Has.there));(first|exact rfl|assumption))))))))
 try rw[hflv]
 have hS7:=SSort hR hJ6 f6 _ _ o1 rfl false hF6 .here (by omega) hcB hT (by omega)
 rw[hflv,hto1,show srt (ltO o1) false ((sumsF s).map jmpF)=jumpF s from rfl] at hS7
 repeat(refine st ?_;intros)
 refine R.callX (hct:=hS7) (h:= ?_)
 rintro _ _ ⟨f7,C7,e7,rfl,rfl,hJ7,hF7,hE7⟩
 dsimp only[List.cons_append,List.nil_append]
 constructor
 ·(·(first|(intro _ _ h;cases h;done)|(repeat(first|exact qok_nil|(apply qok_cons;(·first|(intro hc;exact absurd hc (nmem rfl))|(intro _;apply CellPr.mk;(·repeat(first|exact Has.here|apply Has.there));(first|exact rfl|assumption))|(intro _;apply CellsPr.mk;(·repeat(first|exact Has.here|apply Has.there));(first|exact rfl|assumption))))))))
 try rw[hflv]
 have hFr:=fun b=>SFree hR hJ7 [(f3,srt (ltO o2) false s),(f4,farF s),(f5,sumsF s),(f,s)] ((f7,jumpF s)::Gf) (.cons (.there (.there (.there .here))) (.cons (.there (.there .here)) (.cons (.there .here) (.cons (.there .here) .nil)))) (by simp) _ 4 _ (vec4 b f3 f4 f5 f)
 simp only[hfl4,List.map_cons,List.map_nil,List.cons_append,List.nil_append] at hFr
 repeat(refine st ?_;intros)
 refine R.callX (hct:=hFr _) (h:= ?_)
 rintro _ _ ⟨C8,rfl,rfl,hJ8⟩
 dsimp only[List.cons_append,List.nil_append]
 constructor
 ·(·(first|(intro _ _ h;cases h;done)|(repeat(first|exact qok_nil|(apply qok_cons;(·first|(intro hc;exact absurd hc (nmem rfl))|(intro _;apply CellPr.mk;(·repeat(first|exact Has.here|apply Has.there));(first|exact rfl|assumption))|(intro _;apply CellsPr.mk;(·repeat(first|exact Has.here|apply Has.there));(first|exact rfl|assumption))))))))
 repeat(refine st ?_;intros)
 have hF7':FB n c 3 s.length e7 f7:=by rw[jumpF_len] at hF7;exact⟨Nat.le_trans hF7.cnt hFc,hF7.blk,hF7.ok⟩
 (refine Dn.post (Hr:=[C8]) Tryz.results94 (hR:= ?_);exact⟨f7,true,C8,e7,rfl,rfl,.inr ⟨rfl,hJ8,hF7',fun h=>⟨rfl,hop.symm⟩⟩⟩)
def bits (n:Nat):Nat:=if n=0 then 0 else Nat.log2 n+1
theorem bits_gt (n:Nat):n<2^bits n:=by
 unfold bits
 split
 ·omega
 ·exact Nat.lt_log2_self
theorem bits_le {n r:Nat} (h:r<bits n):2^r≤n:=by
 unfold bits at h
 split at h
 ·omega
 ·rename_i h0
  exact Nat.le_trans (Nat.pow_le_pow_right (by omega) (by omega)) (Nat.log2_self_le h0)
theorem bits_up {n r:Nat} (h:r≤bits n) (h2:n<2^r):r=bits n:=by
 by_cases hlt:r<bits n
 ·have:=bits_le hlt;omega
 ·omega
theorem bits_10 {n:Nat} (h:n≤1000):bits n≤10:=by
 by_cases hlt:10<bits n
 ·have:=bits_le hlt
  have e:2^10=1024:=rfl
  omega
 ·omega
def sJ (l:List T5):Nat→List T5
 |0=>begF l
 |j+1=>jumpF (sJ l j)
def errR (l:List T5):Option Nat:=(errB l).or (if openT (sJ l (bits l.length)) then some 3 else none)
def ranksF (l:List T5):List T5:=(sJ l (bits l.length)).map fun t=>⟨t.c0,t.c2,0,0,0⟩
theorem sJ_ok {l:List T5} (h:∀t∈l,okT 3 t):∀j,∀z∈sJ l j,okT 3 z
 |0=>begF_ok h
 |j+1=>jumpF_ok (sJ_ok h j)
theorem sJ_len (l:List T5):∀j,(sJ l j).length=l.length
 |0=>begF_len l
 |j+1=>(jumpF_len _).trans (sJ_len l j)
theorem fndO_c0 (t:T5):(fndO t).c0=t.c0:=by unfold fndO;split<;>rfl
theorem jmpF_c0 (t:T5):(jmpF t).c0=t.c0:=by unfold jmpF;split<;>rfl
theorem lookF_c0 (bs:List T5) (key value to:Nat) (hto:to≠0) (t:T5):(lookF bs key value to t).c0=t.c0:=by
 unfold lookF setc
 match to,hto with
 |1,_=>rfl
 |2,_=>rfl
 |3,_=>rfl
 |4,_=>rfl
 |n+5,_=>rfl
theorem begF_c0 (l:List T5):(begF l).map (·.c0)=(allF l).map (·.c0):=by
 unfold begF bothF aheadF
 rw[List.map_map,List.map_map,List.map_map]
 exact List.map_congr_left fun t _=>by
  simp only[Function.comp_apply,fndO_c0,lookF_c0 _ _ _ _ (by omega:(2:Nat)≠0),lookF_c0 _ _ _ _ (by omega:(1:Nat)≠0)]
theorem strict_map {a b:List T5} (h:a.map (·.c0)=b.map (·.c0)) (hb:b.Pairwise fun x y=>x.c0<y.c0):a.Pairwise fun x y=>x.c0<y.c0:=by
 have h1:(b.map (·.c0)).Pairwise (·<·):=List.pairwise_map.2 hb
 rw[←h] at h1
 exact List.pairwise_map.1 h1
theorem jumpF_c0 (s:List T5):((jumpF s).map (·.c0)).Perm (s.map (·.c0)):=by
 unfold jumpF sumsF farF
 refine((perm_srt _).map _).trans ?_
 rw[List.map_map,List.map_map,List.map_map]
 have e:((((fun x:T5=>x.c0)∘jmpF)∘lookF s 1 2 4)∘lookF s 1 1 3)=fun x=>x.c0:=by
  funext t
  simp only[Function.comp_apply,jmpF_c0,lookF_c0 _ _ _ _ (by omega:(4:Nat)≠0),lookF_c0 _ _ _ _ (by omega:(3:Nat)≠0)]
 rw[e]
 exact(perm_srt _).map _
theorem strict_of {a:List T5} (h:a.Pairwise fun x y=>x.c0≤y.c0) (hn:(a.map (·.c0)).Nodup):a.Pairwise fun x y=>x.c0<y.c0:=by
 have h1:a.Pairwise fun x y=>x.c0≠y.c0:=List.pairwise_map.1 hn
 exact(h.and h1).imp fun {x y} ⟨h2,h3⟩=>by omega
theorem jumpF_sr {s:List T5} (h:s.Pairwise fun x y=>x.c0<y.c0):(jumpF s).Pairwise fun x y=>x.c0<y.c0:=by
 refine strict_of (srt_o1 _) ?_
 refine(jumpF_c0 s).nodup_iff.2 ?_
 exact List.pairwise_map.2 (h.imp fun {x y} hh=>by omega)
theorem sJ_sr {l:List T5} (h:(allF l).Pairwise fun x y=>x.c0<y.c0):∀j,(sJ l j).Pairwise fun x y=>x.c0<y.c0
 |0=>strict_map (begF_c0 l) h
 |j+1=>jumpF_sr (sJ_sr h j)
theorem jumpF_shut {s:List T5} (hok:∀t∈s,okT 3 t) (hs:s.Pairwise fun x y=>x.c0<y.c0) (ho:openT s=false):jumpF s=s:=by
 have hno:∀t∈s,t.c1= -1:=fun t ht=>by
  by_cases h:t.c1= -1
  ·exact h
  ·have:openT s=true:=List.any_eq_true.2 ⟨t,ht,decide_eq_true h⟩
   rw[ho] at this;cases this
 have hperm:(jumpF s).Perm s:=by
  unfold jumpF sumsF farF
  refine(perm_srt _).trans ?_
  rw[List.map_map,List.map_map]
  have e:(srt (ltO o2) false s).map ((jmpF∘lookF s 1 2 4)∘lookF s 1 1 3)=srt (ltO o2) false s:=by
   refine(List.map_congr_left (g:=id) fun t ht=> ?_).trans (List.map_id _)
   have ht:=srt_sub ht
   have h1:=hno t ht
   have h2:=hok t ht
   have h3:=h2.2 3 (by omega)
   have h4:=h2.2 4 (by omega)
   obtain⟨a,b,c,d,f⟩:=t
   simp only[T5.col] at h1 h3 h4
   subst h1
   have e3:d=0:=h3
   have e4:f=0:=h4
   subst e3 e4
   rfl
  rw[e]
  exact perm_srt _
 refine hperm.eq_of_pairwise (le:=fun x y=>x.c0<y.c0) (fun x y _ _ h1 h2=>absurd h1 (by omega)) (jumpF_sr hs) hs
theorem sJ_shut {l:List T5} (hok:∀t∈l,okT 3 t) (h:(allF l).Pairwise fun x y=>x.c0<y.c0) {j:Nat} (ho:openT (sJ l j)=false):∀d,sJ l (j+d)=sJ l j
 |0=>rfl
 |d+1=>by
  show jumpF (sJ l (j+d))=_
  rw[sJ_shut hok h ho d]
  exact jumpF_shut (sJ_ok hok j) (sJ_sr h j) ho
theorem errB_none {l:List T5} (h:errB l=none):linkM.bad () l=none∧riseE (linksF l)=none∧riseE (allF l)=none∧cntB l=((linksF l).length:Int):=by
 unfold errB at h
 obtain⟨h1,h2⟩:=or_nil h
 obtain⟨h1,h3⟩:=or_nil h1
 obtain⟨h1,h4⟩:=or_nil h1
 refine⟨h1,h4,h3,?_⟩
 split at h2
 ·assumption
 ·cases h2
end Go.Proofs.YtammjnjpheobaaaGreat
namespace Go.Proofs.YtammjnjpheobaaaGreat
def itA (p:Int→Int):Nat→Int→Int
 |0,x=>x
 |k+1,x=>itA p k (p x)
theorem itA_add (p:Int→Int):∀(a b:Nat) (x:Int),itA p (a+b) x=itA p b (itA p a x)
 |0,b,x=>by rw[Nat.zero_add];rfl
 |a+1,b,x=>by
  rw[Nat.add_right_comm]
  exact itA_add p a b (p x)
theorem itA_end {p:Int→Int} (h:p (-1)= -1):∀k,itA p k (-1)= -1
 |0=>rfl
 |k+1=>by show itA p k (p (-1))= -1;rw[h];exact itA_end h k
end Go.Proofs.YtammjnjpheobaaaGreat
namespace Go.Proofs.YtammjnjpheobaaaGreat
open Go.SL Go.Spc Go.Tup Go.Srt
def aheadT (l:List T5) (x:Int):Option T5:=if x= -1 then none else l.find? fun t=>decide (t.c1=x)
def paT (l:List T5) (x:Int):Int:=match aheadT l x with|some t=>t.c0|none=> -1
def waT (l:List T5) (x:Int):Int:=match aheadT l x with|some t=>t.c2|none=>0
structure PreL (l:List T5):Prop where
 el:∀t∈l,okE t
 nd:l.Pairwise fun a c=>a.c0≠c.c0
 nx:l.Pairwise fun a c=>a.c1≠-1→a.c1≠c.c1
structure OkL (l:List T5):Prop extends PreL l where
 im:∀t∈l,t.c1≠-1→∃u∈l,u.c0=t.c1
theorem uniq_nx:∀{l:List T5},(l.Pairwise fun a c=>a.c1≠-1→a.c1≠c.c1)→∀{t u:T5},t∈l→u∈l→t.c1≠-1→t.c1=u.c1→t=u
 |[],_,t,_,ht,_,_,_=>by cases ht
 |a::l,h,t,u,ht,hu,hn,he=>by
  rw[List.pairwise_cons] at h
  rcases List.mem_cons.1 ht with rfl|ht2<;>rcases List.mem_cons.1 hu with rfl|hu2
  ·rfl
  ·exact absurd he (h.1 u hu2 hn)
  ·exact absurd he.symm (h.1 t ht2 (by omega))
  ·exact uniq_nx h.2 ht2 hu2 hn he
theorem aheadT_some {l:List T5} (h:PreL l) {t:T5} (ht:t∈l) (hn:t.c1≠-1):aheadT l t.c1=some t:=by
 unfold aheadT
 rw[if_neg hn]
 cases hf:l.find? fun u=>decide (u.c1=t.c1) with
 |none=>rw[List.find?_eq_none] at hf;exact absurd (decide_eq_true rfl) (hf t ht)
 |some u=>
  have h1:u.c1=t.c1:=by simpa using List.find?_some hf
  rw[uniq_nx h.nx ht (List.mem_of_find?_eq_some hf) hn h1.symm]
theorem aheadT_of {l:List T5} {x:Int} {t:T5} (h:aheadT l x=some t):t∈l∧t.c1=x∧x≠-1:=by
 unfold aheadT at h
 split at h
 ·cases h
 ·rename_i hn
  exact⟨List.mem_of_find?_eq_some h,by simpa using List.find?_some h,hn⟩
theorem aheadT_none {l:List T5} {x:Int} (hx:x≠-1) (h:aheadT l x=none):∀t∈l,t.c1≠x:=by
 unfold aheadT at h
 rw[if_neg hx,List.find?_eq_none] at h
 intro t ht h1
 exact h t ht (by simpa using h1)
def stT (p v:Int→Int) (e:T5):T5:=⟨e.c0,p e.c0,v e.c0,0,0⟩
theorem srt_is {m E:List T5} (hp:m.Perm E) (hE:E.Pairwise fun a c=>a.c0<c.c0):srt (ltO o1) false m=E:=by
 have h1:(srt (ltO o1) false m).Perm E:=(perm_srt _).trans hp
 refine h1.eq_of_pairwise (le:=fun x y=>x.c0<y.c0) (fun x y _ _ h1 h2=>absurd h1 (by omega)) (strict_of (srt_o1 _) ?_) hE
 refine(h1.map (·.c0)).nodup_iff.2 ?_
 exact List.pairwise_map.2 (hE.imp fun {x y} hh=>by omega)
theorem st_strict {p v:Int→Int} {E:List T5} (hE:E.Pairwise fun a c=>a.c0<c.c0):(E.map (stT p v)).Pairwise fun a c=>a.c0<c.c0:=List.pairwise_map.2 (hE.imp fun {x y} h=>h)
def pJ (p:Int→Int) (x:Int):Int:=if p x= -1 then-1 else p (p x)
def vJ (p v:Int→Int) (x:Int):Int:=if p x= -1 then v x else IntKind.wrap .i64 (v x+v (p x))
theorem jumpF_st {E:List T5} {p v:Int→Int} (hE:E.Pairwise fun a c=>a.c0<c.c0) (h0:∀e∈E,0≤e.c0) (hp:∀e∈E,p e.c0= -1∨∃u∈E,u.c0=p e.c0):jumpF (E.map (stT p v))=E.map (stT (pJ p) (vJ p v)):=by
 have hs:=st_strict (p:=p) (v:=v) hE
 unfold jumpF sumsF farF
 refine srt_is ?_ (st_strict hE)
 rw[List.map_map,List.map_map]
 refine((perm_srt _).map _).trans ?_
 rw[List.map_map]
 refine List.Perm.of_eq (List.map_congr_left fun e he=> ?_)
 have hlk:∀c,lkV (E.map (stT p v)) (p e.c0) c=if p e.c0= -1 then-1 else(⟨p e.c0,p (p e.c0),v (p e.c0),0,0⟩:T5).col c:=by
  intro c
  split
  ·rename_i h1
   rw[h1]
   refine lkV_none fun u hu=> ?_
   obtain⟨w,hw,rfl⟩:=List.mem_map.1 hu
   have:=h0 w hw
   show w.c0≠-1
   omega
  ·rename_i h1
   rcases hp e he with h2|⟨u,hu,h2⟩
   ·exact absurd h2 h1
   ·rw[lkV_some hs (List.mem_map_of_mem hu) (by show u.c0=_;exact h2)]
    unfold stT;rw[h2]
 simp only[Function.comp_apply]
 show jmpF (setc (setc (stT p v e) 3 (lkV _ (p e.c0) 1)) 4 (lkV _ (p e.c0) 2))=_
 rw[hlk 1,hlk 2]
 unfold jmpF
 show(if p e.c0= -1 then _ else _)=_
 unfold stT pJ vJ
 by_cases h1:p e.c0= -1
 ·rw[if_pos h1,if_pos h1,if_pos h1,if_pos h1]
  simp only[h1]
  rfl
 ·rw[if_neg h1,if_neg h1,if_neg h1,if_neg h1]
  simp only[if_neg h1]
  rfl
def smA (p w:Int→Int):Nat→Int→Int
 |0,_=>0
 |k+1,x=>w x+smA p w k (p x)
theorem smA_add (p w:Int→Int):∀(a b:Nat) (x:Int),smA p w (a+b) x=smA p w a x+smA p w b (itA p a x)
 |0,b,x=>by rw[Nat.zero_add];simp[smA,itA]
 |a+1,b,x=>by
  rw[Nat.add_right_comm]
  show w x+smA p w (a+b) (p x)=w x+smA p w a (p x)+smA p w b (itA p a (p x))
  rw[smA_add p w a b (p x)];omega
theorem smA_end {p w:Int→Int} (h:p (-1)= -1) (hw:w (-1)=0):∀k,smA p w k (-1)=0
 |0=>rfl
 |k+1=>by show w (-1)+smA p w k (p (-1))=0;rw[h,hw,smA_end h hw k];rfl
theorem wrap_sum (a b:Int):IntKind.wrap .i64 (IntKind.wrap .i64 a+IntKind.wrap .i64 b)=IntKind.wrap .i64 (a+b):=by
 have e:∀n:Int,IntKind.wrap .i64 n=if n%18446744073709551616≥9223372036854775808 then n%18446744073709551616-18446744073709551616 else n%18446744073709551616:=fun n=>by
  unfold IntKind.wrap
  simp[IntKind.bits,IntKind.signed]
 rw[e,e a,e b,e (a+b)]
 split<;>split<;>split<;>split<;>omega
theorem sJ_it {l E:List T5} {p w:Int→Int} (hE:E.Pairwise fun a c=>a.c0<c.c0) (h0:∀e∈E,0≤e.c0) (hp:∀e∈E,p e.c0= -1∨∃u∈E,u.c0=p e.c0) (hpe:p (-1)= -1) (hwe:w (-1)=0) (hb:begF l=E.map (stT p fun x=>IntKind.wrap .i64 (w x))):∀j,sJ l j=E.map (stT (itA p (2^j)) fun x=>IntKind.wrap .i64 (smA p w (2^j) x))
 |0=>by
  show begF l=_
  rw[hb]
  refine List.map_congr_left fun e _=> ?_
  show stT p _ e=stT (itA p 1) (fun x=>IntKind.wrap .i64 (smA p w 1 x)) e
  unfold stT
  simp only[itA,smA,Int.add_zero]
 |j+1=>by
  show jumpF (sJ l j)=_
  rw[sJ_it hE h0 hp hpe hwe hb j]
  have hin:∀k e,e∈E→itA p k e.c0= -1∨∃u∈E,u.c0=itA p k e.c0:=by
   intro k
   induction k with
   |zero=>exact fun e he=> .inr ⟨e,he,rfl⟩
   |succ k ih=>
    intro e he
    show itA p k (p e.c0)= -1∨_
    rcases hp e he with h1|⟨u,hu,h1⟩
    ·exact .inl (by rw[h1];exact itA_end hpe k)
    ·show itA p k (p e.c0)= -1∨∃u∈E,u.c0=itA p k (p e.c0)
     rw[←h1]
     exact ih u hu
  rw[jumpF_st hE h0 fun e he=>hin _ e he]
  have e2:2^(j+1)=2^j+2^j:=by rw[Nat.pow_succ];omega
  refine List.map_congr_left fun e _=> ?_
  unfold stT pJ vJ
  dsimp only
  rw[e2,itA_add,smA_add]
  by_cases h1:itA p (2^j) e.c0= -1
  ·rw[if_pos h1,if_pos h1,h1,itA_end hpe,smA_end hpe hwe,Int.add_zero]
  ·rw[if_neg h1,if_neg h1,wrap_sum]
theorem linkM_mem {k:Unit}:∀{l:List T5} {z:T5},z∈linkM.all k l↔∃t∈l,t.c1≠-1∧z=⟨t.c1,t.c0,t.c2,0,0⟩
 |[],z=>by simp[Maker.all]
 |t::l,z=>by
  simp only[Maker.all,List.mem_append]
  rw[linkM_mem,show(∃u∈t::l,u.c1≠-1∧z=(⟨u.c1,u.c0,u.c2,0,0⟩:T5))↔(t.c1≠-1∧z=(⟨t.c1,t.c0,t.c2,0,0⟩:T5))∨∃u∈l,u.c1≠-1∧z=(⟨u.c1,u.c0,u.c2,0,0⟩:T5) from by simp only[List.mem_cons,or_and_right,exists_or,exists_eq_left]]
  refine or_congr ?_ Iff.rfl
  show z∈linkO t↔_
  unfold linkO
  by_cases h:t.c1= -1
  ·rw[if_pos h];simp[h]
  ·rw[if_neg h];simp[h]
theorem linkM_nd {k:Unit}:∀{l:List T5},(l.Pairwise fun a c=>a.c1≠-1→a.c1≠c.c1)↔(linkM.all k l).Pairwise fun a c=>a.c0≠c.c0
 |[]=>by simp[Maker.all]
 |t::l=>by
  simp only[Maker.all,List.pairwise_cons]
  rw[List.pairwise_append]
  show _↔(linkO t).Pairwise _∧(linkM.all () l).Pairwise _∧∀a∈linkO t,∀b∈linkM.all () l,a.c0≠b.c0
  unfold linkO
  by_cases h:t.c1= -1
  ·rw[if_pos h,linkM_nd (k:=())]
   simp[h]
  ·rw[if_neg h,linkM_nd (k:=())]
   constructor
   ·rintro⟨h1,h2⟩
    refine⟨by simp,h2,fun a ha b hb=> ?_⟩
    simp only[List.mem_singleton] at ha;subst ha
    obtain⟨u,hu,_,rfl⟩:=linkM_mem.1 hb
    exact h1 u hu h
   ·rintro⟨_,h2,h3⟩
    refine⟨fun u hu _ he=> ?_,h2⟩
    exact h3 _ (List.mem_singleton.2 rfl) ⟨u.c1,u.c0,u.c2,0,0⟩ (linkM_mem.2 ⟨u,hu,by rw[←he];exact h,rfl⟩) he
theorem linkM_bad {k:Unit}:∀{l:List T5},linkM.bad k l=none↔∀t∈l,okE t
 |[]=>by simp[Maker.bad]
 |t::l=>by
  simp only[Maker.bad]
  by_cases h:okE t
  ·rw[show linkM.err k t=none from if_pos h]
   dsimp only
   rw[linkM_bad]
   simp[h]
  ·rw[show linkM.err k t=some 3 from if_neg h]
   simp[h]
theorem bad_3 {K:Type} {M:Maker K} (h:∀k t,M.err k t=none∨M.err k t=some 3):∀(l:List T5) (k:K),M.bad k l=none∨M.bad k l=some 3
 |[],_=> .inl rfl
 |t::l,k=>by
  simp only[Maker.bad]
  rcases h k t with h1|h1
  ·rw[h1];exact bad_3 h l _
  ·rw[h1];exact .inr rfl
theorem or_3 {a b:Option Nat} (ha:a=none∨a=some 3) (hb:b=none∨b=some 3):a.or b=none∨a.or b=some 3:=by
 rcases ha with rfl|rfl
 ·exact hb
 ·exact .inr rfl
theorem errR_3 (l:List T5):errR l=none∨errR l=some 3:=by
 unfold errR errB riseE
 refine or_3 (or_3 (or_3 (or_3 ?_ ?_) ?_) ?_) ?_
 ·exact bad_3 (fun k t=>by unfold linkM;dsimp only;split;exact .inl rfl;exact .inr rfl) l ()
 ·exact bad_3 (fun k t=>by unfold riseM;dsimp only;split;exact .inr rfl;exact .inl rfl) _ _
 ·exact bad_3 (fun k t=>by unfold riseM;dsimp only;split;exact .inr rfl;exact .inl rfl) _ _
 ·split;exact .inl rfl;exact .inr rfl
 ·split;exact .inr rfl;exact .inl rfl
theorem allF_mem {l:List T5} {e:T5}:e∈allF l↔∃t∈l,e=⟨t.c0,0,0,0,0⟩:=by
 unfold allF
 rw[(perm_srt _).mem_iff,List.mem_map]
 exact⟨fun ⟨t,h1,h2⟩=>⟨t,h1,h2.symm⟩,fun ⟨t,h1,h2⟩=>⟨t,h1,h2.symm⟩⟩
theorem linksF_mem {l:List T5} {z:T5}:z∈linksF l↔∃t∈l,t.c1≠-1∧z=⟨t.c1,t.c0,t.c2,0,0⟩:=by
 unfold linksF
 rw[(perm_srt _).mem_iff,linkM_mem]
theorem strict_srt {m:List T5} (h:m.Pairwise fun a c=>a.c0≠c.c0):(srt (ltO o1) false m).Pairwise fun a c=>a.c0<c.c0:=
 strict_of (srt_o1 _) (((perm_srt m).map fun t:T5=>t.c0).nodup_iff.2 (List.pairwise_map.2 h))
theorem ne_of_strict {m:List T5} (h:(srt (ltO o1) false m).Pairwise fun a c=>a.c0<c.c0):m.Pairwise fun a c=>a.c0≠c.c0:=by
 have h1:((srt (ltO o1) false m).map (·.c0)).Nodup:=List.pairwise_map.2 (h.imp fun {x y} hh=>by omega)
 exact List.pairwise_map.1 (((perm_srt m).map fun t:T5=>t.c0).nodup_iff.1 h1)
theorem PreL.all {l:List T5} (h:PreL l):(allF l).Pairwise fun a c=>a.c0<c.c0:=strict_srt (List.pairwise_map.2 (h.nd.imp fun {x y} hh=>hh))
theorem PreL.links {l:List T5} (h:PreL l):(linksF l).Pairwise fun a c=>a.c0<c.c0:=strict_srt (linkM_nd.1 h.nx)
theorem PreL.pos {l:List T5} (h:PreL l):∀e∈allF l,0≤e.c0:=fun e he=>by
 obtain⟨t,ht,rfl⟩:=allF_mem.1 he
 exact(h.el t ht).1
theorem pre_iff {l:List T5}:PreL l↔linkM.bad () l=none∧riseE (linksF l)=none∧riseE (allF l)=none:=by
 rw[linkM_bad,riseE_none,riseE_none]
 constructor
 ·intro h
  refine⟨h.el,⟨h.links,fun z hz=> ?_⟩,h.all,h.pos⟩
  obtain⟨t,ht,hn,rfl⟩:=linksF_mem.1 hz
  have:=(h.el t ht).2
  show 0≤t.c1
  omega
 ·rintro⟨h1,⟨h2,_⟩,h3,_⟩
  exact⟨h1,(List.pairwise_map.1 (ne_of_strict h3)).imp fun {x y} hh=>hh,linkM_nd.2 (ne_of_strict h2)⟩
def bothT (l:List T5) (e:T5):T5:=⟨e.c0,paT l e.c0,(match aheadT l e.c0 with|some t=>t.c2|none=> -1),0,0⟩
theorem lk_links {l:List T5} (h:PreL l) {x:Int} (hx:x≠-1):lkV (linksF l) x 1=paT l x∧lkV (linksF l) x 2=(match aheadT l x with|some t=>t.c2|none=> -1):=by
 unfold paT
 cases ha:aheadT l x with
 |none=>
  have hno:∀u∈linksF l,u.c0≠x:=fun u hu=>by
   obtain⟨t,ht,_,rfl⟩:=linksF_mem.1 hu
   exact aheadT_none hx ha t ht
  exact⟨lkV_none hno,lkV_none hno⟩
 |some t=>
  obtain⟨ht,hc,_⟩:=aheadT_of ha
  have hm:(⟨t.c1,t.c0,t.c2,0,0⟩:T5)∈linksF l:=linksF_mem.2 ⟨t,ht,by rw[hc];exact hx,rfl⟩
  exact⟨lkV_some (v:=1) h.links hm hc,lkV_some (t:=⟨t.c1,t.c0,t.c2,0,0⟩) (v:=2) h.links hm hc⟩
theorem bothF_is {l:List T5} (h:PreL l):bothF l=(allF l).map (bothT l):=by
 unfold bothF aheadF
 rw[List.map_map]
 refine List.map_congr_left fun e he=> ?_
 have hp:=h.pos e he
 obtain⟨t,ht,rfl⟩:=allF_mem.1 he
 obtain⟨h1,h2⟩:=lk_links h (x:=t.c0) (by dsimp only at hp;omega)
 show setc (setc _ 1 (lkV (linksF l) t.c0 1)) 2 (lkV (linksF l) t.c0 2)=_
 rw[h1,h2]
 rfl
theorem paT_pos {l:List T5} (h:PreL l) {x:Int}:paT l x= -1↔aheadT l x=none:=by
 unfold paT
 cases ha:aheadT l x with
 |none=>simp
 |some t=>
  have:=(h.el t (aheadT_of ha).1).1
  simp only[reduceCtorEq,iff_false]
  omega
theorem waT_in {l:List T5} (hok:∀t∈l,okT 3 t) (x:Int):inI64 (waT l x):=by
 unfold waT
 cases ha:aheadT l x with
 |none=>exact in_0
 |some t=>exact(okT_cols (hok t (aheadT_of ha).1)).2.2.1
theorem begF_is {l:List T5} (h:PreL l) (hok:∀t∈l,okT 3 t):begF l=(allF l).map (stT (paT l) fun x=>IntKind.wrap .i64 (waT l x)):=by
 unfold begF
 rw[bothF_is h,List.map_map]
 refine List.map_congr_left fun e _=> ?_
 have hw:=waT_in hok e.c0
 show fndO (bothT l e)=_
 unfold stT
 dsimp only
 rw[wrap_i64 hw]
 unfold fndO
 have hp:=paT_pos h (x:=e.c0)
 show(if paT l e.c0= -1 then _ else _)=_
 unfold bothT waT
 cases ha:aheadT l e.c0 with
 |none=>rw[if_pos (hp.2 ha)]
 |some t=>rw[if_neg fun hc=>by rw[hp.1 hc] at ha;cases ha]
theorem fnd_cnt (b:Nat):∀(ts:List T5) (k:Nat),k+ts.length<9000000000000000000→(fndM b).st (k:Int) ts=((k+ts.countP fun t=>decide (t.c1≠-1):Nat):Int)
 |[],k,_=>by simp[Maker.st]
 |t::ts,k,h=>by
  rw[List.length_cons] at h
  simp only[Maker.st,List.countP_cons]
  by_cases h1:t.c1= -1
  ·rw[show(fndM b).next (k:Int) t=k from if_pos h1,fnd_cnt b ts k (by omega)]
   simp[h1]
  ·have e:IntKind.wrap .i64 ((k:Int)+1)=((k+1:Nat):Int):=by rw[wrap_i64 ⟨by omega,by omega⟩];omega
   rw[show(fndM b).next (k:Int) t=IntKind.wrap .i64 ((k:Int)+1) from if_neg h1,e,fnd_cnt b ts (k+1) (by omega)]
   rw[if_pos (decide_eq_true h1)]
   congr 1
   omega
theorem cntB_is {l:List T5} (h:PreL l) (hl:l.length<1000000):cntB l=(((allF l).filter fun e=>(aheadT l e.c0).isSome).length:Int):=by
 unfold cntB
 have h1:=fnd_cnt 0 (bothF l) 0 (by rw[bothF_len];omega)
 rw[Nat.zero_add] at h1
 rw[show((0:Nat):Int)=0 from rfl] at h1
 rw[h1,bothF_is h,List.countP_map,List.countP_eq_length_filter]
 congr 2
 refine List.filter_congr fun e _=> ?_
 show decide (paT l e.c0≠-1)=_
 have hp:=paT_pos h (x:=e.c0)
 cases ha:aheadT l e.c0 with
 |none=>simp[hp.2 ha]
 |some t=>exact decide_eq_true fun hc=>by rw[hp.1 hc] at ha;cases ha
theorem errB_iff {l:List T5} (hl:l.length<1000000):errB l=none↔OkL l:=by
 have hcnt:PreL l→(cntB l=((linksF l).length:Int)↔∀t∈l,t.c1≠-1→∃u∈l,u.c0=t.c1):=by
  intro h
  rw[cntB_is h hl]
  have hA:(((allF l).filter fun e=>(aheadT l e.c0).isSome).map (·.c0)).Nodup:=List.pairwise_map.2 ((h.all.sublist List.filter_sublist).imp fun {x y} hh=>by omega)
  have hN:((linksF l).map (·.c0)).Nodup:=List.pairwise_map.2 (h.links.imp fun {x y} hh=>by omega)
  have hAm:∀x,x∈((allF l).filter fun e=>(aheadT l e.c0).isSome).map (·.c0)→∃t∈l,t.c1=x∧x≠-1∧∃u∈l,u.c0=x:=by
   intro x hx
   obtain⟨e,he,rfl⟩:=List.mem_map.1 hx
   obtain⟨h1,h2⟩:=List.mem_filter.1 he
   obtain⟨t,ht⟩:=Option.isSome_iff_exists.1 h2
   obtain⟨h3,h4,h5⟩:=aheadT_of ht
   obtain⟨u,hu,h6⟩:=allF_mem.1 h1
   exact⟨t,h3,h4,h5,u,hu,by rw[h6]⟩
  have hNm:∀x,x∈(linksF l).map (·.c0)↔∃t∈l,t.c1=x∧x≠-1:=by
   intro x
   rw[List.mem_map]
   constructor
   ·rintro⟨z,hz,rfl⟩
    obtain⟨t,ht,hn,rfl⟩:=linksF_mem.1 hz
    exact⟨t,ht,rfl,hn⟩
   ·rintro⟨t,ht,rfl,hn⟩
    exact⟨_,linksF_mem.2 ⟨t,ht,hn,rfl⟩,rfl⟩
  have hAN:((allF l).filter fun e=>(aheadT l e.c0).isSome).map (·.c0)⊆(linksF l).map (·.c0):=fun x hx=>by
   obtain⟨t,ht,h1,h2,_⟩:=hAm x hx
   exact(hNm x).2 ⟨t,ht,h1,h2⟩
  constructor
  ·intro hc t ht hn
   by_cases hin:t.c1∈((allF l).filter fun e=>(aheadT l e.c0).isSome).map (·.c0)
   ·obtain⟨_,_,_,_,h6⟩:=hAm _ hin
    exact h6
   ·have h1:(t.c1::((allF l).filter fun e=>(aheadT l e.c0).isSome).map (·.c0)).Nodup:=List.nodup_cons.2 ⟨hin,hA⟩
    have h2:=h1.length_le_of_subset (l₂:=(linksF l).map (·.c0)) (fun x hx=>by
     rcases List.mem_cons.1 hx with rfl|hx
     ·exact(hNm _).2 ⟨t,ht,rfl,hn⟩
     ·exact hAN hx)
    simp only[List.length_cons,List.length_map] at h2
    omega
  ·intro him
   have h1:=hA.length_le_of_subset hAN
   have h2:=hN.length_le_of_subset (l₂:=((allF l).filter fun e=>(aheadT l e.c0).isSome).map (·.c0)) (fun x hx=>by
    obtain⟨t,ht,rfl,hn⟩:=(hNm x).1 hx
    obtain⟨u,hu,h3⟩:=him t ht hn
    refine List.mem_map.2 ⟨⟨u.c0,0,0,0,0⟩,List.mem_filter.2 ⟨allF_mem.2 ⟨u,hu,rfl⟩,?_⟩,h3⟩
    show(aheadT l u.c0).isSome=true
    rw[h3,aheadT_some h ht hn];rfl)
   simp only[List.length_map] at h1 h2
   omega
 constructor
 ·intro he
  obtain⟨h1,h2,h3,h4⟩:=errB_none he
  have hp:=pre_iff.2 ⟨h1,h2,h3⟩
  exact{hp with im:=(hcnt hp).1 h4}
 ·intro h
  obtain⟨h1,h2,h3⟩:=pre_iff.1 h.toPreL
  unfold errB
  rw[h1,h2,h3,if_pos ((hcnt h.toPreL).2 h.im)]
  rfl
end Go.Proofs.YtammjnjpheobaaaGreat
