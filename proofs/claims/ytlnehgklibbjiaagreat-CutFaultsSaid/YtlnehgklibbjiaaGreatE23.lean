/-
  Parts of the proof, put together: Cut2, Rws, Ref03, Gr, Labels, Ref20. No condition.
-/
import Derived.Test.YtlnehgklibbjiaaGreatE22
set_option linter.unusedVariables false
set_option linter.unusedSimpArgs false
set_option linter.unnecessarySimpa false
set_option maxHeartbeats 4000000
namespace Go.Proofs.YtlnehgklibbjiaaGreat
open Go.SL Go.Spc Go.Tup Go.Srt
def toldF (ets bts:List T5):List T5:=ets.map (lookF bts 0 1 3)
def endsL (ets bts:List T5):List T5:=endsM.all () (toldF ets bts)
def endsF (ets bts:List T5):List T5:=srt (ltO o12) true (endsL ets bts)
def cutsL (es:List T5):List T5:=(cutM 0 0).all (-1,false) es
def markL (es:List T5):List T5:=es.map (lookF (cutsL es) 0 1 2)
def cutsF (ets bts:List T5):List T5:=(markL (endsF ets bts)).filterMap markF
theorem cutM_all (a b a' b':Nat):∀(ts:List T5) (k:Int×Bool),(cutM a b).all k ts=(cutM a' b').all k ts
 |[],_=>rfl
 |t::ts,k=>by simp only[Maker.all];rw[show(cutM a b).next k t=(cutM a' b').next k t from rfl,cutM_all a b a' b' ts];rfl
theorem cutM_len (a b:Nat) (k:Int×Bool) (t:T5):((cutM a b).outs k t).length≤1:=by
 unfold cutM;dsimp only;split
 ·split<;>simp
 ·simp
theorem endsM_C (k:Unit):endsM.C k=[]:=rfl
theorem endsM_len (k:Unit) (t:T5):(endsM.outs k t).length≤2:=by
 unfold endsM;dsimp only;split<;>simp
theorem endsM_mem:∀{ts:List T5} {k:Unit} {z:T5},z∈endsM.all k ts↔∃t∈ts,t.c3≠-1∧(z=⟨t.c1,t.c3,0,0,0⟩∨z=⟨t.c2,t.c3,0,0,0⟩)
 |[],_,z=>by simp[Maker.all]
 |t::ts,k,z=>by
  simp only[Maker.all,List.mem_append,endsM_mem (ts:=ts),List.mem_cons]
  unfold endsM;dsimp only
  by_cases h:t.c3= -1
  ·rw[if_pos h]
   simp only[List.not_mem_nil,false_or]
   constructor
   ·rintro⟨u,hu,h1⟩;exact⟨u,.inr hu,h1⟩
   ·rintro⟨u,rfl|hu,h1⟩
    ·exact(h1.1 h).elim
    ·exact⟨u,hu,h1⟩
  ·rw[if_neg h]
   simp only[List.mem_cons,List.not_mem_nil,or_false]
   constructor
   ·rintro(h1|⟨u,hu,h1⟩)
    ·exact⟨t,.inl rfl,h,h1⟩
    ·exact⟨u,.inr hu,h1⟩
   ·rintro⟨u,rfl|hu,h1⟩
    ·exact .inl h1.2
    ·exact .inr ⟨u,hu,h1⟩
theorem cutM_rise:∀{ts:List T5} {k:Int×Bool},ts.Pairwise (fun a c=>a.c0≤c.c0)→(∀t∈ts,k.1≤t.c0)→
  ((cutM 0 0).all k ts).Pairwise (fun a c=>a.c0<c.c0)∧∀z∈(cutM 0 0).all k ts,k.1≤z.c0∧(k.2=true→k.1<z.c0)
 |[],_,_,_=>⟨.nil,by simp[Maker.all]⟩
 |t::ts,(l,m),hp,hk=>by
  rw[List.pairwise_cons] at hp
  have h0:=hk t List.mem_cons_self
  dsimp only at h0 hk⊢
  obtain⟨h1,h2⟩:=cutM_rise (ts:=ts) (k:=(cutM 0 0).next (l,m) t) hp.2 (fun u hu=>hp.1 u hu)
  simp only[Maker.all]
  have hn:(cutM 0 0).next (l,m) t=(t.c0,if t.c0=l then true else false):=rfl
  have ho:(cutM 0 0).outs (l,m) t=if t.c0=l then(if m then[] else[⟨t.c0,1,0,0,0⟩]) else[]:=rfl
  rw[hn] at h1 h2
  rw[hn,ho]
  dsimp only at h2
  by_cases hl:t.c0=l
  ·rw[if_pos hl] at h1 h2⊢
   simp only[forall_const] at h2
   cases m with
   |true=>
    rw[if_pos hl]
    simp only[if_true,List.nil_append]
    exact⟨h1,fun z hz=>⟨by have:=h2 z hz;omega,fun _=>by have:=h2 z hz;omega⟩⟩
   |false=>
    rw[if_pos hl]
    simp only[Bool.false_eq_true,if_false,List.singleton_append,List.pairwise_cons,List.mem_cons]
    refine⟨⟨fun z hz=>(h2 z hz).2,h1⟩,?_⟩
    rintro z (rfl|hz)
    ·exact⟨by dsimp only;omega,fun h=>by cases h⟩
    ·exact⟨by have:=h2 z hz;omega,fun h=>by cases h⟩
  ·rw[if_neg hl] at h1 h2⊢
   rw[if_neg hl]
   simp only[List.nil_append]
   exact⟨h1,fun z hz=>⟨by have:=h2 z hz;omega,fun _=>by have:=h2 z hz;omega⟩⟩
theorem cutM_ok:∀{ts:List T5} {k:Int×Bool},(∀t∈ts,inI64 t.c0)→∀z∈(cutM 0 0).all k ts,okT 2 z
 |[],_,_,z,hz=>by simp[Maker.all] at hz
 |t::ts,k,h,z,hz=>by
  simp only[Maker.all,List.mem_append] at hz
  rcases hz with hz|hz
  ·unfold cutM at hz;dsimp only at hz
   split at hz
   ·split at hz
    ·simp at hz
    ·simp only[List.mem_singleton] at hz;subst hz
     exact okT2 (h t List.mem_cons_self) in_1
   ·simp at hz
  ·exact cutM_ok (fun u hu=>h u (List.mem_cons_of_mem _ hu)) z hz
theorem Cuts_width (lf tf:Fl) (hw:¬(lf.width=3∧tf.width=2)) (x:Value):CtQ Tryz.prog 32 [x,flv lf,flv tf] [] (.tuple #[flv ⟨0,0,0,0⟩,.int .i64 1]):=by
 have hflv:∀f:Fl,flv f= .agg #[.int .i64 (f.first:Int),.int .i64 (f.blocks:Int),.int .i64 (f.width:Int),.int .i64 (f.count:Int)]:=fun _=>rfl
 rw[hflv,hflv]
 by_cases h2:lf.width=3
 ·have h5:tf.width≠2:=fun h=>hw ⟨h2,h⟩
  refine Ct.intro Tryz.func32 rfl Tryz.ntmps32 (nle rfl) fun w0=> ?_;dsimp only[argSlots,Nat.reduceAdd]
  repeat(refine st ?_;intros)
  (refine Dn.post (Hr:=[]) Tryz.results32 (hR:= ?_);exact⟨rfl,rfl⟩)
 ·refine Ct.intro Tryz.func32 rfl Tryz.ntmps32 (nle rfl) fun w0=> ?_;dsimp only[argSlots,Nat.reduceAdd]
  repeat(refine st ?_;intros)
  (refine Dn.post (Hr:=[]) Tryz.results32 (hR:= ?_);exact⟨rfl,rfl⟩)
theorem Cuts_nil (lf tf:Fl) (hw3:lf.width=3) (hw2:tf.width=2):CtQ Tryz.prog 32 [.pointer none,flv lf,flv tf] [] (.tuple #[flv ⟨0,0,0,0⟩,.int .i64 1]):=by
 have hflv:∀f:Fl,flv f= .agg #[.int .i64 (f.first:Int),.int .i64 (f.blocks:Int),.int .i64 (f.width:Int),.int .i64 (f.count:Int)]:=fun _=>rfl
 rw[hflv,hflv]
 refine Ct.intro Tryz.func32 rfl Tryz.ntmps32 (nle rfl) fun w0=> ?_;dsimp only[argSlots,Nat.reduceAdd]
 repeat(refine st ?_;intros)
 refine R.call (hct:=Begin_nil _) (h:= ?_)
 rintro _ _ ⟨rfl,rfl⟩
 try dsimp only[List.cons_append,List.nil_append]
 repeat(refine st ?_;intros)
 (refine Dn.post (Hr:=[]) Tryz.results32 (hR:= ?_);exact⟨rfl,rfl⟩)
theorem Cuts_arg (bw bd ba bs:Nat) (cd ca cs:Chunk) (lf tf:Fl) (hw3:lf.width=3) (hw2:tf.width=2) (hR:CtQ Tryz.prog 50 [pv bw,flv lf] [wrow bw bd ba bs,cd,ca,cs] (.tuple #[.pointer none,.int .i64 1])):
  CtQ Tryz.prog 32 [pv bw,flv lf,flv tf] [wrow bw bd ba bs,cd,ca,cs] (.tuple #[flv ⟨0,0,0,0⟩,.int .i64 1]):=by
 have hflv:∀f:Fl,flv f= .agg #[.int .i64 (f.first:Int),.int .i64 (f.blocks:Int),.int .i64 (f.width:Int),.int .i64 (f.count:Int)]:=fun _=>rfl
 have hB:=fun b=>Begin_arg bw bd ba bs cd ca cs b 2 2 _ _ _ _ (fl4 lf++fl4 tf) rfl (by omega) (by omega) hR
 simp only[fl4,List.cons_append,List.nil_append] at hB
 rw[hflv,hflv]
 refine Ct.intro Tryz.func32 rfl Tryz.ntmps32 (nle rfl) fun w0=> ?_;dsimp only[argSlots,Nat.reduceAdd]
 repeat(refine st ?_;intros)
 refine R.call (hct:=hB _) (h:= ?_)
 rintro _ _ ⟨rfl,rfl⟩
 try dsimp only[List.cons_append,List.nil_append]
 repeat(refine st ?_;intros)
 (refine Dn.post (Hr:=[wrow bw bd ba bs,cd,ca,cs]) Tryz.results32 (hR:= ?_);exact⟨rfl,rfl⟩)
theorem Cuts_ct (bw bd ba bs:Nat) (W:Wk) (cd ca cs:Chunk) (h:Wc bd ba bs W cd ca cs) (lf tf:Fl) (ets bts:List T5) (hl:FileIn W (lf,ets)) (ht:FileIn W (tf,bts)) (hw3:lf.width=3) (hw2:tf.width=2)
  (hsort:ets.Pairwise fun a c=>a.c0≤c.c0) (hpos:∀t∈ets,-1≤t.c1∧-1≤t.c2) (hrise:bts.Pairwise fun a c=>a.c0<c.c0) (N:Nat) (hN:lf.count+tf.count+1≤N) (hNb:N≤400) (hroom:9*N+sortT (2*N)≤big W.σ.free) (hac:W.δ.acts≤1000000):
  Ct Tryz.prog 32 [pv bw,flv lf,flv tf] [wrow bw bd ba bs,cd,ca,cs] (LayerQ bw bd ba bs W cd cs 45000 (9*N+sortT (2*N)) none (cutsF ets bts) 2):=by
 have hflv:∀f:Fl,flv f= .agg #[.int .i64 (f.first:Int),.int .i64 (f.blocks:Int),.int .i64 (f.width:Int),.int .i64 (f.count:Int)]:=fun _=>rfl
 have hfl4:∀f:Fl,fl4 f=[.int .i64 (f.first:Int),.int .i64 (f.blocks:Int),.int .i64 (f.width:Int),.int .i64 (f.count:Int)]:=fun _=>rfl
 have hz:flv ⟨0,0,0,0⟩= .agg #[.int .i64 0,.int .i64 0,.int .i64 0,.int .i64 0]:=rfl
 have ho12:tv o12= .agg #[.int .i64 1,.int .i64 2,.int .i64 0,.int .i64 0,.int .i64 0]:=rfl
 have hB:=fun b=>Begin_ct bw bd ba bs W cd ca cs h [(lf,ets),(tf,bts)] (by simp only[List.mem_cons,List.not_mem_nil,or_false];rintro x (rfl|rfl);exact hl;exact ht) (by simp) (some ⟨b,0,none⟩) 2 _ (vec2 b lf tf)
 simp only[hfl4,List.cons_append,List.nil_append] at hB
 rw[hflv,hflv]
 refine Ct.intro Tryz.func32 rfl Tryz.ntmps32 (nle rfl) fun w0=> ?_;dsimp only[argSlots,Nat.reduceAdd]
 repeat(refine st ?_;intros)
 refine R.call (hct:=hB _) (h:= ?_)
 rintro _ _ ⟨ca1,α1,hW1,hg1,hr1,⟨hroom8,bj,rfl,rfl⟩|⟨hsmall,rfl,rfl⟩⟩
 rotate_left
 ·dsimp only[List.cons_append,List.nil_append]
  repeat(refine st ?_;intros)
  (refine Dn.post (Hr:=[wrow bw bd ba bs,cd,ca1,cs]) Tryz.results32 (hR:= ?_);exact .inr ⟨hsmall,rfl,ca1,α1,rfl,hW1,hg1,hr1⟩)
 dsimp only[List.cons_append,List.nil_append]
 obtain⟨hp,hJ⟩:=begun_job (bj:=bj) h hW1 hg1 hr1 hroom8
 have hl0:In0 (begP bw bd ba bs bj W) (lf,ets):=begun_in0 hl
 have ht0:In0 (begP bw bd ba bs bj W) (tf,bts):=begun_in0 ht
 have hb0:(begP bw bd ba bs bj W).b0=big W.σ.free:=rfl
 have hbj:(begP bw bd ba bs bj W).bj=bj:=rfl
 obtain⟨hs8,_⟩:=hp.size
 have hnb:∀{k n m:Nat},1≤k→k≤5→n≤m→nblocks (begP bw bd ba bs bj W).size k n≤m:=fun h1 h2 h3=>Nat.le_trans (nb_le hs8 h1 h2) h3
 obtain⟨hlc,hlfit,hlb,_,_⟩:=in0file hl0
 obtain⟨htc,htfit,htb,_,_⟩:=in0file ht0
 dsimp only at hlc hlfit hlb htc htfit htb
 rw[hw3] at hlfit hlb
 rw[hw2] at htfit htb
 have hlbN:lf.blocks≤N:=by rw[hlb];exact hnb (by omega) (by omega) (by omega)
 have htbN:tf.blocks≤N:=by rw[htb];exact hnb (by omega) (by omega) (by omega)
 have htok:∀t∈toldF ets bts,okT 4 t:=by
  intro t hm
  obtain⟨u,hu,rfl⟩:=List.mem_map.1 hm
  have:=lookF_ok htfit 0 1 3 (by omega) (hlfit u hu)
  exact this
 have htl:(toldF ets bts).length=lf.count:=by unfold toldF;rw[List.length_map];exact hlc
 have heok:∀t∈endsL ets bts,okT 2 t:=by
  intro t hm
  obtain⟨u,hu,_,hq⟩:=endsM_mem.1 hm
  have hi:=okT_cols (htok u hu)
  rcases hq with rfl|rfl
  ·exact okT2 hi.2.1 hi.2.2.2.1
  ·exact okT2 hi.2.2.1 hi.2.2.2.1
 have hell:(endsL ets bts).length≤2*lf.count:=by
  have:=Maker.all_len (M:=endsM) endsM_len (toldF ets bts) ()
  unfold endsL
  omega
 have hEok:∀t∈endsF ets bts,okT 2 t:=fun t hm=>heok t (srt_sub hm)
 have hEl:(endsF ets bts).length≤2*lf.count:=Nat.le_trans (len_srt _) hell
 have hEs:(endsF ets bts).Pairwise fun a c=>a.c0≤c.c0:=(srt_o12 true _).imp fun {a b} h=>by omega
 have hR1:=fun b8 b4 b5=>JRunK _ hp _ _ hJ 58 inferInstance [pv b8,pv b4,pv b5] (lookH bj b8 b4 b5 lf tf) 5000 N none (toldF ets bts) (LookR (begP bw bd ba bs bj W) lf 4) (fun h0=>
  look1step (begP bw bd ba bs bj W) hp _ h0 lf tf ets bts (.inr hl0) (.inr ht0) (by omega) (by omega) hw3 hw2 hsort hrise 5000 N (hnb (by omega) (by omega) (by omega)) (.inr (by dsimp only;omega)) (by omega) (by dsimp only;omega) b8 b4 b5) (by simp)
 have hR1:=fun b8 b4 b5=>Ct.convP (H:=[jrow bj bw 0 none 0 0,wrow bw bd ba bs,cd,ca1,cs]++lookH bj b8 b4 b5 lf tf) (hR1 b8 b4 b5) (by
  rw[List.flatten_append]
  refine((jobC_open (p:=begP bw bd ba bs bj W) (e:=0) (cd:=cd) (ca:=ca1) (cs:=cs)).append_right (lookH bj b8 b4 b5 lf tf).flatten).trans (List.Perm.of_eq ?_)
  simp only[List.flatten_cons,List.flatten_nil,List.append_nil]) (fun v H' hh=>⟨H',hh,.refl _⟩)
 simp only[lookH,hfl4,hbj,List.cons_append,List.nil_append] at hR1
 repeat(refine st ?_;intros)
 refine R.callX (hct:=hR1 _ _ _) (h:= ?_)
 rintro _ _ ⟨f1,C1,e1,rfl,rfl,hJ1,hx1⟩
 dsimp only[List.cons_append,List.nil_append]
 constructor
 ·(·(first|(intro _ _ h;cases h;done)|(repeat(first|exact qok_nil|(apply qok_cons;(·first|(intro hc;exact absurd hc (nmem rfl))|(intro _;apply CellPr.mk;(·repeat(first|exact Has.here|apply Has.there));(first|exact rfl|assumption))|(intro _;apply CellsPr.mk;(·repeat(first|exact Has.here|apply Has.there));(first|exact rfl|assumption))))))))
 have hx1:LookR (begP bw bd ba bs bj W) lf 4 f1 e1:=by
  rcases hx1 with⟨_,hx⟩|⟨hx,_⟩
  ·exact hx
  ·exact absurd rfl hx
 obtain⟨hc1,hb1,hx1⟩:=hx1
 rw[show(none:Option Nat).or none=none from rfl] at hJ1
 have hN1:f1.blocks≤N:=Nat.le_trans hb1 (hnb (by omega) (by omega) (by omega))
 have hwrap:IntKind.wrap .i64 (2*(f1.count:Int))=((2*f1.count:Nat):Int):=by rw[wrap_i64 (by omega)];omega
 have hM2:=fun b=>JMake1 _ hp _ C1 hJ1 endsM () (fun _ _=>rfl) 2 (2*f1.count) 2 5000 (2*N) (by omega) (by omega) (by omega) 60 inferInstance [] _ ends_mk (fun k t _=>endsM_len k t) (by omega) f1 _ (.inl List.mem_cons_self) (by omega)
  (Maker.oks_of (M:=endsM) (I:=fun _=>True) (Q:=okT 4) (fun _ t _ h=>⟨h,trivial⟩) _ () trivial htok) (fun h=>by
   have h1:=(hx1 h).2
   show(endsL ets bts).length≤_
   omega) (hnb (by omega) (by omega) (by omega)) (fun _=> .inr (by dsimp only;omega)) (by omega) (by dsimp only;omega) (by simp) b
 rw[show endsM.all () (toldF ets bts)=endsL ets bts from rfl] at hM2
 simp only[hfl4,endsM_C,hbj] at hM2
 rw[hflv]
 repeat(refine st ?_;intros)
 refine R.call (hct:=hM2 _) (h:= ?_)
 rintro _ _ ⟨f2,C2,e2,k2,rfl,rfl,hJ2,hx2,hc2,hb2⟩
 try dsimp only[List.cons_append,List.nil_append]
 try dsimp only at hJ2 hx2
 have hN2:f2.blocks≤2*N:=Nat.le_trans hb2 (hnb (by omega) (by omega) (by omega))
 have hS:=JSort _ hp _ C2 hJ2 f2 _ _ o12 rfl true 20000 (sortT (2*N)) (fun _=> .refl _) (fun _=>sortT_mono hN2) (fun _=> .inr (by dsimp only;omega)) (fun _=>sortA_small (by omega)) (by dsimp only;omega) (by omega)
 dsimp only at hS
 rw[hflv,hbj,show srt (ltO o12) true (endsL ets bts)=endsF ets bts from rfl] at hS
 rw[hflv]
 repeat(refine st ?_;intros)
 refine R.callX (hct:=hS) (h:= ?_)
 rintro _ _ ⟨f3,C3,e3,rfl,rfl,hJ3,hx3,hc3,hb3⟩
 dsimp only[List.cons_append,List.nil_append]
 constructor
 ·(·(first|(intro _ _ h;cases h;done)|(repeat(first|exact qok_nil|(apply qok_cons;(·first|(intro hc;exact absurd hc (nmem rfl))|(intro _;apply CellPr.mk;(·repeat(first|exact Has.here|apply Has.there));(first|exact rfl|assumption))|(intro _;apply CellsPr.mk;(·repeat(first|exact Has.here|apply Has.there));(first|exact rfl|assumption))))))))
 try dsimp only at hJ3 hx3
 rw[hflv]
 repeat(refine st ?_;intros)
 rename_i bl bm bq
 have hca:(cutM bl bm).all (-1,false) (endsF ets bts)=cutsL (endsF ets bts):=cutM_all bl bm 0 0 _ _
 have hcl:(cutsL (endsF ets bts)).length≤(endsF ets bts).length:=by
  have:=Maker.all_len (M:=cutM 0 0) (n:=1) (fun k t=>cutM_len 0 0 k t) (endsF ets bts) (-1,false)
  unfold cutsL;omega
 have hM4:=fun b=>JMake1 _ hp _ C3 hJ3 (cutM bl bm) (-1,false) (fun _ _=>rfl) 2 f3.count 1 5000 (2*N) (by omega) (by omega) (by omega) 61 inferInstance [pv bl,pv bm] _ (cut_mk bl bm) (fun k t _=>cutM_len bl bm k t) (by omega) f3 _ (.inl List.mem_cons_self) (by omega)
  (Maker.oks_of (M:=cutM bl bm) (I:=fun _=>True) (Q:=okT 2) (fun _ t _ h=>⟨h,trivial⟩) _ (-1,false) trivial hEok) (fun h=>by
   have h1:=(hx3 h).2.2
   rw[hca];omega) (hnb (by omega) (by omega) (by omega)) (fun _=> .inr (by dsimp only;omega)) (by omega) (by dsimp only;omega) (by simp) b
 rw[hca] at hM4
 simp only[hfl4,cutM_C,hbj] at hM4
 refine R.callX (hct:=hM4 _) (h:= ?_)
 rintro _ _ ⟨f4,C4,e4,k4,rfl,rfl,hJ4,hx4,hc4,hb4⟩
 dsimp only[List.cons_append,List.nil_append]
 constructor
 ·(·(first|(intro _ _ h;cases h;done)|(repeat(first|exact qok_nil|(apply qok_cons;(·first|(intro hc;exact absurd hc (nmem rfl))|(intro _;apply CellPr.mk;(·repeat(first|exact Has.here|apply Has.there));(first|exact rfl|assumption))|(intro _;apply CellsPr.mk;(·repeat(first|exact Has.here|apply Has.there));(first|exact rfl|assumption))))))))
 try dsimp only at hJ4 hx4
 rw[hflv]
 have hcut:(cutsL (endsF ets bts)).Pairwise fun a c=>a.c0<c.c0:=(cutM_rise hEs fun t ht=>by
  obtain⟨u,hu,_,hq⟩:=endsM_mem.1 (srt_sub ht)
  obtain⟨x,hx,rfl⟩:=List.mem_map.1 hu
  have h1:=hpos x hx
  have e1:(lookF bts 0 1 3 x).c1=x.c1:=rfl
  have e2:(lookF bts 0 1 3 x).c2=x.c2:=rfl
  rcases hq with rfl|rfl
  ·dsimp only;omega
  ·dsimp only;omega).1
 have hcok:∀t∈cutsL (endsF ets bts),okT 2 t:=cutM_ok fun t ht=>(okT_cols (hEok t ht)).1
 have hN4:f4.blocks≤2*N:=Nat.le_trans hb4 (hnb (by omega) (by omega) (by omega))
 have hR5:=fun b8 b4 b5=>JRunK _ hp _ _ hJ4 62 inferInstance [pv b8,pv b4,pv b5] (lookH bj b8 b4 b5 f3 f4) 5000 (2*N) none (markL (endsF ets bts)) (LookR (begP bw bd ba bs bj W) f3 3) (fun h0=>by
  obtain⟨h3,_,hw4,hct4⟩:=hx4 h0
  obtain⟨h2,hw,hct3⟩:=hx3 h3
  obtain⟨_,_,hw2',_⟩:=hx2 h2
  exact look4step (begP bw bd ba bs bj W) hp _ h0 f3 f4 (endsF ets bts) (cutsL (endsF ets bts)) (.inl (List.mem_cons_of_mem _ List.mem_cons_self)) (.inl List.mem_cons_self) (by omega) (by omega) (hw.trans hw2') hw4 hEs hcut 5000 (2*N) (hnb (by omega) (by omega) (by omega)) (.inr (by dsimp only;omega)) (by omega) (by dsimp only;omega) b8 b4 b5) (by simp)
 simp only[lookH,hfl4,hbj] at hR5
 repeat(refine st ?_;intros)
 refine R.callX (hct:=hR5 _ _ _) (h:= ?_)
 rintro _ _ ⟨f5,C5,e5,rfl,rfl,hJ5,hx5⟩
 dsimp only[List.cons_append,List.nil_append]
 constructor
 ·(·(first|(intro _ _ h;cases h;done)|(repeat(first|exact qok_nil|(apply qok_cons;(·first|(intro hc;exact absurd hc (nmem rfl))|(intro _;apply CellPr.mk;(·repeat(first|exact Has.here|apply Has.there));(first|exact rfl|assumption))|(intro _;apply CellsPr.mk;(·repeat(first|exact Has.here|apply Has.there));(first|exact rfl|assumption))))))))
 rw[show(none:Option Nat).or none=none from rfl] at hJ5
 try dsimp only at hJ5 hx5
 have hx5:(e5=0→e4=0∧f5.width=3∧f5.count=f3.count)∧f5.count≤2*N∧f5.blocks≤2*N:=by
  rcases hx5 with⟨h4,q1,q2,q3⟩|⟨h4,q1,rfl⟩
  ·exact⟨fun h=>⟨h4,q3 h⟩,by omega,Nat.le_trans q2 (hnb (by omega) (by omega) (by omega))⟩
  ·exact⟨fun h=>absurd (q1▸h) h4,Nat.zero_le _,Nat.zero_le _⟩
 obtain⟨hx5,hc5,hb5⟩:=hx5
 have hmok:∀t∈markL (endsF ets bts),okT 3 t:=by
  intro t hm
  obtain⟨u,hu,rfl⟩:=List.mem_map.1 hm
  exact lookF_ok hcok 0 1 2 (by omega) (hEok u hu)
 have hfm:(mOpt markF).all () (markL (endsF ets bts))=cutsF ets bts:=mOpt_all markF _ _
 have hfl:(cutsF ets bts).length≤(endsF ets bts).length:=by
  have h1:=List.length_filterMap_le markF (markL (endsF ets bts))
  have h2:(markL (endsF ets bts)).length=(endsF ets bts).length:=by unfold markL;rw[List.length_map]
  unfold cutsF;omega
 have hM6:=fun b=>JMake1 _ hp _ C5 hJ5 (mOpt markF) () (fun _ _=>rfl) 2 f5.count 1 5000 (2*N) (by omega) (by omega) (by omega) 63 inferInstance [] _ mark_mk (fun k t _=>by
   unfold mOpt;dsimp only
   cases markF t<;>simp) (by omega) f5 _ (.inl List.mem_cons_self) (by omega)
  (Maker.oks_of (M:=mOpt markF) (I:=fun _=>True) (Q:=okT 3) (fun _ t _ h=>⟨h,trivial⟩) _ () trivial hmok) (fun h=>by
   obtain⟨h4,_,q⟩:=hx5 h
   obtain⟨_,_,q3⟩:=hx3 (hx4 h4).1
   rw[hfm];omega) (hnb (by omega) (by omega) (by omega)) (fun _=> .inr (by dsimp only;omega)) (by omega) (by dsimp only;omega) (by simp) b
 rw[hfm] at hM6
 simp only[hfl4,hbj,show∀k,(mOpt markF).C k=[] from fun _=>rfl] at hM6
 rw[hflv]
 repeat(refine st ?_;intros)
 refine R.callX (hct:=hM6 _) (h:= ?_)
 rintro _ _ ⟨f6,C6,e6,k6,rfl,rfl,hJ6,hx6,hc6,hb6⟩
 dsimp only[List.cons_append,List.nil_append]
 constructor
 ·(·(first|(intro _ _ h;cases h;done)|(repeat(first|exact qok_nil|(apply qok_cons;(·first|(intro hc;exact absurd hc (nmem rfl))|(intro _;apply CellPr.mk;(·repeat(first|exact Has.here|apply Has.there));(first|exact rfl|assumption))|(intro _;apply CellsPr.mk;(·repeat(first|exact Has.here|apply Has.there));(first|exact rfl|assumption))))))))
 try dsimp only at hJ6 hx6
 rw[hflv]
 have hRs:=fun b=>JResult1 _ hp _ C6 hJ6 f6 b
 simp only[hfl4,hbj] at hRs
 repeat(refine st ?_;intros)
 refine R.call (hct:=hRs _) (h:= ?_)
 rintro _ _ ⟨cd5,ca5,cs5,W5,rfl,rfl,hW5,hD⟩
 try dsimp only[List.cons_append,List.nil_append]
 have hSt:=done_stepped (A:=45000) (T:=9*N+sortT (2*N)) hD rfl (by dsimp only;omega) (by dsimp only;omega)
 dsimp only at hSt
 by_cases he:e6=0
 ·subst he
  rw[if_pos rfl] at hSt
  repeat(refine st ?_;intros)
  (refine Dn.post (Hr:=[wrow bw bd ba bs,cd5,ca5,cs5]) Tryz.results32 (hR:= ?_);exact .inl ⟨hroom8,f6,0,cd5,ca5,cs5,W5,rfl,rfl,hW5,hSt,fun _=>(hx6 rfl).2.2.1⟩)
 ·rw[if_neg he] at hSt
  repeat(refine st ?_;intros)
  (refine Dn.post (Hr:=[wrow bw bd ba bs,cd5,ca5,cs5]) Tryz.results32 (hR:= ?_);exact .inl ⟨hroom8,⟨0,0,0,0⟩,e6,cd5,ca5,cs5,W5,rfl,rfl,hW5,hSt,fun h=>absurd h he⟩)
end Go.Proofs.YtlnehgklibbjiaaGreat
namespace Go.Proofs.YtlnehgklibbjiaaGreat
open Go.SL Go.Tup
section
variable {α:Type} {f:α→List Value} {k:Nat}
theorem fm_len (hf:∀a,(f a).length=k):∀l:List α,(l.flatMap f).length=l.length*k
 |[]=>by simp
 |a::l=>by rw[List.flatMap_cons,List.length_append,hf,fm_len hf l,List.length_cons,Nat.succ_mul];omega
theorem fm_drop (hf:∀a,(f a).length=k):∀(l:List α) (i:Nat),(l.flatMap f).drop (i*k)=(l.drop i).flatMap f
 |[],i=>by simp
 |a::l,0=>by simp
 |a::l,i+1=>by
  rw[List.flatMap_cons,List.drop_succ_cons,←fm_drop hf l i,show(i+1)*k=(f a).length+i*k by rw[hf,Nat.succ_mul];omega,List.drop_append]
  simp
theorem fm_cut (hf:∀a,(f a).length=k) {l:List α} {i:Nat} {a:α} (h:l[i]? =some a):((l.flatMap f).drop (i*k)).take k=f a:=by
 obtain⟨hi,rfl⟩:=List.getElem?_eq_some_iff.1 h
 rw[fm_drop hf,List.drop_eq_getElem_cons hi,List.flatMap_cons,List.take_left' (hf _)]
theorem fm_cutR (hf:∀a,(f a).length=k) {l:List α} {i:Nat} {a:α} (h:l[i]? =some a) (rest:List Value):((l.flatMap f++rest).drop (i*k)).take k=f a:=by
 obtain⟨hi,_⟩:=List.getElem?_eq_some_iff.1 h
 have hl:=fm_len hf l
 have h1:(i+1)*k≤l.length*k:=Nat.mul_le_mul_right _ hi
 rw[Nat.succ_mul] at h1
 rw[List.drop_append_of_le_length (by omega),List.take_append_of_le_length (by rw[List.length_drop];omega),fm_cut hf h]
theorem fm_get (hf:∀a,(f a).length=k) {l:List α} {i j:Nat} {a:α} {v:Value} (h:l[i]? =some a) (hj:(f a)[j]? =some v) (rest:List Value):(l.flatMap f++rest)[i*k+j]? =some v:=by
 have h1:=fm_cutR hf h rest
 have hjk:j<k:=by have:=(List.getElem?_eq_some_iff.1 hj).1;rw[hf] at this;exact this
 have h2:=congrArg (fun l=>l[j]?) h1
 simp only[List.getElem?_take,if_pos hjk,List.getElem?_drop] at h2
 rw[h2,hj]
theorem view_get {cs xs:List Value} {off m i:Nat} {v:Value} (h:(cs.drop off).take m=xs) (hv:xs[i]? =some v):cs[off+i]? =some v:=by
 rw[←h,List.getElem?_take] at hv
 split at hv
 ·rwa[List.getElem?_drop] at hv
 ·cases hv
theorem view_cut {cs xs vs:List Value} {off m i q:Nat} (h:(cs.drop off).take m=xs) (hv:(xs.drop i).take q=vs) (hq:vs.length=q):(cs.drop (off+i)).take q=vs:=by
 rw[←h,List.drop_take,List.drop_drop,List.take_take] at hv
 have h1:(vs.length:Nat)≤m-i:=by
  rw[←hv,List.length_take];omega
 rw[show min q (m-i)=q by omega] at hv
 exact hv
def Rw (f:α→List Value) (k:Nat) (p:Option Addr) (m:Nat) (xs:List α) (c:Chunk):Prop:=
 xs.length=m∧((m=0∧c=[])∨∃b off cs T fz,p=some ⟨b,off,none⟩∧c=[(b,rowf cs T fz)]∧(cs.drop off).take (m*k)=xs.flatMap f)
theorem Rw.pos (hf:∀a,(f a).length=k) {p:Option Addr} {m:Nat} {xs:List α} {c:Chunk} (h:Rw f k p m xs c) (hm:0<m):∃b off cs T fz,p=some ⟨b,off,none⟩∧c=[(b,rowf cs T fz)]∧
  (∀i a,xs[i]? =some a→(cs.drop (off+i*k)).take k=f a)∧∀i j a v,xs[i]? =some a→(f a)[j]? =some v→cs[off+i*k+j]? =some v:=by
 obtain⟨hl,⟨h0,_⟩|⟨b,off,cs,T,fz,rfl,rfl,h⟩⟩:=h
 ·omega
 ·refine⟨b,off,cs,T,fz,rfl,rfl,fun i a hi=>view_cut h (fm_cut hf hi) (hf a),fun i j a v hi hj=> ?_⟩
  have:=fm_get hf hi hj []
  rw[List.append_nil] at this
  rw[Nat.add_assoc]
  exact view_get h this
theorem Rw.ofVec (hf:∀a,(f a).length=k) {E:Nat} {p:Option Addr} {m cap:Nat} {xs:List α} {c:Chunk} (h:Vec E k p m cap (xs.flatMap f) c) (hk:0<k):Rw f k p m xs c:=by
 have hl:xs.length=m:=by have:=h.1;rw[fm_len hf] at this;exact Nat.eq_of_mul_eq_mul_right hk this
 rcases h.2 with⟨_,h0,_,hc⟩|⟨b,rest,hp,hc,_,_,_⟩
 ·exact⟨hl,.inl ⟨h0,hc⟩⟩
 ·refine⟨hl,.inr ⟨b,0,xs.flatMap f++rest,E,(0,0),hp,hc,?_⟩⟩
  rw[List.drop_zero,←h.1,List.take_left]
end
abbrev IE:=Int×Int
def ecl (e:IE):List Value:=[.int .i64 e.1,.int .i64 e.2]
def bcl (x:Bool):List Value:=[.bool x]
theorem ecl_len (e:IE):(ecl e).length=2:=rfl
theorem bcl_len (e:Bool):(bcl e).length=1:=rfl
theorem flat_fm:∀ts:List T5,flat ts=ts.flatMap tcells
 |[]=>rfl
 |t::ts=>by rw[List.flatMap_cons,←flat_fm ts];rfl
theorem tcells_len (t:T5):(tcells t).length=5:=rfl
theorem RV.rw {p:Option Addr} {n:Nat} {ts:List T5} {c:Chunk} (h:RV p n ts c):Rw tcells 5 p n ts c:=by
 obtain⟨h1,h2⟩:=h
 rw[flat_fm] at h2
 exact⟨h1,h2⟩
def gv (n:Int) (p:Option Addr) (m cap:Nat):Value:= .agg #[.int .i64 n,.slice p m cap]
def inE (n:Int) (e:IE):Prop:=0≤e.1∧e.1<n∧0≤e.2∧e.2<n
instance (n:Int) (e:IE):Decidable (inE n e):=by unfold inE;infer_instance
def formedB (n:Int) (es:List IE):Bool:=decide (0≤n∧n≤1073741824∧es.length≤1073741824)&&es.all fun e=>decide (inE n e)
theorem Formed03ct (n:Int) (p:Option Addr) (m cap:Nat) (es:List IE) (c:Chunk) (hv:Rw ecl 2 p m es c) (hm:m≤maxLen):
  CtQ Tryz.prog 18 [gv n p m cap] [c] (.bool (formedB n es)):=by
 have hl:=hv.1
 simp only[maxLen] at hm
 have hbad:∀i e,es[i]? =some e→¬inE n e→formedB n es=false:=fun i e hi he=>by
  unfold formedB
  rw[Bool.and_eq_false_iff]
  exact .inr (by simp only[List.all_eq_false,decide_eq_true_eq];exact⟨e,List.mem_of_getElem? hi,he⟩)
 unfold gv
 by_cases h1:n<0
 ·have hb:formedB n es=false:=by unfold formedB;rw[decide_eq_false (by omega)];rfl
  rw[hb]
  refine Ct.intro Tryz.func18 rfl Tryz.ntmps18 (nle rfl) fun w0=> ?_;dsimp only[argSlots,Nat.reduceAdd]
  repeat(refine st ?_;intros)
  (refine Dn.post (Hr:=[c]) Tryz.results18 (hR:= ?_);exact⟨rfl,rfl⟩)
 by_cases h2:1073741824<n
 ·have hb:formedB n es=false:=by unfold formedB;rw[decide_eq_false (by omega)];rfl
  rw[hb]
  refine Ct.intro Tryz.func18 rfl Tryz.ntmps18 (nle rfl) fun w0=> ?_;dsimp only[argSlots,Nat.reduceAdd]
  repeat(refine st ?_;intros)
  (refine Dn.post (Hr:=[c]) Tryz.results18 (hR:= ?_);exact⟨rfl,rfl⟩)
 by_cases h3:1073741824<m
 ·have hb:formedB n es=false:=by unfold formedB;rw[decide_eq_false (by omega)];rfl
  rw[hb]
  refine Ct.intro Tryz.func18 rfl Tryz.ntmps18 (nle rfl) fun w0=> ?_;dsimp only[argSlots,Nat.reduceAdd]
  repeat(refine st ?_;intros)
  (refine Dn.post (Hr:=[c]) Tryz.results18 (hR:= ?_);exact⟨rfl,rfl⟩)
 refine Ct.intro Tryz.func18 rfl Tryz.ntmps18 (nle rfl) fun w0=> ?_;dsimp only[argSlots,Nat.reduceAdd]
 repeat(refine st ?_;intros)
 rename_i b1
 refine G.loop (X:=Nat) (fun i=>i≤m∧∀j e,j<i→es[j]? =some e→inE n e)
  (fun i=>[(3,.int .i64 (i:Int)),(1,pv b1)])
  (fun _=>[[(b1,row [.int .i64 n,.slice p m cap] 37)],c]) (fun i=>m-i) 0 ⟨Nat.zero_le _,fun j e h=>by omega⟩ (body:= ?_)
 rintro i ⟨hi,hin⟩
 by_cases hlt:i<m
 ·obtain⟨b,off,cs,T,fz,rfl,rfl,hcut,hget⟩:=hv.pos ecl_len (by omega)
  have hie:es[i]? =some es[i]:=List.getElem?_eq_getElem (by omega)
  have hc:=hcut i _ hie
  have hno:=hbad i _ hie
  generalize he:es[i]=e at*
  obtain⟨u,v⟩:=e
  have hc':(cs.drop (off+i*2)).take 2=[.int .i64 u,.int .i64 v]:=hc
  by_cases g1:u<0
  ·rw[hno (by unfold inE;dsimp only;omega)]
   repeat(refine st ?_;intros)
   (refine Dn.post (Hr:=[[(b,rowf cs T fz)]]) Tryz.results18 (hR:= ?_);exact⟨rfl,rfl⟩)
  by_cases g2:n≤u
  ·rw[hno (by unfold inE;dsimp only;omega)]
   repeat(refine st ?_;intros)
   (refine Dn.post (Hr:=[[(b,rowf cs T fz)]]) Tryz.results18 (hR:= ?_);exact⟨rfl,rfl⟩)
  by_cases g3:v<0
  ·rw[hno (by unfold inE;dsimp only;omega)]
   repeat(refine st ?_;intros)
   (refine Dn.post (Hr:=[[(b,rowf cs T fz)]]) Tryz.results18 (hR:= ?_);exact⟨rfl,rfl⟩)
  by_cases g4:n≤v
  ·rw[hno (by unfold inE;dsimp only;omega)]
   repeat(refine st ?_;intros)
   (refine Dn.post (Hr:=[[(b,rowf cs T fz)]]) Tryz.results18 (hR:= ?_);exact⟨rfl,rfl⟩)
  repeat(refine st ?_;intros)
  refine Dn.round (i+1) ⟨by omega,fun j e hj hje=> ?_⟩ (by omega)
  by_cases hji:j=i
  ·subst hji
   rw[hie] at hje
   simp only[Option.some.injEq] at hje
   subst hje
   exact⟨by dsimp only;omega,by dsimp only;omega,by dsimp only;omega,by dsimp only;omega⟩
  ·exact hin j e (by omega) hje
 ·obtain rfl:i=m:=by omega
  have hb:formedB n es=true:=by
   unfold formedB
   rw[decide_eq_true (by omega),Bool.true_and,List.all_eq_true]
   intro e he
   obtain⟨j,hj,rfl⟩:=List.getElem_of_mem he
   exact decide_eq_true (hin j _ (by omega) (List.getElem?_eq_getElem hj))
  rw[hb]
  repeat(refine st ?_;intros)
  (refine Dn.post (Hr:=[c]) Tryz.results18 (hR:= ?_);exact⟨rfl,rfl⟩)
theorem Few03ct (n:Int) (p:Option Addr) (m cap:Nat) (a b:Int) (hm:m≤maxLen):CtQ Tryz.prog 19 [gv n p m cap,.int .i64 a,.int .i64 b] [] (.bool (dec (n≤a∧(m:Int)≤b))):=by
 simp only[maxLen] at hm
 unfold gv
 by_cases h1:n≤a
 ·by_cases h2:(m:Int)≤b
  ·rw[dec_true ⟨h1,h2⟩]
   refine Ct.intro Tryz.func19 rfl Tryz.ntmps19 (nle rfl) fun w0=> ?_;dsimp only[argSlots,Nat.reduceAdd]
   repeat(refine st ?_;intros)
   (refine Dn.post (Hr:=[]) Tryz.results19 (hR:= ?_);exact⟨congrArg Value.bool (dec_true h2),rfl⟩)
  ·rw[dec_false (by omega)]
   refine Ct.intro Tryz.func19 rfl Tryz.ntmps19 (nle rfl) fun w0=> ?_;dsimp only[argSlots,Nat.reduceAdd]
   repeat(refine st ?_;intros)
   (refine Dn.post (Hr:=[]) Tryz.results19 (hR:= ?_);exact⟨congrArg Value.bool (dec_false h2),rfl⟩)
 ·rw[dec_false (by omega)]
  refine Ct.intro Tryz.func19 rfl Tryz.ntmps19 (nle rfl) fun w0=> ?_;dsimp only[argSlots,Nat.reduceAdd]
  repeat(refine st ?_;intros)
  (refine Dn.post (Hr:=[]) Tryz.results19 (hR:= ?_);exact⟨rfl,rfl⟩)
end Go.Proofs.YtlnehgklibbjiaaGreat
namespace Go.Gr
abbrev Ed:=Nat×Nat
def Jn (g:Nat→Ed) (S:Nat→Prop) (x y:Nat):Prop:=∃i,S i∧((g i).1=x∧(g i).2=y∨(g i).1=y∧(g i).2=x)
inductive Cn (g:Nat→Ed) (S:Nat→Prop):Nat→Nat→Prop
 |refl (a:Nat):Cn g S a a
 |step {a b c:Nat}:Cn g S a b→Jn g S b c→Cn g S a c
variable {g:Nat→Ed} {S S':Nat→Prop}
theorem Jn.symm {x y:Nat} (h:Jn g S x y):Jn g S y x:=let ⟨i,h1,h2⟩:=h;⟨i,h1,h2.symm⟩
theorem Jn.mono {x y:Nat} (h:Jn g S x y) (hs:∀i,S i→S' i):Jn g S' x y:=let ⟨i,h1,h2⟩:=h;⟨i,hs i h1,h2⟩
theorem Cn.one {x y:Nat} (h:Jn g S x y):Cn g S x y:= .step (.refl x) h
theorem Cn.trans {a b c:Nat} (h:Cn g S a b) (h2:Cn g S b c):Cn g S a c:=by
 induction h2 with
 |refl=>exact h
 |step _ hj ih=>exact .step ih hj
theorem Cn.symm {a b:Nat} (h:Cn g S a b):Cn g S b a:=by
 induction h with
 |refl=>exact .refl _
 |step _ hj ih=>exact(Cn.one hj.symm).trans ih
theorem Cn.mono {a b:Nat} (h:Cn g S a b) (hs:∀i,S i→S' i):Cn g S' a b:=by
 induction h with
 |refl=>exact .refl _
 |step _ hj ih=>exact .step ih (hj.mono hs)
theorem Cn.edge {i:Nat} (h:S i):Cn g S (g i).1 (g i).2:= .one ⟨i,h,.inl ⟨rfl,rfl⟩⟩
theorem Cn.stay {a b:Nat} (h:Cn g S a b) {X:Nat→Prop} (ha:X a) (hx:∀i,S i→(X (g i).1↔X (g i).2)):X b:=by
 induction h with
 |refl=>exact ha
 |step _ hj ih=>
  obtain⟨i,h1,⟨rfl,rfl⟩|⟨rfl,rfl⟩⟩:=hj
  ·exact(hx i h1).1 ih
  ·exact(hx i h1).2 ih
end Go.Gr
namespace Go.Proofs.YtlnehgklibbjiaaGreat
open Go.SL Go.Tup Go.Gr
def gE (es:List IE) (i:Nat):Ed:=match es[i]? with
 |some e=>(e.1.toNat,e.2.toNat)
 |none=>(0,0)
def actE (es:List IE) (ob:List Bool) (w:Int) (i:Nat):Prop:=∃e,es[i]? =some e∧e.1≠w∧e.2≠w∧ob[i]?≠some true
def rcells (l:List Int):List Value:=l.map (Value.int .i64)
theorem rcells_get {l:List Int} {i:Nat} {x:Int} (h:l[i]? =some x):(rcells l)[i]? =some (.int .i64 x):=by unfold rcells;rw[List.getElem?_map,h];rfl
theorem rcells_set (l:List Int) (i:Nat) (x:Int):(rcells l).set i (.int .i64 x)=rcells (l.set i x):=by unfold rcells;rw[List.map_set]
structure LabIn (g:Nat→Ed) (S:Nat→Prop) (N:Nat) (w:Int) (l:List Int):Prop where
 len:l.length=N
 at_:∀v,v<N→(v:Int)≠w→∃x:Nat,l[v]? =some (x:Int)∧Cn g S v x∧x≤v∧(x:Int)≠w
 out:∀v,v<N→(v:Int)=w→l[v]? =some (-1)
structure LabOk (g:Nat→Ed) (S:Nat→Prop) (N:Nat) (w:Int) (l:List Int):Prop where
 len:l.length=N
 at_:∀v,v<N→(v:Int)≠w→∃x:Nat,l[v]? =some (x:Int)∧Cn g S v x∧x≤v∧∀u,Cn g S v u→x≤u
 out:∀v,v<N→(v:Int)=w→l[v]? =some (-1)
def isum (l:List Int):Nat:=(l.map Int.toNat).sum
theorem isum_set {l:List Int} {i:Nat} {x y:Int} (h:l[i]? =some x) (hy:y.toNat<x.toNat):isum (l.set i y)<isum l:=by
 obtain⟨hi,rfl⟩:=List.getElem?_eq_some_iff.1 h
 unfold isum
 have e1:l=l.take i++l[i]::l.drop (i+1):=by rw[←List.drop_eq_getElem_cons hi,List.take_append_drop]
 have e2:l.set i y=l.take i++y::l.drop (i+1):=by rw[List.set_eq_take_append_cons_drop,if_pos hi]
 rw[e2]
 conv=>rhs;rw[e1]
 simp only[List.map_append,List.map_cons,List.sum_append_nat,List.sum_cons]
 omega
theorem LabIn.done {g:Nat→Ed} {S:Nat→Prop} {N:Nat} {w:Int} {l:List Int} (h:LabIn g S N w l) (hs:∀i,S i→l[(g i).1]? =l[(g i).2]?):LabOk g S N w l:=by
 refine⟨h.len,fun v hv hw=> ?_,h.out⟩
 obtain⟨x,h1,h2,h3,_⟩:=h.at_ v hv hw
 refine⟨x,h1,h2,h3,fun u hu=> ?_⟩
 have h4:l[u]? =l[v]? :=hu.stay (X:=fun y=>l[y]? =l[v]?) rfl fun i hi=>by rw[hs i hi]
 rw[h1] at h4
 have hun:u<N:=by rw[←h.len];exact(List.getElem?_eq_some_iff.1 h4).1
 by_cases huw:(u:Int)=w
 ·have:=h.out u hun huw;rw[h4] at this;simp only[Option.some.injEq] at this;omega
 ·obtain⟨y,h5,_,h6,_⟩:=h.at_ u hun huw
  rw[h4] at h5;simp only[Option.some.injEq] at h5;omega
theorem LabIn.put {g:Nat→Ed} {S:Nat→Prop} {N:Nat} {w:Int} {l:List Int} (h:LabIn g S N w l) {a b:Nat} {x y:Nat} (ha:l[a]? =some (x:Int)) (hb:l[b]? =some (y:Int)) (hj:Cn g S b a) (hxy:x≤y) (haw:(a:Int)≠w) (hbw:(b:Int)≠w):LabIn g S N w (l.set b (x:Int)):=by
 have hbN:b<N:=by rw[←h.len];exact(List.getElem?_eq_some_iff.1 hb).1
 have haN:a<N:=by rw[←h.len];exact(List.getElem?_eq_some_iff.1 ha).1
 refine⟨by rw[List.length_set];exact h.len,fun v hv hw=> ?_,fun v hv hw=> ?_⟩
 ·by_cases hvb:v=b
  ·subst hvb
   obtain⟨x',h1,h2,h3,h4⟩:=h.at_ a haN haw
   obtain⟨y',g1,g2,g3,g4⟩:=h.at_ v hv hw
   rw[ha] at h1;rw[hb] at g1
   simp only[Option.some.injEq] at h1 g1
   obtain rfl:x=x':=by omega
   exact⟨x,by rw[List.getElem?_set_self (by rw[h.len];exact hv)],hj.trans h2,by omega,h4⟩
  ·obtain⟨x',h1,h2,h3⟩:=h.at_ v hv hw
   exact⟨x',by rw[List.getElem?_set_ne (Ne.symm hvb)];exact h1,h2,h3⟩
 ·have hvb:v≠b:=fun e=>hbw (e▸hw)
  rw[List.getElem?_set_ne (Ne.symm hvb)]
  exact h.out v hv hw
structure LabX where
 i:Nat
 l:List Int
 ch:Bool
theorem set_self' {l:List Int} {i:Nat} {x:Int} (h:l[i]? =some x):l.set i x=l:=by
 obtain⟨hi,rfl⟩:=List.getElem?_eq_some_iff.1 h
 exact List.set_getElem_self hi
def n0 (N:Nat):List Int:=(List.range N).map fun (v:Nat)=>(v:Int)
theorem n0len (N:Nat):(n0 N).length=N:=by simp[n0]
theorem n0get {N v:Nat} (h:v<N):(n0 N)[v]? =some (v:Int):=by simp[n0,h]
def nf (N i:Nat):List Int:=(n0 N).take i++List.replicate (N-i) 0
theorem nf_len (N i:Nat) (h:i≤N):(nf N i).length=N:=by simp[nf,n0len];omega
theorem nf_set (N i:Nat) (h:i<N):(nf N i).set i (i:Int)=nf N (i+1):=by
 unfold nf
 have hl:((n0 N).take i).length=i:=by simp[n0len];omega
 rw[List.set_append_right _ _ (by omega),hl,Nat.sub_self,show N-i=(N-(i+1))+1 by omega,List.replicate_succ,List.set_cons_zero,List.take_add_one,n0get h]
 simp
theorem nf_all (N:Nat):nf N N=n0 N:=by simp[nf,n0len,List.take_of_length_le]
theorem zrep_nf:∀N,zrep N [Value.int .i64 0]=rcells (nf N 0)
 |0=>rfl
 |N+1=>by
  have:=zrep_nf N
  unfold nf rcells at this⊢
  simp only[List.take_zero,List.nil_append,Nat.sub_zero] at this⊢
  rw[List.replicate_succ,List.map_cons,←this];rfl
theorem n0in (g:Nat→Ed) (S:Nat→Prop) (N:Nat) (w:Int) (hw:¬(0≤w∧w<N)):LabIn g S N w (n0 N):=
 ⟨n0len N,fun v hv hvw=>⟨v,n0get hv,.refl _,Nat.le_refl _,hvw⟩,fun v hv h=>absurd ⟨by omega,by omega⟩ hw⟩
theorem n0inW (g:Nat→Ed) (S:Nat→Prop) (N w:Nat) (hw:w<N):LabIn g S N w ((n0 N).set w (-1)):=
 ⟨by rw[List.length_set];exact n0len N,fun v hv hvw=>⟨v,by rw[List.getElem?_set_ne (by omega)];exact n0get hv,.refl _,Nat.le_refl _,hvw⟩,
  fun v hv h=>by
   obtain rfl:v=w:=by omega
   rw[List.getElem?_set_self (by rw[n0len];exact hv)]⟩
theorem Labels_ct (N:Nat) (hN:N≤1000000) (p:Option Addr) (m cap:Nat) (es:List IE) (c:Chunk) (hv:Rw ecl 2 p m es c) (hm:m≤1000000) (hf:∀e∈es,inE N e) (po:Option Addr) (ko capo:Nat) (ob:List Bool) (co:Chunk) (hvo:Rw bcl 1 po ko ob co) (hko:ko≤1000000) (w:Int):
  Ct Tryz.prog 31 [gv N p m cap,.slice po ko capo,.int .i64 w] [c,co] fun v H'=>∃bl l,v= .slice (some ⟨bl,0,none⟩) N N∧H'=[c,co,[(bl,row (rcells l) 3)]]∧LabOk (gE es) (actE es ob w) N w l:=by
 have hl:=hv.1
 have hlo:=hvo.1
 have hmx:∀x:Nat,x≤1000000→(x:Int)≤9223372036854775807:=fun x h=>by omega
 unfold gv
 refine Ct.intro Tryz.func31 rfl Tryz.ntmps31 (nle rfl) fun w0=> ?_;dsimp only[argSlots,Nat.reduceAdd]
 repeat(first|(refine st ?_;intros)|refine G.draw [] (h:= ?_))
 rename_i b3 bl
 rw[zrep_nf]
 refine G.loop (X:=Nat) (fun i=>i≤N) (fun i=>[(8,.int .i64 (i:Int)),(7,.slice (some ⟨bl,0,none⟩) N N),(3,pv b3),(1,.slice po ko capo),(2,.int .i64 w)])
  (fun i=>[[(bl,row (rcells (nf N i)) 3)],[(b3,row [.int .i64 (N:Int),.slice p m cap] 37)],c,co]) (fun i=>N-i) 0 (Nat.zero_le _) (body:= ?_)
 intro i hi
 by_cases hlt:i<N
 ·have hset:(rcells (nf N i)).set i (.int .i64 (i:Int))=rcells (nf N (i+1)):=by rw[rcells_set,nf_set N i hlt]
  have hlen:i<(rcells (nf N i)).length:=by simp only[rcells,List.length_map,nf_len N i hi];exact hlt
  repeat(first|(refine st ?_;intros)|refine G.draw [] (h:= ?_))
  refine Dn.round (i+1) (by omega) (by omega)
 obtain rfl:i=N:=by omega
 rw[nf_all]
 clear hi hlt
 apply G.seq
 repeat(first|(refine stn ?_;intros)|refine G.draw [] (h:= ?_))
 apply G.seq
 repeat(first|(refine stn ?_;intros)|refine G.draw [] (h:= ?_))
 refine G.cut (D':=[]) (X:=List Int) (fun l=>LabIn (gE es) (actE es ob w) i w l) (fun _=>[(7,.slice (some ⟨bl,0,none⟩) i i),(3,pv b3),(1,.slice po ko capo),(2,.int .i64 w)]) (fun l=>[[(bl,row (rcells l) 3)],[(b3,row [.int .i64 (i:Int),.slice p m cap] 37)],c,co]) ?_ ?_
 ·by_cases hw:0≤w∧w<i
  ·obtain⟨w',rfl⟩:∃w':Nat,w=(w':Int):=⟨w.toNat,by omega⟩
   have hset:(rcells (n0 i)).set w' (.int .i64 (-1))=rcells ((n0 i).set w' (-1)):=rcells_set _ _ _
   have hlen:w'<(rcells (n0 i)).length:=by simp only[rcells,List.length_map,n0len];omega
   repeat(first|(refine st ?_;intros)|refine G.draw [] (h:= ?_))
   exact Dn.meet ((n0 i).set w' (-1)) (n0inW _ _ i w' (by omega))
  ·have hin:=n0in (gE es) (actE es ob w) i w hw
   by_cases hw0:0≤w
   ·repeat(first|(refine st ?_;intros)|refine G.draw [] (h:= ?_))
    exact Dn.meet (n0 i) hin
   ·repeat(first|(refine st ?_;intros)|refine G.draw [] (h:= ?_))
    exact Dn.meet (n0 i) hin
 intro l0 hin0
 repeat(first|(refine st ?_;intros)|refine G.draw [] (h:= ?_))
 refine G.loop (X:=List Int×Bool) (fun x=>LabIn (gE es) (actE es ob w) i w x.1∧(x.2=false→∀j,actE es ob w j→x.1[(gE es j).1]? =x.1[(gE es j).2]?))
  (fun x=>[(9,.bool x.2),(7,.slice (some ⟨bl,0,none⟩) i i),(3,pv b3),(1,.slice po ko capo),(2,.int .i64 w)]) (fun x=>[[(bl,row (rcells x.1) 3)],[(b3,row [.int .i64 (i:Int),.slice p m cap] 37)],c,co]) (fun x=>2*isum x.1+(if x.2 then 1 else 0)) (l0,true) ⟨hin0,fun h=>by cases h⟩ (body:= ?_)
 rintro⟨l,ch⟩ ⟨hin,hst⟩
 dsimp only at hin hst⊢
 cases ch with
 |false=>
  repeat(first|(refine st ?_;intros)|refine G.draw [] (h:= ?_))
  (refine Dn.post (Hr:=[c,co,[(bl,row (rcells l) 3)]]) Tryz.results31 (hR:= ?_);exact⟨bl,l,rfl,rfl,hin.done (hst rfl)⟩)
 |true=>
 repeat(first|(refine st ?_;intros)|refine G.draw [] (h:= ?_))
 refine G.loop (X:=LabX) (fun x=>x.i≤m∧LabIn (gE es) (actE es ob w) i w x.l∧isum x.l≤isum l∧(x.ch=true→isum x.l<isum l)∧(x.ch=false→∀j,j<x.i→actE es ob w j→x.l[(gE es j).1]? =x.l[(gE es j).2]?))
  (fun x=>[(10,.int .i64 (x.i:Int)),(9,.bool x.ch),(7,.slice (some ⟨bl,0,none⟩) i i),(3,pv b3),(1,.slice po ko capo),(2,.int .i64 w)]) (fun x=>[[(bl,row (rcells x.l) 3)],[(b3,row [.int .i64 (i:Int),.slice p m cap] 37)],c,co]) (fun x=>m-x.i) ⟨0,l,false⟩ ⟨Nat.zero_le _,hin,Nat.le_refl _,fun h=>(by cases h),fun _ j h=>absurd h (Nat.not_lt_zero j)⟩ (body:= ?_)
 rintro⟨k,l2,ch⟩ ⟨hk,hin2,hs1,hs2,hs3⟩
 dsimp only at hk hin2 hs1 hs2 hs3⊢
 by_cases hlt:k<m
 rotate_left
 ·obtain rfl:k=m:=by omega
  repeat(first|(refine st ?_;intros)|refine G.draw [] (h:= ?_))
  refine Dn.round (l2,ch) ⟨hin2,fun h j hj=>hs3 h j ?_ hj⟩ ?_
  ·obtain⟨e,h1,_⟩:=hj
   rw[←hl];exact(List.getElem?_eq_some_iff.1 h1).1
  ·dsimp only
   cases ch with
   |true=>have:=hs2 rfl;simp only[if_true];omega
   |false=>simp only[Bool.false_eq_true,if_false,if_true];omega
 obtain⟨b,off,cs,T,fz,rfl,rfl,hcut,hget⟩:=hv.pos ecl_len (by omega)
 have hie:es[k]? =some es[k]:=List.getElem?_eq_getElem (by omega)
 have hc:=hcut k _ hie
 have hfe:=hf _ (List.mem_of_getElem? hie)
 generalize he:es[k]=e at*
 obtain⟨u,v⟩:=e
 obtain⟨f1,f2,f3,f4⟩:=hfe
 dsimp only at f1 f2 f3 f4
 obtain⟨u,rfl⟩:∃u':Nat,u=(u':Int):=⟨u.toNat,by omega⟩
 obtain⟨v,rfl⟩:∃v':Nat,v=(v':Int):=⟨v.toNat,by omega⟩
 have hc':(cs.drop (off+k*2)).take 2=[.int .i64 (u:Int),.int .i64 (v:Int)]:=hc
 have hgE:gE es k=(u,v):=by unfold gE;rw[hie];simp
 have hskip:¬actE es ob w k→LabIn (gE es) (actE es ob w) i w l2∧isum l2≤isum l∧(ch=true→isum l2<isum l)∧(ch=false→∀j,j<k+1→actE es ob w j→l2[(gE es j).1]? =l2[(gE es j).2]?):=fun hna=>
  ⟨hin2,hs1,hs2,fun h j hj ha=>by
   by_cases hjk:j=k
   ·subst hjk;exact absurd ha hna
   ·exact hs3 h j (by omega) ha⟩
 by_cases g1:(u:Int)=w
 ·obtain⟨q1,q2,q3,q4⟩:=hskip fun ⟨e,h1,h2,_⟩=>by rw[hie] at h1;simp only[Option.some.injEq] at h1;subst h1;exact h2 g1
  repeat(first|(refine st ?_;intros)|refine G.draw [] (h:= ?_))
  refine Dn.round ⟨k+1,l2,ch⟩ ⟨hlt,q1,q2,q3,q4⟩ (by dsimp only;omega)
 by_cases g2:(v:Int)=w
 ·obtain⟨q1,q2,q3,q4⟩:=hskip fun ⟨e,h1,_,h2,_⟩=>by rw[hie] at h1;simp only[Option.some.injEq] at h1;subst h1;exact h2 g2
  repeat(first|(refine st ?_;intros)|refine G.draw [] (h:= ?_))
  refine Dn.round ⟨k+1,l2,ch⟩ ⟨hlt,q1,q2,q3,q4⟩ (by dsimp only;omega)
 by_cases g3:k<ko
 ·obtain⟨ob',offo,cso,To,fzo,rfl,rfl,hcuto,hgeto⟩:=hvo.pos bcl_len (by omega)
  have hio:ob[k]? =some ob[k]:=List.getElem?_eq_getElem (by omega)
  have hco:=hgeto k 0 _ _ hio rfl
  rw[Nat.mul_one,Nat.add_zero] at hco
  generalize hob:ob[k]=o at*
  cases o with
  |true=>
   obtain⟨q1,q2,q3,q4⟩:=hskip fun ⟨e,h1,_,_,h2⟩=>h2 hio
   repeat(first|(refine st ?_;intros)|refine G.draw [] (h:= ?_))
   refine Dn.round ⟨k+1,l2,ch⟩ ⟨hlt,q1,q2,q3,q4⟩ (by dsimp only;omega)
  |false=>
  have hact:actE es ob w k:=⟨_,hie,g1,g2,by rw[hio];decide⟩
  obtain⟨x,x1,x2,x3,x4⟩:=hin2.at_ u (by omega) g1
  obtain⟨y,y1,y2,y3,y4⟩:=hin2.at_ v (by omega) g2
  have hcu:=rcells_get x1
  have hcv:=rcells_get y1
  have hcon:Cn (gE es) (actE es ob w) u v:=by
   have:=Cn.edge (g:=gE es) hact
   rw[hgE] at this;exact this
  have hlu:u<(rcells l2).length:=by simp only[rcells,List.length_map,hin2.len];omega
  have hlv:v<(rcells l2).length:=by simp only[rcells,List.length_map,hin2.len];omega
  by_cases hxy:x=y
  ·subst hxy
   have hset:(rcells l2).set u (.int .i64 (x:Int))=rcells l2:=by
    rw[rcells_set];congr 1
    exact set_self' x1
   repeat(first|(refine st ?_;intros)|refine G.draw [] (h:= ?_))
   refine Dn.round ⟨k+1,l2,ch⟩ ⟨hlt,hin2,hs1,hs2,fun h j hj ha=> ?_⟩ (by dsimp only;omega)
   by_cases hjk:j=k
   ·subst hjk;rw[hgE];exact x1.trans y1.symm
   ·exact hs3 h j (by dsimp only at hj;omega) ha
  ·by_cases hlt2:x<y
   ·have hset:(rcells l2).set v (.int .i64 (x:Int))=rcells (l2.set v (x:Int)):=rcells_set _ _ _
    have hsum:=isum_set (y:=(x:Int)) y1 (by omega)
    have hput:=hin2.put x1 y1 hcon.symm (by omega) g1 g2
    repeat(first|(refine st ?_;intros)|refine G.draw [] (h:= ?_))
    refine Dn.round ⟨k+1,l2.set v (x:Int),true⟩ ⟨hlt,hput,by dsimp only;omega,fun _=>by dsimp only;omega,fun h=>(by cases h)⟩ (by dsimp only;omega)
   ·have hset:(rcells l2).set u (.int .i64 (y:Int))=rcells (l2.set u (y:Int)):=rcells_set _ _ _
    have hsum:=isum_set (y:=(y:Int)) x1 (by omega)
    have hput:=hin2.put y1 x1 hcon (by omega) g2 g1
    repeat(first|(refine st ?_;intros)|refine G.draw [] (h:= ?_))
    refine Dn.round ⟨k+1,l2.set u (y:Int),true⟩ ⟨hlt,hput,by dsimp only;omega,fun _=>by dsimp only;omega,fun h=>(by cases h)⟩ (by dsimp only;omega)
 ·have hact:actE es ob w k:=⟨_,hie,g1,g2,by rw[List.getElem?_eq_none (by omega)];decide⟩
  obtain⟨x,x1,x2,x3,x4⟩:=hin2.at_ u (by omega) g1
  obtain⟨y,y1,y2,y3,y4⟩:=hin2.at_ v (by omega) g2
  have hcu:=rcells_get x1
  have hcv:=rcells_get y1
  have hcon:Cn (gE es) (actE es ob w) u v:=by
   have:=Cn.edge (g:=gE es) hact
   rw[hgE] at this;exact this
  have hlu:u<(rcells l2).length:=by simp only[rcells,List.length_map,hin2.len];omega
  have hlv:v<(rcells l2).length:=by simp only[rcells,List.length_map,hin2.len];omega
  by_cases hxy:x=y
  ·subst hxy
   have hset:(rcells l2).set u (.int .i64 (x:Int))=rcells l2:=by
    rw[rcells_set];congr 1
    exact set_self' x1
   repeat(first|(refine st ?_;intros)|refine G.draw [] (h:= ?_))
   refine Dn.round ⟨k+1,l2,ch⟩ ⟨hlt,hin2,hs1,hs2,fun h j hj ha=> ?_⟩ (by dsimp only;omega)
   by_cases hjk:j=k
   ·subst hjk;rw[hgE];exact x1.trans y1.symm
   ·exact hs3 h j (by dsimp only at hj;omega) ha
  ·by_cases hlt2:x<y
   ·have hset:(rcells l2).set v (.int .i64 (x:Int))=rcells (l2.set v (x:Int)):=rcells_set _ _ _
    have hsum:=isum_set (y:=(x:Int)) y1 (by omega)
    have hput:=hin2.put x1 y1 hcon.symm (by omega) g1 g2
    repeat(first|(refine st ?_;intros)|refine G.draw [] (h:= ?_))
    refine Dn.round ⟨k+1,l2.set v (x:Int),true⟩ ⟨hlt,hput,by dsimp only;omega,fun _=>by dsimp only;omega,fun h=>(by cases h)⟩ (by dsimp only;omega)
   ·have hset:(rcells l2).set u (.int .i64 (y:Int))=rcells (l2.set u (y:Int)):=rcells_set _ _ _
    have hsum:=isum_set (y:=(y:Int)) x1 (by omega)
    have hput:=hin2.put y1 x1 hcon (by omega) g2 g1
    repeat(first|(refine st ?_;intros)|refine G.draw [] (h:= ?_))
    refine Dn.round ⟨k+1,l2.set u (y:Int),true⟩ ⟨hlt,hput,by dsimp only;omega,fun _=>by dsimp only;omega,fun h=>(by cases h)⟩ (by dsimp only;omega)
def sideF (l:List Int) (e:IE) (v:Int):Int:=if e.1=v then l.getD e.2.toNat 0 else l.getD e.1.toNat 0
theorem getD_some {l:List Int} {i:Nat} (h:i<l.length):l[i]? =some (l.getD i 0):=by
 rw[List.getD_eq_getElem?_getD,List.getElem?_eq_getElem h];rfl
theorem side_ct (N:Nat) (b:Nat) (l:List Int) (hl:l.length=N) (e:IE) (he:inE N e) (v:Nat):
  CtQ Tryz.prog 122 [.slice (some ⟨b,0,none⟩) N N,.agg #[.int .i64 e.1,.int .i64 e.2],.int .i64 (v:Int)] [[(b,row (rcells l) 3)]] (.int .i64 (sideF l e v)):=by
 obtain⟨x,y⟩:=e
 unfold inE at he
 dsimp only at he
 obtain⟨x,rfl⟩:∃n:Nat,x=(n:Int):=⟨x.toNat,by omega⟩
 obtain⟨y,rfl⟩:∃n:Nat,y=(n:Int):=⟨y.toNat,by omega⟩
 have hx:=rcells_get (getD_some (l:=l) (i:=x) (by omega))
 have hy:=rcells_get (getD_some (l:=l) (i:=y) (by omega))
 unfold sideF
 dsimp only
 rw[Int.toNat_natCast,Int.toNat_natCast]
 generalize l.getD x 0=lx at*
 generalize l.getD y 0=ly at*
 generalize rcells l=cs at*
 by_cases h:(x:Int)=(v:Int)
 ·rw[if_pos h]
  refine Ct.intro Tryz.func122 rfl Tryz.ntmps122 (nle rfl) fun w0=> ?_;dsimp only[argSlots,Nat.reduceAdd]
  repeat(refine st ?_;intros)
  (refine Dn.post (Hr:=[[(b,row cs 3)]]) Tryz.results122 (hR:= ?_);exact⟨rfl,rfl⟩)
 ·rw[if_neg h]
  refine Ct.intro Tryz.func122 rfl Tryz.ntmps122 (nle rfl) fun w0=> ?_;dsimp only[argSlots,Nat.reduceAdd]
  repeat(refine st ?_;intros)
  (refine Dn.post (Hr:=[[(b,row cs 3)]]) Tryz.results122 (hR:= ?_);exact⟨rfl,rfl⟩)
def sv (N b:Nat):Value:= .slice (some ⟨b,0,none⟩) N N
def rowsC (bl:List Nat) (ls:List (List Int)):Chunk:=(bl.zip ls).map fun x=>(x.1,row (rcells x.2) 3)
theorem rowsC_add {bl:List Nat} {ls:List (List Int)} (h:bl.length=ls.length) (b:Nat) (l:List Int):rowsC (bl++[b]) (ls++[l])=rowsC bl ls++[(b,row (rcells l) 3)]:=by
 unfold rowsC;rw[List.zip_append h,List.map_append];rfl
theorem rowsC_at {bl:List Nat} {ls:List (List Int)} {v b:Nat} {l:List Int} (hb:bl[v]? =some b) (hl:ls[v]? =some l):∃rest,(rowsC bl ls).Perm ((b,row (rcells l) 3)::rest):=by
 have h1:(rowsC bl ls)[v]? =some (b,row (rcells l) 3):=by
  unfold rowsC
  rw[List.getElem?_map,List.getElem?_zip_eq_some (z:=(b,l))|>.2 ⟨hb,hl⟩];rfl
 obtain⟨hv,h2⟩:=List.getElem?_eq_some_iff.1 h1
 refine⟨(rowsC bl ls).take v++(rowsC bl ls).drop (v+1),?_⟩
 have h3:rowsC bl ls=(rowsC bl ls).take v++(b,row (rcells l) 3)::(rowsC bl ls).drop (v+1):=by
  rw[←h2,←List.drop_eq_getElem_cons hv,List.take_append_drop]
 conv=>lhs;rw[h3]
 exact List.perm_middle
structure ApOk (N:Nat) (es:List IE) (ls:List (List Int)):Prop where
 len:ls.length=N
 lab:∀(v:Nat) l,ls[v]? =some l→LabOk (gE es) (actE es [] v) N v l
structure ApIn (N:Nat) (pa:Option Addr) (cap:Nat) (ls:List (List Int)) (cv cr:Chunk):Prop where
 row_:∃bl:List Nat,bl.length=N∧Vec 59 1 pa N cap (bl.map (sv N)) cv∧cr=rowsC bl ls
theorem side_cr (N:Nat) (bl:List Nat) (ls:List (List Int)) (v b:Nat) (l:List Int) (hb:bl[v]? =some b) (hls:ls[v]? =some l) (hl:l.length=N) (e:IE) (he:inE N e):
  CtQ Tryz.prog 122 [.slice (some ⟨b,0,none⟩) N N,.agg #[.int .i64 e.1,.int .i64 e.2],.int .i64 (v:Int)] [rowsC bl ls] (.int .i64 (sideF l e v)):=by
 obtain⟨rest,hr⟩:=rowsC_at hb hls
 refine Ct.convP (Ct.wide (side_ct N b l hl e he v) [rest]) (by simpa using hr) ?_
 rintro w H' ⟨H1,⟨rfl,rfl⟩,rfl⟩
 exact⟨[rowsC bl ls],⟨rfl,rfl⟩,by simpa using hr.symm⟩
theorem Rw.nil1:Rw bcl 1 none 0 ([]:List Bool) []:=⟨rfl,.inl ⟨rfl,rfl⟩⟩
theorem LabelsN_ct (N:Nat) (hN:N≤1000000) (p:Option Addr) (m cap:Nat) (es:List IE) (c:Chunk) (hv:Rw ecl 2 p m es c) (hm:m≤1000000) (hf:∀e∈es,inE N e) (w:Int):
  Ct Tryz.prog 31 [gv N p m cap,.slice none 0 0,.int .i64 w] [c] fun v H'=>∃bl l,v= .slice (some ⟨bl,0,none⟩) N N∧H'=[c,[(bl,row (rcells l) 3)]]∧LabOk (gE es) (actE es [] w) N w l:=by
 refine Ct.convP (Labels_ct N hN p m cap es c hv hm hf none 0 0 [] [] Rw.nil1 (by omega) w) (by simp) ?_
 rintro v H' ⟨bl,l,rfl,rfl,h⟩
 exact⟨_,⟨bl,l,rfl,rfl,h⟩,by simp⟩
structure ApX where
 i:Nat
 p:Option Addr
 cap:Nat
 cv:Chunk
 bl:List Nat
 ls:List (List Int)
theorem Apart_ct (N:Nat) (hN:N≤1000000) (p:Option Addr) (m cap:Nat) (es:List IE) (c:Chunk) (hv:Rw ecl 2 p m es c) (hm:m≤1000000) (hf:∀e∈es,inE N e):
  Ct Tryz.prog 102 [gv N p m cap] [c] fun v H'=>∃pa ka cv cr ls,v= .slice pa N ka∧H'=[c,cv,cr]∧ApIn N pa ka ls cv cr∧ApOk N es ls:=by
 have hLb:=fun w=>LabelsN_ct N hN p m cap es c hv hm hf w
 unfold gv at hLb⊢
 refine Ct.intro Tryz.func102 rfl Tryz.ntmps102 (nle rfl) fun w0=> ?_;dsimp only[argSlots,Nat.reduceAdd]
 repeat(refine st ?_;intros)
 rename_i b1
 refine G.loop (X:=ApX) (fun x=>x.i≤N∧x.bl.length=x.i∧x.ls.length=x.i∧Vec 59 1 x.p x.i x.cap (x.bl.map (sv N)) x.cv∧∀(v:Nat) l,x.ls[v]? =some l→LabOk (gE es) (actE es [] v) N v l)
  (fun x=>[(4,.int .i64 (x.i:Int)),(3,.slice x.p x.i x.cap),(1,pv b1)])
  (fun x=>[x.cv,rowsC x.bl x.ls,[(b1,row [.int .i64 (N:Int),.slice p m cap] 37)],c]) (fun x=>N-x.i) ⟨0,none,0,[],[],[]⟩ ⟨Nat.zero_le _,rfl,rfl,Vec.nil _ _,by simp⟩ (by repeat(first|exact trivial|refine⟨rfl,?_⟩)) (by repeat(first|exact Split.nil|(apply Split.cons;·(first|exact Take.nil|(repeat(first|exact Take.here|apply Take.there)))))) ?_
 rintro⟨i,q,qc,cv,bl,ls⟩ ⟨hi,hbl,hls,hV,hlab⟩
 dsimp only at hi hbl hls hV hlab⊢
 by_cases hlt:i<N
 ·have hL:=hLb (i:Int)
  have hmx:i+1≤maxLen:=by simp only[maxLen];omega
  repeat(refine st ?_;intros)
  refine R.call (hct:=hL) (h:= ?_)
  rintro _ _ ⟨b,l,rfl,rfl,hlk⟩
  try dsimp only[List.cons_append,List.nil_append]
  repeat(refine st ?_;intros)
  rename_i p' cap' c' hV'
  have hV3:Vec 59 1 p' (i+1) cap' ((bl++[b]).map (sv N)) c':=by rw[List.map_append];exact hV'
  have hlab3:∀(v:Nat) l',(ls++[l])[v]? =some l'→LabOk (gE es) (actE es [] v) N v l':=by
   intro v l' h
   rcases Nat.lt_trichotomy v i with h1|h1|h1
   ·rw[List.getElem?_append_left (by omega)] at h
    exact hlab v l' h
   ·subst h1
    rw[List.getElem?_append_right (by omega),hls,Nat.sub_self] at h
    simp only[List.getElem?_cons_zero,Option.some.injEq] at h
    subst h;exact hlk
   ·rw[List.getElem?_eq_none (by simp;omega)] at h;cases h
  refine Dn.joinP (c:=rowsC (bl++[b]) (ls++[l])) (c1:=rowsC bl ls) (c2:=[(b,row (rcells l) 3)]) (by rw[rowsC_add (by omega)]) (by(repeat(first|exact Take.here|apply Take.there))) (by(repeat(first|exact Take.here|apply Take.there))) ?_
  refine Dn.round ⟨i+1,p',cap',c',bl++[b],ls++[l]⟩ ⟨hlt,by simp[hbl],by simp[hls],hV3,hlab3⟩ (by dsimp only;omega)
 obtain rfl:i=N:=by omega
 repeat(refine st ?_;intros)
 (refine Dn.post (Hr:=[c,cv,rowsC bl ls]) Tryz.results102 (hR:= ?_);exact⟨q,qc,cv,_,ls,rfl,rfl,⟨bl,hbl,hV,rfl⟩,hls,hlab⟩)
end Go.Proofs.YtlnehgklibbjiaaGreat
