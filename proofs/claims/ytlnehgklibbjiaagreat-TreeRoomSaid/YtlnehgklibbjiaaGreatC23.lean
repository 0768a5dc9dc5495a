/-
  Parts of the proof, put together: Tree5, LayK, Work17, TreeA. No condition.
-/
import Derived.Test.YtlnehgklibbjiaaGreatC22
set_option linter.unusedVariables false
set_option linter.unusedSimpArgs false
set_option linter.unnecessarySimpa false
set_option maxHeartbeats 4000000
namespace Go.Proofs.YtlnehgklibbjiaaGreat
open Go.SL Go.Spc Go.Tup Go.Srt
theorem numM_all (a b a' b':Nat):∀(ts:List T5) (k:Int×Int),(numM a b).all k ts=(numM a' b').all k ts
 |[],_=>rfl
 |t::ts,k=>by simp only[Maker.all];rw[show(numM a b).next k t=(numM a' b').next k t from rfl,numM_all a b a' b' ts];rfl
theorem numM_len (a b:Nat) (k:Int×Int) (t:T5):((numM a b).outs k t).length≤1:=by
 unfold numM;dsimp only;split<;>simp
def treesF (lts tts:List T5):List T5:=srt (ltO o1) false ((numM 0 0).all (0,0) (visitsF lts tts))
theorem Trees_width (lf tf:Fl) (hw:¬(lf.width=2∧tf.width=5)) (x:Value):CtQ Tryz.prog 15 [x,flv lf,flv tf] [] (.tuple #[flv ⟨0,0,0,0⟩,.int .i64 1]):=by
 have hflv:∀f:Fl,flv f= .agg #[.int .i64 (f.first:Int),.int .i64 (f.blocks:Int),.int .i64 (f.width:Int),.int .i64 (f.count:Int)]:=fun _=>rfl
 rw[hflv,hflv]
 by_cases h2:lf.width=2
 ·have h5:tf.width≠5:=fun h=>hw ⟨h2,h⟩
  refine Ct.intro Tryz.func15 rfl Tryz.ntmps15 (nle rfl) fun w0=> ?_;dsimp only[argSlots,Nat.reduceAdd]
  repeat(first|(refine st ?_;intros)|refine G.draw (id:=7) [(7,.eff [2])] (h:= ?_))
  (refine Dn.post (Hr:=[]) Tryz.results15 (hR:= ?_);exact⟨rfl,rfl⟩)
 ·refine Ct.intro Tryz.func15 rfl Tryz.ntmps15 (nle rfl) fun w0=> ?_;dsimp only[argSlots,Nat.reduceAdd]
  repeat(first|(refine st ?_;intros)|refine G.draw (id:=7) [(7,.eff [2])] (h:= ?_))
  (refine Dn.post (Hr:=[]) Tryz.results15 (hR:= ?_);exact⟨rfl,rfl⟩)
theorem Trees_nil (lf tf:Fl) (hw2:lf.width=2) (hw5:tf.width=5):CtQ Tryz.prog 15 [.pointer none,flv lf,flv tf] [] (.tuple #[flv ⟨0,0,0,0⟩,.int .i64 1]):=by
 have hflv:∀f:Fl,flv f= .agg #[.int .i64 (f.first:Int),.int .i64 (f.blocks:Int),.int .i64 (f.width:Int),.int .i64 (f.count:Int)]:=fun _=>rfl
 rw[hflv,hflv]
 refine Ct.intro Tryz.func15 rfl Tryz.ntmps15 (nle rfl) fun w0=> ?_;dsimp only[argSlots,Nat.reduceAdd]
 repeat(first|(refine st ?_;intros)|refine G.draw (id:=7) [(7,.eff [2])] (h:= ?_))
 refine R.call (hct:=Begin_nil _) (h:= ?_)
 rintro _ _ ⟨rfl,rfl⟩
 try dsimp only[List.cons_append,List.nil_append]
 repeat(first|(refine st ?_;intros)|refine G.draw (id:=7) [(7,.eff [2])] (h:= ?_))
 (refine Dn.post (Hr:=[]) Tryz.results15 (hR:= ?_);exact⟨rfl,rfl⟩)
theorem Trees_arg (bw bd ba bs:Nat) (cd ca cs:Chunk) (lf tf:Fl) (hw2:lf.width=2) (hw5:tf.width=5) (hR:CtQ Tryz.prog 50 [pv bw,flv lf] [wrow bw bd ba bs,cd,ca,cs] (.tuple #[.pointer none,.int .i64 1])):
  CtQ Tryz.prog 15 [pv bw,flv lf,flv tf] [wrow bw bd ba bs,cd,ca,cs] (.tuple #[flv ⟨0,0,0,0⟩,.int .i64 1]):=by
 have hflv:∀f:Fl,flv f= .agg #[.int .i64 (f.first:Int),.int .i64 (f.blocks:Int),.int .i64 (f.width:Int),.int .i64 (f.count:Int)]:=fun _=>rfl
 have hB:=fun b=>Begin_arg bw bd ba bs cd ca cs b 2 2 _ _ _ _ (fl4 lf++fl4 tf) rfl (by omega) (by omega) hR
 simp only[fl4,List.cons_append,List.nil_append] at hB
 rw[hflv,hflv]
 refine Ct.intro Tryz.func15 rfl Tryz.ntmps15 (nle rfl) fun w0=> ?_;dsimp only[argSlots,Nat.reduceAdd]
 repeat(first|(refine st ?_;intros)|refine G.draw (id:=7) [(7,.eff [2])] (h:= ?_))
 refine R.call (hct:=hB _) (h:= ?_)
 rintro _ _ ⟨rfl,rfl⟩
 try dsimp only[List.cons_append,List.nil_append]
 repeat(first|(refine st ?_;intros)|refine G.draw (id:=7) [(7,.eff [2])] (h:= ?_))
 (refine Dn.post (Hr:=[wrow bw bd ba bs,cd,ca,cs]) Tryz.results15 (hR:= ?_);exact⟨rfl,rfl⟩)
theorem Trees_ct (bw bd ba bs:Nat) (W:Wk) (cd ca cs:Chunk) (h:Wc bd ba bs W cd ca cs) (lf tf:Fl) (lts tts:List T5) (hl:FileIn W (lf,lts)) (ht:FileIn W (tf,tts)) (hw2:lf.width=2) (hw5:tf.width=5) (N:Nat) (hN:lf.count+tf.count+1≤N) (hNb:N≤1000)
  (hcnt:((numM 0 0).all (0,0) (visitsF lts tts)).length≤lf.count) (hroom:7*N+4*sortT N≤big W.σ.free) (hac:W.δ.acts≤1000000):
  Ct Tryz.prog 15 [pv bw,flv lf,flv tf] [wrow bw bd ba bs,cd,ca,cs] (LayerQ bw bd ba bs W cd cs 115000 (7*N+4*sortT N) none (treesF lts tts) 5):=by
 have hflv:∀f:Fl,flv f= .agg #[.int .i64 (f.first:Int),.int .i64 (f.blocks:Int),.int .i64 (f.width:Int),.int .i64 (f.count:Int)]:=fun _=>rfl
 have hfl4:∀f:Fl,fl4 f=[.int .i64 (f.first:Int),.int .i64 (f.blocks:Int),.int .i64 (f.width:Int),.int .i64 (f.count:Int)]:=fun _=>rfl
 have hz:flv ⟨0,0,0,0⟩= .agg #[.int .i64 0,.int .i64 0,.int .i64 0,.int .i64 0]:=rfl
 have hB:=fun b=>Begin_ct bw bd ba bs W cd ca cs h [(lf,lts),(tf,tts)] (by simp only[List.mem_cons,List.not_mem_nil,or_false];rintro x (rfl|rfl);exact hl;exact ht) (by simp) (some ⟨b,0,none⟩) 2 _ (vec2 b lf tf)
 simp only[hfl4,List.cons_append,List.nil_append] at hB
 rw[hflv,hflv]
 refine Ct.intro Tryz.func15 rfl Tryz.ntmps15 (nle rfl) fun w0=> ?_;dsimp only[argSlots,Nat.reduceAdd]
 repeat(first|(refine st ?_;intros)|refine G.draw (id:=7) [(7,.eff [2])] (h:= ?_))
 refine R.call (hct:=hB _) (h:= ?_)
 rintro _ _ ⟨ca1,α1,hW1,hg1,hr1,⟨hroom8,bj,rfl,rfl⟩|⟨hsmall,rfl,rfl⟩⟩
 rotate_left
 ·dsimp only[List.cons_append,List.nil_append]
  repeat(first|(refine st ?_;intros)|refine G.draw (id:=7) [(7,.eff [2])] (h:= ?_))
  (refine Dn.post (Hr:=[wrow bw bd ba bs,cd,ca1,cs]) Tryz.results15 (hR:= ?_);exact .inr ⟨hsmall,rfl,ca1,α1,rfl,hW1,hg1,hr1⟩)
 dsimp only[List.cons_append,List.nil_append]
 obtain⟨hp,hJ⟩:=begun_job (bj:=bj) h hW1 hg1 hr1 hroom8
 have hl0:In0 (begP bw bd ba bs bj W) (lf,lts):=begun_in0 hl
 have ht0:In0 (begP bw bd ba bs bj W) (tf,tts):=begun_in0 ht
 have hb0:(begP bw bd ba bs bj W).b0=big W.σ.free:=rfl
 obtain⟨hs8,_⟩:=hp.size
 have hnb:∀{k n:Nat},1≤k→k≤5→n≤N→nblocks (begP bw bd ba bs bj W).size k n≤N:=fun h1 h2 h3=>Nat.le_trans (nb_le hs8 h1 h2) h3
 have hV:=visits_ct _ hp _ _ hJ lf tf lts tts hl0 ht0 hw5 N hN hNb (fun _=>by dsimp only;omega) (by dsimp only;omega) (by simp)
 have hV2:=Ct.convP (H:=[jrow bj bw 0 none 0 0,wrow bw bd ba bs,cd,ca1,cs]) hV (jobC_open (p:=begP bw bd ba bs bj W)) (fun v H' hh=>⟨H',hh,.refl _⟩)
 have hbj:(begP bw bd ba bs bj W).bj=bj:=rfl
 rw[hflv,hflv,hbj] at hV2
 obtain⟨hlc,hlfit,_⟩:=in0file hl0
 obtain⟨htc,htfit,_⟩:=in0file ht0
 dsimp only at hlc hlfit htc htfit
 rw[hw5] at htfit
 repeat(first|(refine st ?_;intros)|refine G.draw (id:=7) [(7,.eff [2])] (h:= ?_))
 rename_i b10 b11
 refine R.callX (hct:=hV2) (h:= ?_)
 rintro _ _ ⟨vf,rf,sf,C2,e2,rfl,rfl,hJ2,hx2,hc2,hb2⟩
 dsimp only[List.cons_append,List.nil_append]
 constructor
 ·(·(first|(intro _ _ h;cases h;done)|(repeat(first|exact qok_nil|(apply qok_cons;(·first|(intro hc;exact absurd hc (nmem rfl))|(intro _;apply CellPr.mk;(·repeat(first|exact Has.here|apply Has.there));(first|exact rfl|assumption))|(intro _;apply CellsPr.mk;(·repeat(first|exact Has.here|apply Has.there));(first|exact rfl|assumption))))))))
 try dsimp only at hJ2 hx2
 rw[hflv]
 have hvok:=visitsF_ok lts tts hlfit htfit
 have hna:(numM b11 b10).all (0,0) (visitsF lts tts)=(numM 0 0).all (0,0) (visitsF lts tts):=numM_all b11 b10 0 0 _ _
 have hM:=fun b=>JMake1 _ hp _ C2 hJ2 (numM b11 b10) (0,0) (fun _ _=>rfl) 5 lf.count 1 5000 N (by omega) (by omega) (by omega) 46 inferInstance [pv b11,pv b10] _ (num_mk b11 b10) (fun k t _=>numM_len b11 b10 k t) (by omega) vf _ (.inl List.mem_cons_self) (by omega)
  (Maker.oks_of (M:=numM b11 b10) (I:=fun _=>True) (Q:=okT 5) (fun _ t _ h=>⟨h,trivial⟩) _ (0,0) trivial hvok) (fun _=>by rw[hna];exact hcnt) (hnb (by omega) (by omega) (by omega)) (fun _=> .inr (by dsimp only;omega)) (by omega) (by dsimp only;omega) (by simp only[List.length_cons,List.length_nil];omega) b
 rw[hna] at hM
 simp only[hfl4,numM_C,hbj] at hM
 repeat(first|(refine st ?_;intros)|refine G.draw (id:=7) [(7,.eff [2])] (h:= ?_))
 refine R.callX (hct:=hM _) (h:= ?_)
 rintro _ _ ⟨f3,C3,e3,⟨dp',nm'⟩,rfl,rfl,hJ3,hx3,hc3,hb3⟩
 dsimp only[List.cons_append,List.nil_append]
 constructor
 ·(·(first|(intro _ _ h;cases h;done)|(repeat(first|exact qok_nil|(apply qok_cons;(·first|(intro hc;exact absurd hc (nmem rfl))|(intro _;apply CellPr.mk;(·repeat(first|exact Has.here|apply Has.there));(first|exact rfl|assumption))|(intro _;apply CellsPr.mk;(·repeat(first|exact Has.here|apply Has.there));(first|exact rfl|assumption))))))))
 try dsimp only at hJ3 hx3
 rw[hflv]
 have hN3:f3.blocks≤N:=Nat.le_trans hb3 (hnb (by omega) (by omega) (by omega))
 have hS:=JSort _ hp _ C3 hJ3 f3 _ _ o1 rfl false 20000 (sortT N) (fun _=> .refl _) (fun _=>sortT_mono hN3) (fun _=> .inr (by dsimp only;omega)) (fun _=>sortA_small (by omega)) (by dsimp only;omega) (by omega)
 dsimp only at hS
 rw[hflv,hbj] at hS
 repeat(first|(refine st ?_;intros)|refine G.draw (id:=7) [(7,.eff [2])] (h:= ?_))
 refine R.call (hct:=hS) (h:= ?_)
 rintro _ _ ⟨f4,C4,e4,rfl,rfl,hJ4,hx4,hc4,hb4⟩
 try dsimp only[List.cons_append,List.nil_append]
 rw[hflv]
 have hRs:=fun b=>JResult1 _ hp _ C4 hJ4 f4 b
 simp only[hfl4,hbj] at hRs
 repeat(first|(refine st ?_;intros)|refine G.draw (id:=7) [(7,.eff [2])] (h:= ?_))
 refine R.call (hct:=hRs _) (h:= ?_)
 rintro _ _ ⟨cd5,ca5,cs5,W5,rfl,rfl,hW5,hD⟩
 try dsimp only[List.cons_append,List.nil_append]
 have hSt:=done_stepped (A:=115000) (T:=7*N+4*sortT N) hD rfl (by dsimp only;omega) (by dsimp only;omega)
 dsimp only at hSt
 by_cases he:e4=0
 ·subst he
  rw[if_pos rfl] at hSt
  repeat(first|(refine st ?_;intros)|refine G.draw (id:=7) [(7,.eff [2])] (h:= ?_))
  (refine Dn.post (Hr:=[wrow bw bd ba bs,cd5,ca5,cs5]) Tryz.results15 (hR:= ?_);exact .inl ⟨hroom8,f4,0,cd5,ca5,cs5,W5,rfl,rfl,hW5,hSt,fun _=>(hx4 rfl).2.1.trans (hx3 (hx4 rfl).1).2.2.1⟩)
 ·rw[if_neg he] at hSt
  repeat(first|(refine st ?_;intros)|refine G.draw (id:=7) [(7,.eff [2])] (h:= ?_))
  (refine Dn.post (Hr:=[wrow bw bd ba bs,cd5,ca5,cs5]) Tryz.results15 (hR:= ?_);exact .inl ⟨hroom8,⟨0,0,0,0⟩,e4,cd5,ca5,cs5,W5,rfl,rfl,hW5,hSt,fun h=>absurd h he⟩)
theorem big0 (s n room:Nat):big (wk0 s n room).σ.free=n:=by simp[wk0,big]
theorem Lay_k (bw bd ba bs:Nat) (W:Wk) (cd ca cs:Chunk) (h:Wc bd ba bs W cd ca cs) (k:Nat) (h1:1≤k) (h2:k≤5) (p:Option Addr) (n cap:Nat) (ts:List T5) (c:Chunk) (hv:RV p n ts c) (hn:n≤100000000) (hok:∀t∈ts,okT k t)
  (hr:W.δ.size≤W.α.room-W.α.used) (hf:W.δ.fault= -1) (hac:W.δ.acts≤100000000000) (hb:nblocks W.δ.size k n≤big W.σ.free):
  Ct Tryz.prog 39 [pv bw,.int .i64 (k:Int),.slice p n cap] [wrow bw bd ba bs,cd,ca,cs,c] fun v H'=>
   ∃cd' ca' cs' W' f,v= .tuple #[flv f,.int .i64 0]∧H'=[wrow bw bd ba bs,cd',ca',cs',c]∧Wc bd ba bs W' cd' ca' cs'∧Ev W W' (nblocks W.δ.size k n) (nblocks W.δ.size k n)∧Keep W.live W W'∧W'.α.gs.Perm W.α.gs∧
    W'.live.Perm (addF f W.live)∧f.width=k∧f.count=n∧f.blocks=nblocks W.δ.size k n∧FileOk W'.δ.disk W.δ.size [f.ext] f ts:=by
 refine(Lay_ct bw bd ba bs W cd ca cs h k h1 h2 p n cap ts c hv hn hok hr hf hac).mono ?_
 rintro v H' ⟨cd',ca',cs',W',rfl,hW,hE,hK,hg,⟨_,f,rfl,hl,hw,hc,hfo⟩|⟨hx,_⟩⟩
 ·exact⟨cd',ca',cs',W',f,rfl,rfl,hW,hE,hK,hg,by rw[hl];exact .refl _,hw,hc,by rw[hfo.blk,hw,hc],hfo⟩
 ·omega
theorem FileIn.stay {W W':Wk} {x:Fl×List T5} (h:FileIn W x) (hs:W'.δ.size=W.δ.size) (hk:Keep W.live W W') (hl:∀e∈W.live,e∈W'.live):FileIn W' x:=by
 obtain⟨Lv,h1,h2⟩:=h
 refine⟨Lv,?_,fun e he=>hl e (h2 e he)⟩
 rw[hs]
 exact h1.keep fun y ⟨e,he,h3⟩=>hk y ⟨e,h2 e he,h3⟩
theorem FileIn.new {W':Wk} {s:Nat} {f:Fl} {ts:List T5} {l:List Ext} (h:FileOk W'.δ.disk s [f.ext] f ts) (hs:W'.δ.size=s) (hl:W'.live.Perm (addF f l)):FileIn W' (f,ts):=by
 subst hs
 exact fo_sub h hl
theorem mem_addF {f:Fl} {l l':List Ext} (h:l'.Perm (addF f l)):∀e∈l,e∈l':=fun _ he=>h.mem_iff.2 (addF_mem he)
theorem stepped_ok {p:Jp} {W W':Wk} {A T:Nat} {ts:List T5} {f:Fl} {e:Int} (h:Stepped p W W' A T none ts f e) (hf:W.δ.fault= -1):e=0∧W'.live.Perm (addF f W.live)∧FileOk W'.δ.disk W.δ.size [f.ext] f ts∧W'.δ.fault= -1:=by
 rcases h.res with⟨h1,_,h2,h3⟩|⟨_,_,_,⟨_,h1⟩|⟨m,h1,_⟩⟩
 ·exact⟨h1,h2,h3,h.fault hf⟩
 ·exact absurd hf h1
 ·cases h1
end Go.Proofs.YtlnehgklibbjiaaGreat
namespace Go.Proofs.YtlnehgklibbjiaaGreat
open Go.SL Go.Spc Go.Tup
theorem work17ct (n:Nat) (hn:n≤1000):Ct Tryz.prog 14 [.int .i64 (n:Int)] [] fun v H'=>
  ∃bw bd ba bs cd ca cs,v=pv bw∧H'=[wrow bw bd ba bs,cd,ca,cs]∧Wc bd ba bs (wk0 10 9000 (10*n)) cd ca cs:=by
 have hDn:=DevNew_u 10 9000 (by omega) (by omega)
 have hAn:=ArenaNew_ct (10*n) (by omega)
 have hSn:=SpaceNew_ct 9000 (by omega) (by omega)
 have e1:IntKind.wrap .i64 ((10:Int)*(n:Int))=((10*n:Nat):Int):=by rw[wrap_i64 (by omega)];omega
 refine Ct.intro Tryz.func14 rfl Tryz.ntmps14 (nle rfl) fun w0=> ?_;dsimp only[argSlots,Nat.reduceAdd]
 repeat(refine st ?_;intros)
 refine R.call (hct:=hDn) (h:= ?_)
 rintro _ _ ⟨bd,cd,rfl,rfl,hdev⟩
 try dsimp only[List.cons_append,List.nil_append]
 repeat(refine st ?_;intros)
 refine R.call (hct:=hAn) (h:= ?_)
 rintro _ _ ⟨ba,ca,rfl,har,rfl⟩
 try dsimp only[List.cons_append,List.nil_append]
 repeat(refine st ?_;intros)
 refine R.call (hct:=hSn) (h:= ?_)
 rintro _ _ ⟨bs,cs,rfl,hsp,rfl⟩
 try dsimp only[List.cons_append,List.nil_append]
 have hFn:=FileNew_ct bd ba bs
 repeat(refine st ?_;intros)
 refine R.call (hct:=hFn) (h:= ?_)
 rintro _ _ ⟨bw,rfl,rfl⟩
 try dsimp only[List.cons_append,List.nil_append]
 repeat(refine st ?_;intros)
 (refine Dn.post (Hr:=[wrow bw bd ba bs,cd,ca,cs]) Tryz.results14 (hR:= ?_);exact⟨bw,bd,ba,bs,cd,ca,cs,rfl,rfl,wc0 (by omega) hdev har hsp⟩)
end Go.Proofs.YtlnehgklibbjiaaGreat
namespace Go.Proofs.YtlnehgklibbjiaaGreat
open Go.SL Go.Spc Go.Tup Go.Srt
theorem awake17ct:CtQ Tryz.prog 13 [] [] (.bool true):=by
 have hWk:Ct Tryz.prog 14 [.int .i64 9] [] fun v H'=>
  ∃bw bd ba bs cd ca cs,v=pv bw∧H'=[wrow bw bd ba bs,cd,ca,cs]∧Wc bd ba bs (wk0 10 9000 90) cd ca cs:=work17ct 9 (by omega)
 have hflv:∀f:Fl,flv f= .agg #[.int .i64 (f.first:Int),.int .i64 (f.blocks:Int),.int .i64 (f.width:Int),.int .i64 (f.count:Int)]:=fun _=>rfl
 refine Ct.intro Tryz.func13 rfl Tryz.ntmps13 (nle rfl) fun w0=> ?_;dsimp only[argSlots,Nat.reduceAdd]
 repeat(refine st ?_;intros)
 refine R.call (hct:=hWk) (h:= ?_)
 rintro _ _ ⟨bw,bd,ba,bs,cd,ca,cs,rfl,rfl,hW⟩
 try dsimp only[List.cons_append,List.nil_append]
 repeat(refine st ?_;intros)
 rename_i bl
 have hRV:RV (some ⟨bl,0,none⟩) 1 [⟨0,0,0,0,0⟩] [(bl,row [.int .i64 0,.int .i64 0,.int .i64 0,.int .i64 0,.int .i64 0] 47)]:=⟨rfl,.inr ⟨bl,0,_,_,_,rfl,rfl,rfl⟩⟩
 have hn1:nblocks 10 2 1=1:=by decide
 have hLy:=Lay_k bw bd ba bs _ cd ca cs hW 2 (by omega) (by omega) _ 1 1 _ _ hRV (by omega) (by
  intro t ht
  simp only[List.mem_singleton] at ht;subst ht
  exact okT2 in_0 in_0) (by decide) rfl (by decide) (by rw[big0];decide)
 rw[show(wk0 10 9000 90).δ.size=10 from rfl,hn1] at hLy
 refine R.call (hct:=hLy) (h:= ?_)
 rintro _ _ ⟨cd1,ca1,cs1,W1,f,rfl,rfl,hW1,hE1,hK1,hg1,hl1,hf1,hc1,hb1,hfo1⟩
 try dsimp only[List.cons_append,List.nil_append]
 have hsz1:W1.δ.size=10:=hE1.size
 have hrm1:W1.α.room=90:=hE1.room
 have hus1:W1.α.used=0:=used_eq hW hW1 hg1
 have hbg1:=hE1.big
 have hac1:=hE1.acts.2
 rw[big0] at hbg1
 rw[show(wk0 10 9000 90).δ.acts=0 from rfl] at hac1
 have hLy2:=Lay_k bw bd ba bs W1 cd1 ca1 cs1 hW1 5 (by omega) (by omega) none 0 0 [] [] ⟨rfl,.inl ⟨rfl,rfl⟩⟩ (by omega) (by simp) (by omega) (hE1.fault rfl) (by omega) (by rw[hsz1];exact Nat.zero_le _)
 have hn0:nblocks 10 5 0=0:=by decide
 rw[hsz1,hn0] at hLy2
 rw[hflv]
 repeat(refine st ?_;intros)
 refine R.call (hct:=hLy2) (h:= ?_)
 rintro _ _ ⟨cd2,ca2,cs2,W2,g,rfl,rfl,hW2,hE2,hK2,hg2,hl2,hf2,hc2,hb2,hfo2⟩
 try dsimp only[List.cons_append,List.nil_append]
 have hsz2:W2.δ.size=10:=hE2.size.trans hsz1
 have hrm2:W2.α.room=90:=hE2.room.trans hrm1
 have hus2:W2.α.used=0:=(used_eq hW1 hW2 hg2).trans hus1
 have hbg2:=hE2.big
 have hac2:=hE2.acts.2
 have hfi:FileIn W2 (f,[⟨0,0,0,0,0⟩]):=(FileIn.new (by exact hfo1) hsz1 hl1).stay hE2.size hK2 (mem_addF hl2)
 have hgi:FileIn W2 (g,[]):=FileIn.new hfo2 hsz2 hl2
 have hsT:=sortT_le (b:=2) (m:=2) (l:=0) (by omega) (by decide)
 have hT:=Trees_ct bw bd ba bs W2 cd2 ca2 cs2 hW2 f g _ _ hfi hgi hf1 hf2 2 (by omega) (by omega) (by rw[hc1];decide+kernel) (by omega) (by omega)
 rw[hflv,hflv] at hT
 rw[hflv]
 repeat(refine st ?_;intros)
 refine R.call (hct:=hT) (h:= ?_)
 rintro _ _ (⟨_,x,e,cd3,ca3,cs3,W3,rfl,rfl,hW3,hS3,hw3⟩|⟨hsm,_⟩)
 rotate_left
 ·exfalso;omega
 dsimp only[List.cons_append,List.nil_append]
 obtain⟨rfl,hl3,hfo3,_⟩:=stepped_ok hS3 (hE2.fault (hE1.fault rfl))
 have hx1:(x.count:Int)=1:=by
  have h1:=hfo3.len
  have h2:(treesF [⟨0,0,0,0,0⟩] []).length=1:=by decide+kernel
  omega
 rw[hflv,hx1]
 repeat(refine st ?_;intros)
 (refine Dn.post (Hr:=[]) Tryz.results13 (hR:= ?_);exact⟨congrArg Value.bool (dec_true rfl),rfl⟩)
end Go.Proofs.YtlnehgklibbjiaaGreat
