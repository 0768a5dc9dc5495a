/-
  Parts of the proof, put together: Tree5, LayK, Work17, TreeA, Rws, Ref03, Gr, Labels, Comp15. No condition.
-/
import Derived.Test.YtlnehgklibbjiaaGreatD22
set_option linter.unusedVariables false
set_option linter.unusedSimpArgs false
set_option linter.unnecessarySimpa false
set_option maxHeartbeats 4000000
namespace Go.Proofs.YtlnehgklibbjiaaGreat
open Go.SL Go.Spc Go.Tup Go.Srt
theorem numM_all (a b a' b':Nat):∀(ts:List T5) (k:Int×Int),(numM a b).all k ts=(numM a' b').all k ts
 |[],_=>rfl
 |t::ts,k=>by simp only[Maker.all];rw[show(numM a b).next k t=(numM a' b').next k t from rfl,numM_all a b a' b' ts];rfl
theorem numM_len (a b:Nat) (k:Int×Int) (t:T5):((numM a b).outs k t).length≤1:=by
 unfold numM;dsimp only;split<;>simp
def treesF (lts tts:List T5):List T5:=srt (ltO o1) false ((numM 0 0).all (0,0) (visitsF lts tts))
theorem Trees_ct (bw bd ba bs:Nat) (W:Wk) (cd ca cs:Chunk) (h:Wc bd ba bs W cd ca cs) (lf tf:Fl) (lts tts:List T5) (hl:FileIn W (lf,lts)) (ht:FileIn W (tf,tts)) (hw2:lf.width=2) (hw5:tf.width=5) (N:Nat) (hN:lf.count+tf.count+1≤N) (hNb:N≤1000)
  (hcnt:((numM 0 0).all (0,0) (visitsF lts tts)).length≤lf.count) (hroom:7*N+4*sortT N≤big W.σ.free) (hac:W.δ.acts≤1000000):
  Ct Tryz.prog 15 [pv bw,flv lf,flv tf] [wrow bw bd ba bs,cd,ca,cs] (LayerQ bw bd ba bs W cd cs 115000 (7*N+4*sortT N) none (treesF lts tts) 5):=by
 have hflv:∀f:Fl,flv f= .agg #[.int .i64 (f.first:Int),.int .i64 (f.blocks:Int),.int .i64 (f.width:Int),.int .i64 (f.count:Int)]:=fun _=>rfl
 have hfl4:∀f:Fl,fl4 f=[.int .i64 (f.first:Int),.int .i64 (f.blocks:Int),.int .i64 (f.width:Int),.int .i64 (f.count:Int)]:=fun _=>rfl
 have hz:flv ⟨0,0,0,0⟩= .agg #[.int .i64 0,.int .i64 0,.int .i64 0,.int .i64 0]:=rfl
 have hB:=fun b=>Begin_ct bw bd ba bs W cd ca cs h [(lf,lts),(tf,tts)] (by simp only[List.mem_cons,List.not_mem_nil,or_false];rintro x (rfl|rfl);exact hl;exact ht) (by simp) (some ⟨b,0,none⟩) 2 _ (vec2 b lf tf)
 simp only[hfl4,List.cons_append,List.nil_append] at hB
 rw[hflv,hflv]
 refine Ct.intro Tryz.func15 rfl Tryz.ntmps15 (nle rfl) fun w0=> ?_;dsimp only[argSlots,Nat.reduceAdd]
 repeat(first|(refine st ?_;intros)|refine G.draw (id:=7) [(7,.eff [2])] (h:= ?_))
 refine R.call (hct:=hB _) (h:= ?_)
 rintro _ _ ⟨ca1,α1,hW1,hg1,hr1,⟨hroom8,bj,rfl,rfl⟩|⟨hsmall,rfl,rfl⟩⟩
 rotate_left
 ·dsimp only[List.cons_append,List.nil_append]
  repeat(first|(refine st ?_;intros)|refine G.draw (id:=7) [(7,.eff [2])] (h:= ?_))
  (refine Dn.post (Hr:=[wrow bw bd ba bs,cd,ca1,cs]) Tryz.results15 (hR:= ?_);exact .inr ⟨hsmall,rfl,ca1,α1,rfl,hW1,hg1,hr1⟩)
 dsimp only[List.cons_append,List.nil_append]
 obtain⟨hp,hJ⟩:=begun_job (bj:=bj) h hW1 hg1 hr1 hroom8
 have hl0:In0 (begP bw bd ba bs bj W) (lf,lts):=begun_in0 hl
 have ht0:In0 (begP bw bd ba bs bj W) (tf,tts):=begun_in0 ht
 have hb0:(begP bw bd ba bs bj W).b0=big W.σ.free:=rfl
 obtain⟨hs8,_⟩:=hp.size
 have hnb:∀{k n:Nat},1≤k→k≤5→n≤N→nblocks (begP bw bd ba bs bj W).size k n≤N:=fun h1 h2 h3=>Nat.le_trans (nb_le hs8 h1 h2) h3
 have hV:=visits_ct _ hp _ _ hJ lf tf lts tts hl0 ht0 hw5 N hN hNb (fun _=>by dsimp only;omega) (by dsimp only;omega) (by simp)
 have hV2:=Ct.convP (H:=[jrow bj bw 0 none 0 0,wrow bw bd ba bs,cd,ca1,cs]) hV (jobC_open (p:=begP bw bd ba bs bj W)) (fun v H' hh=>⟨H',hh,.refl _⟩)
 have hbj:(begP bw bd ba bs bj W).bj=bj:=rfl
 rw[hflv,hflv,hbj] at hV2
 obtain⟨hlc,hlfit,_⟩:=in0file hl0
 obtain⟨htc,htfit,_⟩:=in0file ht0
 dsimp only at hlc hlfit htc htfit
 rw[hw5] at htfit
 repeat(first|(refine st ?_;intros)|refine G.draw (id:=7) [(7,.eff [2])] (h:= ?_))
 rename_i b10 b11
 refine R.callX (hct:=hV2) (h:= ?_)
 rintro _ _ ⟨vf,rf,sf,C2,e2,rfl,rfl,hJ2,hx2,hc2,hb2⟩
 dsimp only[List.cons_append,List.nil_append]
 constructor
 ·(·(first|(intro _ _ h;cases h;done)|(repeat(first|exact qok_nil|(apply qok_cons;(·first|(intro hc;exact absurd hc (nmem rfl))|(intro _;apply CellPr.mk;(·repeat(first|exact Has.here|apply Has.there));(first|exact rfl|assumption))|(intro _;apply CellsPr.mk;(·repeat(first|exact Has.here|apply Has.there));(first|exact rfl|assumption))))))))
 try dsimp only at hJ2 hx2
 rw[hflv]
 have hvok:=visitsF_ok lts tts hlfit htfit
 have hna:(numM b11 b10).all (0,0) (visitsF lts tts)=(numM 0 0).all (0,0) (visitsF lts tts):=numM_all b11 b10 0 0 _ _
 have hM:=fun b=>JMake1 _ hp _ C2 hJ2 (numM b11 b10) (0,0) (fun _ _=>rfl) 5 lf.count 1 5000 N (by omega) (by omega) (by omega) 46 inferInstance [pv b11,pv b10] _ (num_mk b11 b10) (fun k t _=>numM_len b11 b10 k t) (by omega) vf _ (.inl List.mem_cons_self) (by omega)
  (Maker.oks_of (M:=numM b11 b10) (I:=fun _=>True) (Q:=okT 5) (fun _ t _ h=>⟨h,trivial⟩) _ (0,0) trivial hvok) (fun _=>by rw[hna];exact hcnt) (hnb (by omega) (by omega) (by omega)) (fun _=> .inr (by dsimp only;omega)) (by omega) (by dsimp only;omega) (by simp only[List.length_cons,List.length_nil];omega) b
 rw[hna] at hM
 simp only[hfl4,numM_C,hbj] at hM
 repeat(first|(refine st ?_;intros)|refine G.draw (id:=7) [(7,.eff [2])] (h:= ?_))
 refine R.callX (hct:=hM _) (h:= ?_)
 rintro _ _ ⟨f3,C3,e3,⟨dp',nm'⟩,rfl,rfl,hJ3,hx3,hc3,hb3⟩
 dsimp only[List.cons_append,List.nil_append]
 constructor
 ·(·(first|(intro _ _ h;cases h;done)|(repeat(first|exact qok_nil|(apply qok_cons;(·first|(intro hc;exact absurd hc (nmem rfl))|(intro _;apply CellPr.mk;(·repeat(first|exact Has.here|apply Has.there));(first|exact rfl|assumption))|(intro _;apply CellsPr.mk;(·repeat(first|exact Has.here|apply Has.there));(first|exact rfl|assumption))))))))
 try dsimp only at hJ3 hx3
 rw[hflv]
 have hN3:f3.blocks≤N:=Nat.le_trans hb3 (hnb (by omega) (by omega) (by omega))
 have hS:=JSort _ hp _ C3 hJ3 f3 _ _ o1 rfl false 20000 (sortT N) (fun _=> .refl _) (fun _=>sortT_mono hN3) (fun _=> .inr (by dsimp only;omega)) (fun _=>sortA_small (by omega)) (by dsimp only;omega) (by omega)
 dsimp only at hS
 rw[hflv,hbj] at hS
 repeat(first|(refine st ?_;intros)|refine G.draw (id:=7) [(7,.eff [2])] (h:= ?_))
 refine R.call (hct:=hS) (h:= ?_)
 rintro _ _ ⟨f4,C4,e4,rfl,rfl,hJ4,hx4,hc4,hb4⟩
 try dsimp only[List.cons_append,List.nil_append]
 rw[hflv]
 have hRs:=fun b=>JResult1 _ hp _ C4 hJ4 f4 b
 simp only[hfl4,hbj] at hRs
 repeat(first|(refine st ?_;intros)|refine G.draw (id:=7) [(7,.eff [2])] (h:= ?_))
 refine R.call (hct:=hRs _) (h:= ?_)
 rintro _ _ ⟨cd5,ca5,cs5,W5,rfl,rfl,hW5,hD⟩
 try dsimp only[List.cons_append,List.nil_append]
 have hSt:=done_stepped (A:=115000) (T:=7*N+4*sortT N) hD rfl (by dsimp only;omega) (by dsimp only;omega)
 dsimp only at hSt
 by_cases he:e4=0
 ·subst he
  rw[if_pos rfl] at hSt
  repeat(first|(refine st ?_;intros)|refine G.draw (id:=7) [(7,.eff [2])] (h:= ?_))
  (refine Dn.post (Hr:=[wrow bw bd ba bs,cd5,ca5,cs5]) Tryz.results15 (hR:= ?_);exact .inl ⟨hroom8,f4,0,cd5,ca5,cs5,W5,rfl,rfl,hW5,hSt,fun _=>(hx4 rfl).2.1.trans (hx3 (hx4 rfl).1).2.2.1⟩)
 ·rw[if_neg he] at hSt
  repeat(first|(refine st ?_;intros)|refine G.draw (id:=7) [(7,.eff [2])] (h:= ?_))
  (refine Dn.post (Hr:=[wrow bw bd ba bs,cd5,ca5,cs5]) Tryz.results15 (hR:= ?_);exact .inl ⟨hroom8,⟨0,0,0,0⟩,e4,cd5,ca5,cs5,W5,rfl,rfl,hW5,hSt,fun h=>absurd h he⟩)
theorem big0 (s n room:Nat):big (wk0 s n room).σ.free=n:=by simp[wk0,big]
theorem Lay_k (bw bd ba bs:Nat) (W:Wk) (cd ca cs:Chunk) (h:Wc bd ba bs W cd ca cs) (k:Nat) (h1:1≤k) (h2:k≤5) (p:Option Addr) (n cap:Nat) (ts:List T5) (c:Chunk) (hv:RV p n ts c) (hn:n≤100000000) (hok:∀t∈ts,okT k t)
  (hr:W.δ.size≤W.α.room-W.α.used) (hf:W.δ.fault= -1) (hac:W.δ.acts≤100000000000) (hb:nblocks W.δ.size k n≤big W.σ.free):
  Ct Tryz.prog 39 [pv bw,.int .i64 (k:Int),.slice p n cap] [wrow bw bd ba bs,cd,ca,cs,c] fun v H'=>
   ∃cd' ca' cs' W' f,v= .tuple #[flv f,.int .i64 0]∧H'=[wrow bw bd ba bs,cd',ca',cs',c]∧Wc bd ba bs W' cd' ca' cs'∧Ev W W' (nblocks W.δ.size k n) (nblocks W.δ.size k n)∧Keep W.live W W'∧W'.α.gs.Perm W.α.gs∧
    W'.live.Perm (addF f W.live)∧f.width=k∧f.count=n∧f.blocks=nblocks W.δ.size k n∧FileOk W'.δ.disk W.δ.size [f.ext] f ts:=by
 refine(Lay_ct bw bd ba bs W cd ca cs h k h1 h2 p n cap ts c hv hn hok hr hf hac).mono ?_
 rintro v H' ⟨cd',ca',cs',W',rfl,hW,hE,hK,hg,⟨_,f,rfl,hl,hw,hc,hfo⟩|⟨hx,_⟩⟩
 ·exact⟨cd',ca',cs',W',f,rfl,rfl,hW,hE,hK,hg,by rw[hl];exact .refl _,hw,hc,by rw[hfo.blk,hw,hc],hfo⟩
 ·omega
theorem FileIn.stay {W W':Wk} {x:Fl×List T5} (h:FileIn W x) (hs:W'.δ.size=W.δ.size) (hk:Keep W.live W W') (hl:∀e∈W.live,e∈W'.live):FileIn W' x:=by
 obtain⟨Lv,h1,h2⟩:=h
 refine⟨Lv,?_,fun e he=>hl e (h2 e he)⟩
 rw[hs]
 exact h1.keep fun y ⟨e,he,h3⟩=>hk y ⟨e,h2 e he,h3⟩
theorem FileIn.new {W':Wk} {s:Nat} {f:Fl} {ts:List T5} {l:List Ext} (h:FileOk W'.δ.disk s [f.ext] f ts) (hs:W'.δ.size=s) (hl:W'.live.Perm (addF f l)):FileIn W' (f,ts):=by
 subst hs
 exact fo_sub h hl
theorem mem_addF {f:Fl} {l l':List Ext} (h:l'.Perm (addF f l)):∀e∈l,e∈l':=fun _ he=>h.mem_iff.2 (addF_mem he)
theorem stepped_ok {p:Jp} {W W':Wk} {A T:Nat} {ts:List T5} {f:Fl} {e:Int} (h:Stepped p W W' A T none ts f e) (hf:W.δ.fault= -1):e=0∧W'.live.Perm (addF f W.live)∧FileOk W'.δ.disk W.δ.size [f.ext] f ts∧W'.δ.fault= -1:=by
 rcases h.res with⟨h1,_,h2,h3⟩|⟨_,_,_,⟨_,h1⟩|⟨m,h1,_⟩⟩
 ·exact⟨h1,h2,h3,h.fault hf⟩
 ·exact absurd hf h1
 ·cases h1
end Go.Proofs.YtlnehgklibbjiaaGreat
namespace Go.Proofs.YtlnehgklibbjiaaGreat
open Go.SL Go.Spc Go.Tup
theorem work17ct (n:Nat) (hn:n≤1000):Ct Tryz.prog 14 [.int .i64 (n:Int)] [] fun v H'=>
  ∃bw bd ba bs cd ca cs,v=pv bw∧H'=[wrow bw bd ba bs,cd,ca,cs]∧Wc bd ba bs (wk0 10 9000 (10*n)) cd ca cs:=by
 have hDn:=DevNew_u 10 9000 (by omega) (by omega)
 have hAn:=ArenaNew_ct (10*n) (by omega)
 have hSn:=SpaceNew_ct 9000 (by omega) (by omega)
 have e1:IntKind.wrap .i64 ((10:Int)*(n:Int))=((10*n:Nat):Int):=by rw[wrap_i64 (by omega)];omega
 refine Ct.intro Tryz.func14 rfl Tryz.ntmps14 (nle rfl) fun w0=> ?_;dsimp only[argSlots,Nat.reduceAdd]
 repeat(refine st ?_;intros)
 refine R.call (hct:=hDn) (h:= ?_)
 rintro _ _ ⟨bd,cd,rfl,rfl,hdev⟩
 try dsimp only[List.cons_append,List.nil_append]
 repeat(refine st ?_;intros)
 refine R.call (hct:=hAn) (h:= ?_)
 rintro _ _ ⟨ba,ca,rfl,har,rfl⟩
 try dsimp only[List.cons_append,List.nil_append]
 repeat(refine st ?_;intros)
 refine R.call (hct:=hSn) (h:= ?_)
 rintro _ _ ⟨bs,cs,rfl,hsp,rfl⟩
 try dsimp only[List.cons_append,List.nil_append]
 have hFn:=FileNew_ct bd ba bs
 repeat(refine st ?_;intros)
 refine R.call (hct:=hFn) (h:= ?_)
 rintro _ _ ⟨bw,rfl,rfl⟩
 try dsimp only[List.cons_append,List.nil_append]
 repeat(refine st ?_;intros)
 (refine Dn.post (Hr:=[wrow bw bd ba bs,cd,ca,cs]) Tryz.results14 (hR:= ?_);exact⟨bw,bd,ba,bs,cd,ca,cs,rfl,rfl,wc0 (by omega) hdev har hsp⟩)
end Go.Proofs.YtlnehgklibbjiaaGreat
namespace Go.Proofs.YtlnehgklibbjiaaGreat
open Go.SL Go.Spc Go.Tup Go.Srt
theorem awake17ct:CtQ Tryz.prog 13 [] [] (.bool true):=by
 have hWk:Ct Tryz.prog 14 [.int .i64 9] [] fun v H'=>
  ∃bw bd ba bs cd ca cs,v=pv bw∧H'=[wrow bw bd ba bs,cd,ca,cs]∧Wc bd ba bs (wk0 10 9000 90) cd ca cs:=work17ct 9 (by omega)
 have hflv:∀f:Fl,flv f= .agg #[.int .i64 (f.first:Int),.int .i64 (f.blocks:Int),.int .i64 (f.width:Int),.int .i64 (f.count:Int)]:=fun _=>rfl
 refine Ct.intro Tryz.func13 rfl Tryz.ntmps13 (nle rfl) fun w0=> ?_;dsimp only[argSlots,Nat.reduceAdd]
 repeat(refine st ?_;intros)
 refine R.call (hct:=hWk) (h:= ?_)
 rintro _ _ ⟨bw,bd,ba,bs,cd,ca,cs,rfl,rfl,hW⟩
 try dsimp only[List.cons_append,List.nil_append]
 repeat(refine st ?_;intros)
 rename_i bl
 have hRV:RV (some ⟨bl,0,none⟩) 1 [⟨0,0,0,0,0⟩] [(bl,row [.int .i64 0,.int .i64 0,.int .i64 0,.int .i64 0,.int .i64 0] 47)]:=⟨rfl,.inr ⟨bl,0,_,_,_,rfl,rfl,rfl⟩⟩
 have hn1:nblocks 10 2 1=1:=by decide
 have hLy:=Lay_k bw bd ba bs _ cd ca cs hW 2 (by omega) (by omega) _ 1 1 _ _ hRV (by omega) (by
  intro t ht
  simp only[List.mem_singleton] at ht;subst ht
  exact okT2 in_0 in_0) (by decide) rfl (by decide) (by rw[big0];decide)
 rw[show(wk0 10 9000 90).δ.size=10 from rfl,hn1] at hLy
 refine R.call (hct:=hLy) (h:= ?_)
 rintro _ _ ⟨cd1,ca1,cs1,W1,f,rfl,rfl,hW1,hE1,hK1,hg1,hl1,hf1,hc1,hb1,hfo1⟩
 try dsimp only[List.cons_append,List.nil_append]
 have hsz1:W1.δ.size=10:=hE1.size
 have hrm1:W1.α.room=90:=hE1.room
 have hus1:W1.α.used=0:=used_eq hW hW1 hg1
 have hbg1:=hE1.big
 have hac1:=hE1.acts.2
 rw[big0] at hbg1
 rw[show(wk0 10 9000 90).δ.acts=0 from rfl] at hac1
 have hLy2:=Lay_k bw bd ba bs W1 cd1 ca1 cs1 hW1 5 (by omega) (by omega) none 0 0 [] [] ⟨rfl,.inl ⟨rfl,rfl⟩⟩ (by omega) (by simp) (by omega) (hE1.fault rfl) (by omega) (by rw[hsz1];exact Nat.zero_le _)
 have hn0:nblocks 10 5 0=0:=by decide
 rw[hsz1,hn0] at hLy2
 rw[hflv]
 repeat(refine st ?_;intros)
 refine R.call (hct:=hLy2) (h:= ?_)
 rintro _ _ ⟨cd2,ca2,cs2,W2,g,rfl,rfl,hW2,hE2,hK2,hg2,hl2,hf2,hc2,hb2,hfo2⟩
 try dsimp only[List.cons_append,List.nil_append]
 have hsz2:W2.δ.size=10:=hE2.size.trans hsz1
 have hrm2:W2.α.room=90:=hE2.room.trans hrm1
 have hus2:W2.α.used=0:=(used_eq hW1 hW2 hg2).trans hus1
 have hbg2:=hE2.big
 have hac2:=hE2.acts.2
 have hfi:FileIn W2 (f,[⟨0,0,0,0,0⟩]):=(FileIn.new (by exact hfo1) hsz1 hl1).stay hE2.size hK2 (mem_addF hl2)
 have hgi:FileIn W2 (g,[]):=FileIn.new hfo2 hsz2 hl2
 have hsT:=sortT_le (b:=2) (m:=2) (l:=0) (by omega) (by decide)
 have hT:=Trees_ct bw bd ba bs W2 cd2 ca2 cs2 hW2 f g _ _ hfi hgi hf1 hf2 2 (by omega) (by omega) (by rw[hc1];decide+kernel) (by omega) (by omega)
 rw[hflv,hflv] at hT
 rw[hflv]
 repeat(refine st ?_;intros)
 refine R.call (hct:=hT) (h:= ?_)
 rintro _ _ (⟨_,x,e,cd3,ca3,cs3,W3,rfl,rfl,hW3,hS3,hw3⟩|⟨hsm,_⟩)
 rotate_left
 ·exfalso;omega
 dsimp only[List.cons_append,List.nil_append]
 obtain⟨rfl,hl3,hfo3,_⟩:=stepped_ok hS3 (hE2.fault (hE1.fault rfl))
 have hx1:(x.count:Int)=1:=by
  have h1:=hfo3.len
  have h2:(treesF [⟨0,0,0,0,0⟩] []).length=1:=by decide+kernel
  omega
 rw[hflv,hx1]
 repeat(refine st ?_;intros)
 (refine Dn.post (Hr:=[]) Tryz.results13 (hR:= ?_);exact⟨congrArg Value.bool (dec_true rfl),rfl⟩)
end Go.Proofs.YtlnehgklibbjiaaGreat
namespace Go.Proofs.YtlnehgklibbjiaaGreat
open Go.SL Go.Tup
section
variable {α:Type} {f:α→List Value} {k:Nat}
theorem fm_len (hf:∀a,(f a).length=k):∀l:List α,(l.flatMap f).length=l.length*k
 |[]=>by simp
 |a::l=>by rw[List.flatMap_cons,List.length_append,hf,fm_len hf l,List.length_cons,Nat.succ_mul];omega
theorem fm_drop (hf:∀a,(f a).length=k):∀(l:List α) (i:Nat),(l.flatMap f).drop (i*k)=(l.drop i).flatMap f
 |[],i=>by simp
 |a::l,0=>by simp
 |a::l,i+1=>by
  rw[List.flatMap_cons,List.drop_succ_cons,←fm_drop hf l i,show(i+1)*k=(f a).length+i*k by rw[hf,Nat.succ_mul];omega,List.drop_append]
  simp
theorem fm_cut (hf:∀a,(f a).length=k) {l:List α} {i:Nat} {a:α} (h:l[i]? =some a):((l.flatMap f).drop (i*k)).take k=f a:=by
 obtain⟨hi,rfl⟩:=List.getElem?_eq_some_iff.1 h
 rw[fm_drop hf,List.drop_eq_getElem_cons hi,List.flatMap_cons,List.take_left' (hf _)]
theorem fm_cutR (hf:∀a,(f a).length=k) {l:List α} {i:Nat} {a:α} (h:l[i]? =some a) (rest:List Value):((l.flatMap f++rest).drop (i*k)).take k=f a:=by
 obtain⟨hi,_⟩:=List.getElem?_eq_some_iff.1 h
 have hl:=fm_len hf l
 have h1:(i+1)*k≤l.length*k:=Nat.mul_le_mul_right _ hi
 rw[Nat.succ_mul] at h1
 rw[List.drop_append_of_le_length (by omega),List.take_append_of_le_length (by rw[List.length_drop];omega),fm_cut hf h]
theorem fm_get (hf:∀a,(f a).length=k) {l:List α} {i j:Nat} {a:α} {v:Value} (h:l[i]? =some a) (hj:(f a)[j]? =some v) (rest:List Value):(l.flatMap f++rest)[i*k+j]? =some v:=by
 have h1:=fm_cutR hf h rest
 have hjk:j<k:=by have:=(List.getElem?_eq_some_iff.1 hj).1;rw[hf] at this;exact this
 have h2:=congrArg (fun l=>l[j]?) h1
 simp only[List.getElem?_take,if_pos hjk,List.getElem?_drop] at h2
 rw[h2,hj]
theorem fm_set (hf:∀a,(f a).length=k) (l:List α) (i:Nat) (b:α) (rest:List Value) (h:i<l.length):setL (l.flatMap f++rest) (i*k) (f b)=(l.set i b).flatMap f++rest:=by
 obtain⟨l1,a,l2,rfl,hl1⟩:∃l1 a l2,l=l1++a::l2∧l1.length=i:=⟨l.take i,l[i],l.drop (i+1),by rw[←List.drop_eq_getElem_cons h,List.take_append_drop],by simp;omega⟩
 subst hl1
 have h1:=fm_len hf l1
 rw[setL_eq _ _ _ (by simp only[List.flatMap_append,List.flatMap_cons,List.length_append,fm_len hf,hf];omega)]
 rw[List.set_append_right _ _ (Nat.le_refl _),Nat.sub_self,List.set_cons_zero]
 simp only[List.flatMap_append,List.flatMap_cons,List.append_assoc]
 rw[←h1,List.take_left,hf]
 congr 2
 rw[←List.drop_drop,List.drop_left,←hf a,List.drop_left]
theorem view_get {cs xs:List Value} {off m i:Nat} {v:Value} (h:(cs.drop off).take m=xs) (hv:xs[i]? =some v):cs[off+i]? =some v:=by
 rw[←h,List.getElem?_take] at hv
 split at hv
 ·rwa[List.getElem?_drop] at hv
 ·cases hv
theorem view_cut {cs xs vs:List Value} {off m i q:Nat} (h:(cs.drop off).take m=xs) (hv:(xs.drop i).take q=vs) (hq:vs.length=q):(cs.drop (off+i)).take q=vs:=by
 rw[←h,List.drop_take,List.drop_drop,List.take_take] at hv
 have h1:(vs.length:Nat)≤m-i:=by
  rw[←hv,List.length_take];omega
 rw[show min q (m-i)=q by omega] at hv
 exact hv
def Rw (f:α→List Value) (k:Nat) (p:Option Addr) (m:Nat) (xs:List α) (c:Chunk):Prop:=
 xs.length=m∧((m=0∧c=[])∨∃b off cs T fz,p=some ⟨b,off,none⟩∧c=[(b,rowf cs T fz)]∧(cs.drop off).take (m*k)=xs.flatMap f)
theorem Rw.pos (hf:∀a,(f a).length=k) {p:Option Addr} {m:Nat} {xs:List α} {c:Chunk} (h:Rw f k p m xs c) (hm:0<m):∃b off cs T fz,p=some ⟨b,off,none⟩∧c=[(b,rowf cs T fz)]∧
  (∀i a,xs[i]? =some a→(cs.drop (off+i*k)).take k=f a)∧∀i j a v,xs[i]? =some a→(f a)[j]? =some v→cs[off+i*k+j]? =some v:=by
 obtain⟨hl,⟨h0,_⟩|⟨b,off,cs,T,fz,rfl,rfl,h⟩⟩:=h
 ·omega
 ·refine⟨b,off,cs,T,fz,rfl,rfl,fun i a hi=>view_cut h (fm_cut hf hi) (hf a),fun i j a v hi hj=> ?_⟩
  have:=fm_get hf hi hj []
  rw[List.append_nil] at this
  rw[Nat.add_assoc]
  exact view_get h this
theorem Rw.ofVec (hf:∀a,(f a).length=k) {E:Nat} {p:Option Addr} {m cap:Nat} {xs:List α} {c:Chunk} (h:Vec E k p m cap (xs.flatMap f) c) (hk:0<k):Rw f k p m xs c:=by
 have hl:xs.length=m:=by have:=h.1;rw[fm_len hf] at this;exact Nat.eq_of_mul_eq_mul_right hk this
 rcases h.2 with⟨_,h0,_,hc⟩|⟨b,rest,hp,hc,_,_,_⟩
 ·exact⟨hl,.inl ⟨h0,hc⟩⟩
 ·refine⟨hl,.inr ⟨b,0,xs.flatMap f++rest,E,(0,0),hp,hc,?_⟩⟩
  rw[List.drop_zero,←h.1,List.take_left]
end
abbrev IE:=Int×Int
def ecl (e:IE):List Value:=[.int .i64 e.1,.int .i64 e.2]
def bcl (x:Bool):List Value:=[.bool x]
theorem ecl_len (e:IE):(ecl e).length=2:=rfl
theorem bcl_len (e:Bool):(bcl e).length=1:=rfl
theorem flat_fm:∀ts:List T5,flat ts=ts.flatMap tcells
 |[]=>rfl
 |t::ts=>by rw[List.flatMap_cons,←flat_fm ts];rfl
theorem tcells_len (t:T5):(tcells t).length=5:=rfl
theorem RV.rw {p:Option Addr} {n:Nat} {ts:List T5} {c:Chunk} (h:RV p n ts c):Rw tcells 5 p n ts c:=by
 obtain⟨h1,h2⟩:=h
 rw[flat_fm] at h2
 exact⟨h1,h2⟩
theorem Rw.rv {p:Option Addr} {n:Nat} {ts:List T5} {c:Chunk} (h:Rw tcells 5 p n ts c):RV p n ts c:=by
 obtain⟨h1,h2⟩:=h
 rw[←flat_fm] at h2
 exact⟨h1,h2⟩
def gv (n:Int) (p:Option Addr) (m cap:Nat):Value:= .agg #[.int .i64 n,.slice p m cap]
def inE (n:Int) (e:IE):Prop:=0≤e.1∧e.1<n∧0≤e.2∧e.2<n
instance (n:Int) (e:IE):Decidable (inE n e):=by unfold inE;infer_instance
def formedB (n:Int) (es:List IE):Bool:=decide (0≤n∧n≤1073741824∧es.length≤1073741824)&&es.all fun e=>decide (inE n e)
theorem Formed03ct (n:Int) (p:Option Addr) (m cap:Nat) (es:List IE) (c:Chunk) (hv:Rw ecl 2 p m es c) (hm:m≤maxLen):
  CtQ Tryz.prog 18 [gv n p m cap] [c] (.bool (formedB n es)):=by
 have hl:=hv.1
 simp only[maxLen] at hm
 have hbad:∀i e,es[i]? =some e→¬inE n e→formedB n es=false:=fun i e hi he=>by
  unfold formedB
  rw[Bool.and_eq_false_iff]
  exact .inr (by simp only[List.all_eq_false,decide_eq_true_eq];exact⟨e,List.mem_of_getElem? hi,he⟩)
 unfold gv
 by_cases h1:n<0
 ·have hb:formedB n es=false:=by unfold formedB;rw[decide_eq_false (by omega)];rfl
  rw[hb]
  refine Ct.intro Tryz.func18 rfl Tryz.ntmps18 (nle rfl) fun w0=> ?_;dsimp only[argSlots,Nat.reduceAdd]
  repeat(refine st ?_;intros)
  (refine Dn.post (Hr:=[c]) Tryz.results18 (hR:= ?_);exact⟨rfl,rfl⟩)
 by_cases h2:1073741824<n
 ·have hb:formedB n es=false:=by unfold formedB;rw[decide_eq_false (by omega)];rfl
  rw[hb]
  refine Ct.intro Tryz.func18 rfl Tryz.ntmps18 (nle rfl) fun w0=> ?_;dsimp only[argSlots,Nat.reduceAdd]
  repeat(refine st ?_;intros)
  (refine Dn.post (Hr:=[c]) Tryz.results18 (hR:= ?_);exact⟨rfl,rfl⟩)
 by_cases h3:1073741824<m
 ·have hb:formedB n es=false:=by unfold formedB;rw[decide_eq_false (by omega)];rfl
  rw[hb]
  refine Ct.intro Tryz.func18 rfl Tryz.ntmps18 (nle rfl) fun w0=> ?_;dsimp only[argSlots,Nat.reduceAdd]
  repeat(refine st ?_;intros)
  (refine Dn.post (Hr:=[c]) Tryz.results18 (hR:= ?_);exact⟨rfl,rfl⟩)
 refine Ct.intro Tryz.func18 rfl Tryz.ntmps18 (nle rfl) fun w0=> ?_;dsimp only[argSlots,Nat.reduceAdd]
 repeat(refine st ?_;intros)
 rename_i b1
 refine G.loop (X:=Nat) (fun i=>i≤m∧∀j e,j<i→es[j]? =some e→inE n e)
  (fun i=>[(3,.int .i64 (i:Int)),(1,pv b1)])
  (fun _=>[[(b1,row [.int .i64 n,.slice p m cap] 37)],c]) (fun i=>m-i) 0 ⟨Nat.zero_le _,fun j e h=>by omega⟩ (body:= ?_)
 rintro i ⟨hi,hin⟩
 by_cases hlt:i<m
 ·obtain⟨b,off,cs,T,fz,rfl,rfl,hcut,hget⟩:=hv.pos ecl_len (by omega)
  have hie:es[i]? =some es[i]:=List.getElem?_eq_getElem (by omega)
  have hc:=hcut i _ hie
  have hno:=hbad i _ hie
  generalize he:es[i]=e at*
  obtain⟨u,v⟩:=e
  have hc':(cs.drop (off+i*2)).take 2=[.int .i64 u,.int .i64 v]:=hc
  by_cases g1:u<0
  ·rw[hno (by unfold inE;dsimp only;omega)]
   repeat(refine st ?_;intros)
   (refine Dn.post (Hr:=[[(b,rowf cs T fz)]]) Tryz.results18 (hR:= ?_);exact⟨rfl,rfl⟩)
  by_cases g2:n≤u
  ·rw[hno (by unfold inE;dsimp only;omega)]
   repeat(refine st ?_;intros)
   (refine Dn.post (Hr:=[[(b,rowf cs T fz)]]) Tryz.results18 (hR:= ?_);exact⟨rfl,rfl⟩)
  by_cases g3:v<0
  ·rw[hno (by unfold inE;dsimp only;omega)]
   repeat(refine st ?_;intros)
   (refine Dn.post (Hr:=[[(b,rowf cs T fz)]]) Tryz.results18 (hR:= ?_);exact⟨rfl,rfl⟩)
  by_cases g4:n≤v
  ·rw[hno (by unfold inE;dsimp only;omega)]
   repeat(refine st ?_;intros)
   (refine Dn.post (Hr:=[[(b,rowf cs T fz)]]) Tryz.results18 (hR:= ?_);exact⟨rfl,rfl⟩)
  repeat(refine st ?_;intros)
  refine Dn.round (i+1) ⟨by omega,fun j e hj hje=> ?_⟩ (by omega)
  by_cases hji:j=i
  ·subst hji
   rw[hie] at hje
   simp only[Option.some.injEq] at hje
   subst hje
   exact⟨by dsimp only;omega,by dsimp only;omega,by dsimp only;omega,by dsimp only;omega⟩
  ·exact hin j e (by omega) hje
 ·obtain rfl:i=m:=by omega
  have hb:formedB n es=true:=by
   unfold formedB
   rw[decide_eq_true (by omega),Bool.true_and,List.all_eq_true]
   intro e he
   obtain⟨j,hj,rfl⟩:=List.getElem_of_mem he
   exact decide_eq_true (hin j _ (by omega) (List.getElem?_eq_getElem hj))
  rw[hb]
  repeat(refine st ?_;intros)
  (refine Dn.post (Hr:=[c]) Tryz.results18 (hR:= ?_);exact⟨rfl,rfl⟩)
theorem Few03ct (n:Int) (p:Option Addr) (m cap:Nat) (a b:Int) (hm:m≤maxLen):CtQ Tryz.prog 19 [gv n p m cap,.int .i64 a,.int .i64 b] [] (.bool (dec (n≤a∧(m:Int)≤b))):=by
 simp only[maxLen] at hm
 unfold gv
 by_cases h1:n≤a
 ·by_cases h2:(m:Int)≤b
  ·rw[dec_true ⟨h1,h2⟩]
   refine Ct.intro Tryz.func19 rfl Tryz.ntmps19 (nle rfl) fun w0=> ?_;dsimp only[argSlots,Nat.reduceAdd]
   repeat(refine st ?_;intros)
   (refine Dn.post (Hr:=[]) Tryz.results19 (hR:= ?_);exact⟨congrArg Value.bool (dec_true h2),rfl⟩)
  ·rw[dec_false (by omega)]
   refine Ct.intro Tryz.func19 rfl Tryz.ntmps19 (nle rfl) fun w0=> ?_;dsimp only[argSlots,Nat.reduceAdd]
   repeat(refine st ?_;intros)
   (refine Dn.post (Hr:=[]) Tryz.results19 (hR:= ?_);exact⟨congrArg Value.bool (dec_false h2),rfl⟩)
 ·rw[dec_false (by omega)]
  refine Ct.intro Tryz.func19 rfl Tryz.ntmps19 (nle rfl) fun w0=> ?_;dsimp only[argSlots,Nat.reduceAdd]
  repeat(refine st ?_;intros)
  (refine Dn.post (Hr:=[]) Tryz.results19 (hR:= ?_);exact⟨rfl,rfl⟩)
end Go.Proofs.YtlnehgklibbjiaaGreat
namespace Go.Gr
abbrev Ed:=Nat×Nat
def Jn (g:Nat→Ed) (S:Nat→Prop) (x y:Nat):Prop:=∃i,S i∧((g i).1=x∧(g i).2=y∨(g i).1=y∧(g i).2=x)
inductive Cn (g:Nat→Ed) (S:Nat→Prop):Nat→Nat→Prop
 |refl (a:Nat):Cn g S a a
 |step {a b c:Nat}:Cn g S a b→Jn g S b c→Cn g S a c
variable {g:Nat→Ed} {S S':Nat→Prop}
theorem Jn.symm {x y:Nat} (h:Jn g S x y):Jn g S y x:=let ⟨i,h1,h2⟩:=h;⟨i,h1,h2.symm⟩
theorem Jn.mono {x y:Nat} (h:Jn g S x y) (hs:∀i,S i→S' i):Jn g S' x y:=let ⟨i,h1,h2⟩:=h;⟨i,hs i h1,h2⟩
theorem Cn.one {x y:Nat} (h:Jn g S x y):Cn g S x y:= .step (.refl x) h
theorem Cn.trans {a b c:Nat} (h:Cn g S a b) (h2:Cn g S b c):Cn g S a c:=by
 induction h2 with
 |refl=>exact h
 |step _ hj ih=>exact .step ih hj
theorem Cn.symm {a b:Nat} (h:Cn g S a b):Cn g S b a:=by
 induction h with
 |refl=>exact .refl _
 |step _ hj ih=>exact(Cn.one hj.symm).trans ih
theorem Cn.mono {a b:Nat} (h:Cn g S a b) (hs:∀i,S i→S' i):Cn g S' a b:=by
 induction h with
 |refl=>exact .refl _
 |step _ hj ih=>exact .step ih (hj.mono hs)
theorem Cn.edge {i:Nat} (h:S i):Cn g S (g i).1 (g i).2:= .one ⟨i,h,.inl ⟨rfl,rfl⟩⟩
theorem Cn.sub {a b:Nat} (h:Cn g S a b) (hs:∀i,S i→Cn g S' (g i).1 (g i).2):Cn g S' a b:=by
 induction h with
 |refl=>exact .refl _
 |step _ hj ih=>
  obtain⟨i,h1,⟨rfl,rfl⟩|⟨rfl,rfl⟩⟩:=hj
  ·exact ih.trans (hs i h1)
  ·exact ih.trans (hs i h1).symm
theorem Cn.congr {a b:Nat} (hs:∀i,S i↔S' i):Cn g S a b↔Cn g S' a b:=⟨fun h=>h.mono fun i=>(hs i).1,fun h=>h.mono fun i=>(hs i).2⟩
theorem Cn.stay {a b:Nat} (h:Cn g S a b) {X:Nat→Prop} (ha:X a) (hx:∀i,S i→(X (g i).1↔X (g i).2)):X b:=by
 induction h with
 |refl=>exact ha
 |step _ hj ih=>
  obtain⟨i,h1,⟨rfl,rfl⟩|⟨rfl,rfl⟩⟩:=hj
  ·exact(hx i h1).1 ih
  ·exact(hx i h1).2 ih
theorem Cn.add {i a b:Nat} (h:Cn g (fun j=>S j∨j=i) a b):Cn g S a b∨(Cn g S a (g i).1∧Cn g S (g i).2 b)∨(Cn g S a (g i).2∧Cn g S (g i).1 b):=by
 induction h with
 |refl=>exact .inl (.refl _)
 |step _ hj ih=>
  obtain⟨j,h1|rfl,h2⟩:=hj
  ·have hj:Cn g S _ _:= .one ⟨j,h1,h2⟩
   rcases ih with ih|⟨i1,i2⟩|⟨i1,i2⟩
   ·exact .inl (ih.trans hj)
   ·exact .inr (.inl ⟨i1,i2.trans hj⟩)
   ·exact .inr (.inr ⟨i1,i2.trans hj⟩)
  ·rcases h2 with⟨rfl,rfl⟩|⟨rfl,rfl⟩
   ·rcases ih with ih|⟨i1,i2⟩|⟨i1,i2⟩
    ·exact .inr (.inl ⟨ih,.refl _⟩)
    ·exact .inr (.inl ⟨i1,.refl _⟩)
    ·exact .inl i1
   ·rcases ih with ih|⟨i1,i2⟩|⟨i1,i2⟩
    ·exact .inr (.inr ⟨ih,.refl _⟩)
    ·exact .inl i1
    ·exact .inr (.inr ⟨i1,.refl _⟩)
theorem Cn.bound {a b:Nat} (h:Cn g S a b):∃n,Cn g (fun j=>S j∧j<n) a b:=by
 induction h with
 |refl=>exact⟨0,.refl _⟩
 |step _ hj ih=>
  obtain⟨n,ih⟩:=ih
  obtain⟨i,h1,h2⟩:=hj
  exact⟨max n (i+1),.step (ih.mono fun j ⟨a,b⟩=>⟨a,by omega⟩) ⟨i,⟨h1,by omega⟩,h2⟩⟩
def Kr (g:Nat→Ed) (S:Nat→Prop) (i:Nat):Prop:=S i∧¬Cn g (fun j=>S j∧j<i) (g i).1 (g i).2
theorem Kr.conn_lt:∀(n:Nat) {a b:Nat},Cn g (fun j=>S j∧j<n) a b↔Cn g (fun j=>Kr g S j∧j<n) a b
 |0,a,b=>Cn.congr fun i=>by simp
 |n+1,a,b=>by
  refine⟨fun h=> ?_,fun h=>h.mono fun i ⟨h1,h2⟩=>⟨h1.1,h2⟩⟩
  refine h.sub fun i ⟨h1,h2⟩=> ?_
  by_cases hk:Kr g S i
  ·exact Cn.edge ⟨hk,h2⟩
  ·have h3:Cn g (fun j=>S j∧j<i) (g i).1 (g i).2:=by
    by_cases h4:Cn g (fun j=>S j∧j<i) (g i).1 (g i).2
    ·exact h4
    ·exact absurd ⟨h1,h4⟩ hk
   have h5:Cn g (fun j=>S j∧j<n) (g i).1 (g i).2:=h3.mono fun j ⟨a,b⟩=>⟨a,by omega⟩
   exact((Kr.conn_lt n).1 h5).mono fun j ⟨a,b⟩=>⟨a,by omega⟩
theorem Kr.conn {a b:Nat}:Cn g S a b↔Cn g (Kr g S) a b:=by
 refine⟨fun h=> ?_,fun h=>h.mono fun i h=>h.1⟩
 obtain⟨n,h⟩:=h.bound
 exact((Kr.conn_lt n).1 h).mono fun i h=>h.1
theorem Kr.bridge_lt:∀(n i:Nat),i<n→Kr g S i→¬Cn g (fun j=>Kr g S j∧j<n∧j≠i) (g i).1 (g i).2
 |0,_,h,_=>by omega
 |n+1,i,h,hk=>by
  intro hc
  by_cases hin:i=n
  ·subst hin
   exact hk.2 (hc.mono fun j ⟨h1,h2,h3⟩=>⟨h1.1,by omega⟩)
  ·have hi:i<n:=by omega
   by_cases hkn:Kr g S n
   ·have hc2:Cn g (fun j=>(Kr g S j∧j<n∧j≠i)∨j=n) (g i).1 (g i).2:=hc.mono fun j ⟨h1,h2,h3⟩=>by
     by_cases hj:j=n
     ·exact .inr hj
     ·exact .inl ⟨h1,by omega,h3⟩
    have hlt:∀{x y:Nat},Cn g (fun j=>Kr g S j∧j<n∧j≠i) x y→Cn g (fun j=>S j∧j<n) x y:=fun h=>h.mono fun j ⟨h1,h2,_⟩=>⟨h1.1,h2⟩
    have hii:Cn g (fun j=>S j∧j<n) (g i).1 (g i).2:=Cn.edge ⟨hk.1,hi⟩
    rcases hc2.add with h1|⟨h1,h2⟩|⟨h1,h2⟩
    ·exact Kr.bridge_lt n i hi hk h1
    ·exact hkn.2 (((hlt h1).symm.trans hii).trans (hlt h2).symm)
    ·exact hkn.2 (((hlt h2).trans hii.symm).trans (hlt h1))
   ·refine Kr.bridge_lt n i hi hk (hc.mono fun j ⟨h1,h2,h3⟩=>⟨h1,?_,h3⟩)
    have:j≠n:=fun e=>hkn (e▸h1)
    omega
theorem Kr.bridge {i:Nat} (hk:Kr g S i):¬Cn g (fun j=>Kr g S j∧j≠i) (g i).1 (g i).2:=by
 intro h
 obtain⟨n,h⟩:=h.bound
 exact Kr.bridge_lt (max n (i+1)) i (by omega) hk (h.mono fun j ⟨⟨a,b⟩,c⟩=>⟨a,by omega,b⟩)
end Go.Gr
namespace Go.Proofs.YtlnehgklibbjiaaGreat
open Go.SL Go.Tup Go.Gr
def gE (es:List IE) (i:Nat):Ed:=match es[i]? with
 |some e=>(e.1.toNat,e.2.toNat)
 |none=>(0,0)
def actE (es:List IE) (ob:List Bool) (w:Int) (i:Nat):Prop:=∃e,es[i]? =some e∧e.1≠w∧e.2≠w∧ob[i]?≠some true
def rcells (l:List Int):List Value:=l.map (Value.int .i64)
theorem rcells_get {l:List Int} {i:Nat} {x:Int} (h:l[i]? =some x):(rcells l)[i]? =some (.int .i64 x):=by unfold rcells;rw[List.getElem?_map,h];rfl
theorem rcells_set (l:List Int) (i:Nat) (x:Int):(rcells l).set i (.int .i64 x)=rcells (l.set i x):=by unfold rcells;rw[List.map_set]
structure LabIn (g:Nat→Ed) (S:Nat→Prop) (N:Nat) (w:Int) (l:List Int):Prop where
 len:l.length=N
 at_:∀v,v<N→(v:Int)≠w→∃x:Nat,l[v]? =some (x:Int)∧Cn g S v x∧x≤v∧(x:Int)≠w
 out:∀v,v<N→(v:Int)=w→l[v]? =some (-1)
structure LabOk (g:Nat→Ed) (S:Nat→Prop) (N:Nat) (w:Int) (l:List Int):Prop where
 len:l.length=N
 at_:∀v,v<N→(v:Int)≠w→∃x:Nat,l[v]? =some (x:Int)∧Cn g S v x∧x≤v∧∀u,Cn g S v u→x≤u
 out:∀v,v<N→(v:Int)=w→l[v]? =some (-1)
def isum (l:List Int):Nat:=(l.map Int.toNat).sum
theorem isum_set {l:List Int} {i:Nat} {x y:Int} (h:l[i]? =some x) (hy:y.toNat<x.toNat):isum (l.set i y)<isum l:=by
 obtain⟨hi,rfl⟩:=List.getElem?_eq_some_iff.1 h
 unfold isum
 have e1:l=l.take i++l[i]::l.drop (i+1):=by rw[←List.drop_eq_getElem_cons hi,List.take_append_drop]
 have e2:l.set i y=l.take i++y::l.drop (i+1):=by rw[List.set_eq_take_append_cons_drop,if_pos hi]
 rw[e2]
 conv=>rhs;rw[e1]
 simp only[List.map_append,List.map_cons,List.sum_append_nat,List.sum_cons]
 omega
theorem LabIn.done {g:Nat→Ed} {S:Nat→Prop} {N:Nat} {w:Int} {l:List Int} (h:LabIn g S N w l) (hs:∀i,S i→l[(g i).1]? =l[(g i).2]?):LabOk g S N w l:=by
 refine⟨h.len,fun v hv hw=> ?_,h.out⟩
 obtain⟨x,h1,h2,h3,_⟩:=h.at_ v hv hw
 refine⟨x,h1,h2,h3,fun u hu=> ?_⟩
 have h4:l[u]? =l[v]? :=hu.stay (X:=fun y=>l[y]? =l[v]?) rfl fun i hi=>by rw[hs i hi]
 rw[h1] at h4
 have hun:u<N:=by rw[←h.len];exact(List.getElem?_eq_some_iff.1 h4).1
 by_cases huw:(u:Int)=w
 ·have:=h.out u hun huw;rw[h4] at this;simp only[Option.some.injEq] at this;omega
 ·obtain⟨y,h5,_,h6,_⟩:=h.at_ u hun huw
  rw[h4] at h5;simp only[Option.some.injEq] at h5;omega
theorem LabIn.put {g:Nat→Ed} {S:Nat→Prop} {N:Nat} {w:Int} {l:List Int} (h:LabIn g S N w l) {a b:Nat} {x y:Nat} (ha:l[a]? =some (x:Int)) (hb:l[b]? =some (y:Int)) (hj:Cn g S b a) (hxy:x≤y) (haw:(a:Int)≠w) (hbw:(b:Int)≠w):LabIn g S N w (l.set b (x:Int)):=by
 have hbN:b<N:=by rw[←h.len];exact(List.getElem?_eq_some_iff.1 hb).1
 have haN:a<N:=by rw[←h.len];exact(List.getElem?_eq_some_iff.1 ha).1
 refine⟨by rw[List.length_set];exact h.len,fun v hv hw=> ?_,fun v hv hw=> ?_⟩
 ·by_cases hvb:v=b
  ·subst hvb
   obtain⟨x',h1,h2,h3,h4⟩:=h.at_ a haN haw
   obtain⟨y',g1,g2,g3,g4⟩:=h.at_ v hv hw
   rw[ha] at h1;rw[hb] at g1
   simp only[Option.some.injEq] at h1 g1
   obtain rfl:x=x':=by omega
   exact⟨x,by rw[List.getElem?_set_self (by rw[h.len];exact hv)],hj.trans h2,by omega,h4⟩
  ·obtain⟨x',h1,h2,h3⟩:=h.at_ v hv hw
   exact⟨x',by rw[List.getElem?_set_ne (Ne.symm hvb)];exact h1,h2,h3⟩
 ·have hvb:v≠b:=fun e=>hbw (e▸hw)
  rw[List.getElem?_set_ne (Ne.symm hvb)]
  exact h.out v hv hw
structure LabX where
 i:Nat
 l:List Int
 ch:Bool
theorem set_self' {l:List Int} {i:Nat} {x:Int} (h:l[i]? =some x):l.set i x=l:=by
 obtain⟨hi,rfl⟩:=List.getElem?_eq_some_iff.1 h
 exact List.set_getElem_self hi
def n0 (N:Nat):List Int:=(List.range N).map fun (v:Nat)=>(v:Int)
theorem n0len (N:Nat):(n0 N).length=N:=by simp[n0]
theorem n0get {N v:Nat} (h:v<N):(n0 N)[v]? =some (v:Int):=by simp[n0,h]
def nf (N i:Nat):List Int:=(n0 N).take i++List.replicate (N-i) 0
theorem nf_len (N i:Nat) (h:i≤N):(nf N i).length=N:=by simp[nf,n0len];omega
theorem nf_set (N i:Nat) (h:i<N):(nf N i).set i (i:Int)=nf N (i+1):=by
 unfold nf
 have hl:((n0 N).take i).length=i:=by simp[n0len];omega
 rw[List.set_append_right _ _ (by omega),hl,Nat.sub_self,show N-i=(N-(i+1))+1 by omega,List.replicate_succ,List.set_cons_zero,List.take_add_one,n0get h]
 simp
theorem nf_all (N:Nat):nf N N=n0 N:=by simp[nf,n0len,List.take_of_length_le]
theorem zrep_nf:∀N,zrep N [Value.int .i64 0]=rcells (nf N 0)
 |0=>rfl
 |N+1=>by
  have:=zrep_nf N
  unfold nf rcells at this⊢
  simp only[List.take_zero,List.nil_append,Nat.sub_zero] at this⊢
  rw[List.replicate_succ,List.map_cons,←this];rfl
theorem n0in (g:Nat→Ed) (S:Nat→Prop) (N:Nat) (w:Int) (hw:¬(0≤w∧w<N)):LabIn g S N w (n0 N):=
 ⟨n0len N,fun v hv hvw=>⟨v,n0get hv,.refl _,Nat.le_refl _,hvw⟩,fun v hv h=>absurd ⟨by omega,by omega⟩ hw⟩
theorem n0inW (g:Nat→Ed) (S:Nat→Prop) (N w:Nat) (hw:w<N):LabIn g S N w ((n0 N).set w (-1)):=
 ⟨by rw[List.length_set];exact n0len N,fun v hv hvw=>⟨v,by rw[List.getElem?_set_ne (by omega)];exact n0get hv,.refl _,Nat.le_refl _,hvw⟩,
  fun v hv h=>by
   obtain rfl:v=w:=by omega
   rw[List.getElem?_set_self (by rw[n0len];exact hv)]⟩
theorem Labels_ct (N:Nat) (hN:N≤1000000) (p:Option Addr) (m cap:Nat) (es:List IE) (c:Chunk) (hv:Rw ecl 2 p m es c) (hm:m≤1000000) (hf:∀e∈es,inE N e) (po:Option Addr) (ko capo:Nat) (ob:List Bool) (co:Chunk) (hvo:Rw bcl 1 po ko ob co) (hko:ko≤1000000) (w:Int):
  Ct Tryz.prog 31 [gv N p m cap,.slice po ko capo,.int .i64 w] [c,co] fun v H'=>∃bl l,v= .slice (some ⟨bl,0,none⟩) N N∧H'=[c,co,[(bl,row (rcells l) 3)]]∧LabOk (gE es) (actE es ob w) N w l:=by
 have hl:=hv.1
 have hlo:=hvo.1
 have hmx:∀x:Nat,x≤1000000→(x:Int)≤9223372036854775807:=fun x h=>by omega
 unfold gv
 refine Ct.intro Tryz.func31 rfl Tryz.ntmps31 (nle rfl) fun w0=> ?_;dsimp only[argSlots,Nat.reduceAdd]
 repeat(first|(refine st ?_;intros)|refine G.draw [] (h:= ?_))
 rename_i b3 bl
 rw[zrep_nf]
 refine G.loop (X:=Nat) (fun i=>i≤N) (fun i=>[(8,.int .i64 (i:Int)),(7,.slice (some ⟨bl,0,none⟩) N N),(3,pv b3),(1,.slice po ko capo),(2,.int .i64 w)])
  (fun i=>[[(bl,row (rcells (nf N i)) 3)],[(b3,row [.int .i64 (N:Int),.slice p m cap] 37)],c,co]) (fun i=>N-i) 0 (Nat.zero_le _) (body:= ?_)
 intro i hi
 by_cases hlt:i<N
 ·have hset:(rcells (nf N i)).set i (.int .i64 (i:Int))=rcells (nf N (i+1)):=by rw[rcells_set,nf_set N i hlt]
  have hlen:i<(rcells (nf N i)).length:=by simp only[rcells,List.length_map,nf_len N i hi];exact hlt
  repeat(first|(refine st ?_;intros)|refine G.draw [] (h:= ?_))
  refine Dn.round (i+1) (by omega) (by omega)
 obtain rfl:i=N:=by omega
 rw[nf_all]
 clear hi hlt
 apply G.seq
 repeat(first|(refine stn ?_;intros)|refine G.draw [] (h:= ?_))
 apply G.seq
 repeat(first|(refine stn ?_;intros)|refine G.draw [] (h:= ?_))
 refine G.cut (D':=[]) (X:=List Int) (fun l=>LabIn (gE es) (actE es ob w) i w l) (fun _=>[(7,.slice (some ⟨bl,0,none⟩) i i),(3,pv b3),(1,.slice po ko capo),(2,.int .i64 w)]) (fun l=>[[(bl,row (rcells l) 3)],[(b3,row [.int .i64 (i:Int),.slice p m cap] 37)],c,co]) ?_ ?_
 ·by_cases hw:0≤w∧w<i
  ·obtain⟨w',rfl⟩:∃w':Nat,w=(w':Int):=⟨w.toNat,by omega⟩
   have hset:(rcells (n0 i)).set w' (.int .i64 (-1))=rcells ((n0 i).set w' (-1)):=rcells_set _ _ _
   have hlen:w'<(rcells (n0 i)).length:=by simp only[rcells,List.length_map,n0len];omega
   repeat(first|(refine st ?_;intros)|refine G.draw [] (h:= ?_))
   exact Dn.meet ((n0 i).set w' (-1)) (n0inW _ _ i w' (by omega))
  ·have hin:=n0in (gE es) (actE es ob w) i w hw
   by_cases hw0:0≤w
   ·repeat(first|(refine st ?_;intros)|refine G.draw [] (h:= ?_))
    exact Dn.meet (n0 i) hin
   ·repeat(first|(refine st ?_;intros)|refine G.draw [] (h:= ?_))
    exact Dn.meet (n0 i) hin
 intro l0 hin0
 repeat(first|(refine st ?_;intros)|refine G.draw [] (h:= ?_))
 refine G.loop (X:=List Int×Bool) (fun x=>LabIn (gE es) (actE es ob w) i w x.1∧(x.2=false→∀j,actE es ob w j→x.1[(gE es j).1]? =x.1[(gE es j).2]?))
  (fun x=>[(9,.bool x.2),(7,.slice (some ⟨bl,0,none⟩) i i),(3,pv b3),(1,.slice po ko capo),(2,.int .i64 w)]) (fun x=>[[(bl,row (rcells x.1) 3)],[(b3,row [.int .i64 (i:Int),.slice p m cap] 37)],c,co]) (fun x=>2*isum x.1+(if x.2 then 1 else 0)) (l0,true) ⟨hin0,fun h=>by cases h⟩ (body:= ?_)
 rintro⟨l,ch⟩ ⟨hin,hst⟩
 dsimp only at hin hst⊢
 cases ch with
 |false=>
  repeat(first|(refine st ?_;intros)|refine G.draw [] (h:= ?_))
  (refine Dn.post (Hr:=[c,co,[(bl,row (rcells l) 3)]]) Tryz.results31 (hR:= ?_);exact⟨bl,l,rfl,rfl,hin.done (hst rfl)⟩)
 |true=>
 repeat(first|(refine st ?_;intros)|refine G.draw [] (h:= ?_))
 refine G.loop (X:=LabX) (fun x=>x.i≤m∧LabIn (gE es) (actE es ob w) i w x.l∧isum x.l≤isum l∧(x.ch=true→isum x.l<isum l)∧(x.ch=false→∀j,j<x.i→actE es ob w j→x.l[(gE es j).1]? =x.l[(gE es j).2]?))
  (fun x=>[(10,.int .i64 (x.i:Int)),(9,.bool x.ch),(7,.slice (some ⟨bl,0,none⟩) i i),(3,pv b3),(1,.slice po ko capo),(2,.int .i64 w)]) (fun x=>[[(bl,row (rcells x.l) 3)],[(b3,row [.int .i64 (i:Int),.slice p m cap] 37)],c,co]) (fun x=>m-x.i) ⟨0,l,false⟩ ⟨Nat.zero_le _,hin,Nat.le_refl _,fun h=>(by cases h),fun _ j h=>absurd h (Nat.not_lt_zero j)⟩ (body:= ?_)
 rintro⟨k,l2,ch⟩ ⟨hk,hin2,hs1,hs2,hs3⟩
 dsimp only at hk hin2 hs1 hs2 hs3⊢
 by_cases hlt:k<m
 rotate_left
 ·obtain rfl:k=m:=by omega
  repeat(first|(refine st ?_;intros)|refine G.draw [] (h:= ?_))
  refine Dn.round (l2,ch) ⟨hin2,fun h j hj=>hs3 h j ?_ hj⟩ ?_
  ·obtain⟨e,h1,_⟩:=hj
   rw[←hl];exact(List.getElem?_eq_some_iff.1 h1).1
  ·dsimp only
   cases ch with
   |true=>have:=hs2 rfl;simp only[if_true];omega
   |false=>simp only[Bool.false_eq_true,if_false,if_true];omega
 obtain⟨b,off,cs,T,fz,rfl,rfl,hcut,hget⟩:=hv.pos ecl_len (by omega)
 have hie:es[k]? =some es[k]:=List.getElem?_eq_getElem (by omega)
 have hc:=hcut k _ hie
 have hfe:=hf _ (List.mem_of_getElem? hie)
 generalize he:es[k]=e at*
 obtain⟨u,v⟩:=e
 obtain⟨f1,f2,f3,f4⟩:=hfe
 dsimp only at f1 f2 f3 f4
 obtain⟨u,rfl⟩:∃u':Nat,u=(u':Int):=⟨u.toNat,by omega⟩
 obtain⟨v,rfl⟩:∃v':Nat,v=(v':Int):=⟨v.toNat,by omega⟩
 have hc':(cs.drop (off+k*2)).take 2=[.int .i64 (u:Int),.int .i64 (v:Int)]:=hc
 have hgE:gE es k=(u,v):=by unfold gE;rw[hie];simp
 have hskip:¬actE es ob w k→LabIn (gE es) (actE es ob w) i w l2∧isum l2≤isum l∧(ch=true→isum l2<isum l)∧(ch=false→∀j,j<k+1→actE es ob w j→l2[(gE es j).1]? =l2[(gE es j).2]?):=fun hna=>
  ⟨hin2,hs1,hs2,fun h j hj ha=>by
   by_cases hjk:j=k
   ·subst hjk;exact absurd ha hna
   ·exact hs3 h j (by omega) ha⟩
 by_cases g1:(u:Int)=w
 ·obtain⟨q1,q2,q3,q4⟩:=hskip fun ⟨e,h1,h2,_⟩=>by rw[hie] at h1;simp only[Option.some.injEq] at h1;subst h1;exact h2 g1
  repeat(first|(refine st ?_;intros)|refine G.draw [] (h:= ?_))
  refine Dn.round ⟨k+1,l2,ch⟩ ⟨hlt,q1,q2,q3,q4⟩ (by dsimp only;omega)
 by_cases g2:(v:Int)=w
 ·obtain⟨q1,q2,q3,q4⟩:=hskip fun ⟨e,h1,_,h2,_⟩=>by rw[hie] at h1;simp only[Option.some.injEq] at h1;subst h1;exact h2 g2
  repeat(first|(refine st ?_;intros)|refine G.draw [] (h:= ?_))
  refine Dn.round ⟨k+1,l2,ch⟩ ⟨hlt,q1,q2,q3,q4⟩ (by dsimp only;omega)
 by_cases g3:k<ko
 ·obtain⟨ob',offo,cso,To,fzo,rfl,rfl,hcuto,hgeto⟩:=hvo.pos bcl_len (by omega)
  have hio:ob[k]? =some ob[k]:=List.getElem?_eq_getElem (by omega)
  have hco:=hgeto k 0 _ _ hio rfl
  rw[Nat.mul_one,Nat.add_zero] at hco
  generalize hob:ob[k]=o at*
  cases o with
  |true=>
   obtain⟨q1,q2,q3,q4⟩:=hskip fun ⟨e,h1,_,_,h2⟩=>h2 hio
   repeat(first|(refine st ?_;intros)|refine G.draw [] (h:= ?_))
   refine Dn.round ⟨k+1,l2,ch⟩ ⟨hlt,q1,q2,q3,q4⟩ (by dsimp only;omega)
  |false=>
  have hact:actE es ob w k:=⟨_,hie,g1,g2,by rw[hio];decide⟩
  obtain⟨x,x1,x2,x3,x4⟩:=hin2.at_ u (by omega) g1
  obtain⟨y,y1,y2,y3,y4⟩:=hin2.at_ v (by omega) g2
  have hcu:=rcells_get x1
  have hcv:=rcells_get y1
  have hcon:Cn (gE es) (actE es ob w) u v:=by
   have:=Cn.edge (g:=gE es) hact
   rw[hgE] at this;exact this
  have hlu:u<(rcells l2).length:=by simp only[rcells,List.length_map,hin2.len];omega
  have hlv:v<(rcells l2).length:=by simp only[rcells,List.length_map,hin2.len];omega
  by_cases hxy:x=y
  ·subst hxy
   have hset:(rcells l2).set u (.int .i64 (x:Int))=rcells l2:=by
    rw[rcells_set];congr 1
    exact set_self' x1
   repeat(first|(refine st ?_;intros)|refine G.draw [] (h:= ?_))
   refine Dn.round ⟨k+1,l2,ch⟩ ⟨hlt,hin2,hs1,hs2,fun h j hj ha=> ?_⟩ (by dsimp only;omega)
   by_cases hjk:j=k
   ·subst hjk;rw[hgE];exact x1.trans y1.symm
   ·exact hs3 h j (by dsimp only at hj;omega) ha
  ·by_cases hlt2:x<y
   ·have hset:(rcells l2).set v (.int .i64 (x:Int))=rcells (l2.set v (x:Int)):=rcells_set _ _ _
    have hsum:=isum_set (y:=(x:Int)) y1 (by omega)
    have hput:=hin2.put x1 y1 hcon.symm (by omega) g1 g2
    repeat(first|(refine st ?_;intros)|refine G.draw [] (h:= ?_))
    refine Dn.round ⟨k+1,l2.set v (x:Int),true⟩ ⟨hlt,hput,by dsimp only;omega,fun _=>by dsimp only;omega,fun h=>(by cases h)⟩ (by dsimp only;omega)
   ·have hset:(rcells l2).set u (.int .i64 (y:Int))=rcells (l2.set u (y:Int)):=rcells_set _ _ _
    have hsum:=isum_set (y:=(y:Int)) x1 (by omega)
    have hput:=hin2.put y1 x1 hcon (by omega) g2 g1
    repeat(first|(refine st ?_;intros)|refine G.draw [] (h:= ?_))
    refine Dn.round ⟨k+1,l2.set u (y:Int),true⟩ ⟨hlt,hput,by dsimp only;omega,fun _=>by dsimp only;omega,fun h=>(by cases h)⟩ (by dsimp only;omega)
 ·have hact:actE es ob w k:=⟨_,hie,g1,g2,by rw[List.getElem?_eq_none (by omega)];decide⟩
  obtain⟨x,x1,x2,x3,x4⟩:=hin2.at_ u (by omega) g1
  obtain⟨y,y1,y2,y3,y4⟩:=hin2.at_ v (by omega) g2
  have hcu:=rcells_get x1
  have hcv:=rcells_get y1
  have hcon:Cn (gE es) (actE es ob w) u v:=by
   have:=Cn.edge (g:=gE es) hact
   rw[hgE] at this;exact this
  have hlu:u<(rcells l2).length:=by simp only[rcells,List.length_map,hin2.len];omega
  have hlv:v<(rcells l2).length:=by simp only[rcells,List.length_map,hin2.len];omega
  by_cases hxy:x=y
  ·subst hxy
   have hset:(rcells l2).set u (.int .i64 (x:Int))=rcells l2:=by
    rw[rcells_set];congr 1
    exact set_self' x1
   repeat(first|(refine st ?_;intros)|refine G.draw [] (h:= ?_))
   refine Dn.round ⟨k+1,l2,ch⟩ ⟨hlt,hin2,hs1,hs2,fun h j hj ha=> ?_⟩ (by dsimp only;omega)
   by_cases hjk:j=k
   ·subst hjk;rw[hgE];exact x1.trans y1.symm
   ·exact hs3 h j (by dsimp only at hj;omega) ha
  ·by_cases hlt2:x<y
   ·have hset:(rcells l2).set v (.int .i64 (x:Int))=rcells (l2.set v (x:Int)):=rcells_set _ _ _
    have hsum:=isum_set (y:=(x:Int)) y1 (by omega)
    have hput:=hin2.put x1 y1 hcon.symm (by omega) g1 g2
    repeat(first|(refine st ?_;intros)|refine G.draw [] (h:= ?_))
    refine Dn.round ⟨k+1,l2.set v (x:Int),true⟩ ⟨hlt,hput,by dsimp only;omega,fun _=>by dsimp only;omega,fun h=>(by cases h)⟩ (by dsimp only;omega)
   ·have hset:(rcells l2).set u (.int .i64 (y:Int))=rcells (l2.set u (y:Int)):=rcells_set _ _ _
    have hsum:=isum_set (y:=(y:Int)) x1 (by omega)
    have hput:=hin2.put y1 x1 hcon (by omega) g2 g1
    repeat(first|(refine st ?_;intros)|refine G.draw [] (h:= ?_))
    refine Dn.round ⟨k+1,l2.set u (y:Int),true⟩ ⟨hlt,hput,by dsimp only;omega,fun _=>by dsimp only;omega,fun h=>(by cases h)⟩ (by dsimp only;omega)
def edgeOk (n:Int) (t:T5):Prop:=0≤t.c0∧0≤t.c1∧0≤t.c2∧t.c1<n∧t.c2<n
instance (n:Int) (t:T5):Decidable (edgeOk n t):=by unfold edgeOk;infer_instance
def edgesOk (n:Int) (ts:List T5):Prop:=(∀t∈ts,edgeOk n t)∧ts.Pairwise fun a b=>a.c0≠b.c0
instance (n:Int) (ts:List T5):Decidable (edgesOk n ts):=by unfold edgesOk;infer_instance
theorem Edges15ct (n:Nat) (hn:n≤1073741824) (p:Option Addr) (m cap:Nat) (ts:List T5) (c:Chunk) (hv:RV p m ts c) (hm:m≤1000000):
  CtQ Tryz.prog 96 [.int .i64 (n:Int),.slice p m cap] [c] (.bool (dec (edgesOk n ts))):=by
 have hl:=hv.1
 have hbad:∀i t,ts[i]? =some t→¬edgeOk n t→dec (edgesOk n ts)=false:=fun i t hi ht=>dec_false fun h=>ht (h.1 t (List.mem_of_getElem? hi))
 refine Ct.intro Tryz.func96 rfl Tryz.ntmps96 (nle rfl) fun w0=> ?_;dsimp only[argSlots,Nat.reduceAdd]
 repeat(first|(refine st ?_;intros)|refine G.draw [] (h:= ?_))
 refine G.loop (X:=Nat) (fun i=>i≤m∧(∀j t,j<i→ts[j]? =some t→edgeOk n t)∧∀j k t u,j<k→k<i→ts[j]? =some t→ts[k]? =some u→t.c0≠u.c0)
  (fun i=>[(5,.int .i64 (i:Int)),(1,.slice p m cap),(0,.int .i64 (n:Int))]) (fun _=>[c]) (fun i=>m-i) 0 ⟨Nat.zero_le _,fun j t h=>absurd h (Nat.not_lt_zero j),fun j k t u _ h=>absurd h (Nat.not_lt_zero k)⟩ (body:= ?_)
 rintro i ⟨hi,hin,hap⟩
 by_cases hlt:i<m
 ·obtain⟨b,off,cs,T,fz,rfl,rfl,_,hget⟩:=(RV.rw hv).pos tcells_len (by omega)
  have hit:ts[i]? =some ts[i]:=List.getElem?_eq_getElem (by omega)
  have q0:=hget i 0 _ _ hit rfl
  have q1:=hget i 1 _ _ hit rfl
  have q2:=hget i 2 _ _ hit rfl
  rw[Nat.add_zero] at q0
  have hno:=hbad i _ hit
  generalize ht:ts[i]=t at*
  by_cases g0:t.c0<0
  ·rw[hno (by unfold edgeOk;omega)]
   repeat(first|(refine st ?_;intros)|refine G.draw [] (h:= ?_))
   (refine Dn.post (Hr:=[[(b,rowf cs T fz)]]) Tryz.results96 (hR:= ?_);exact⟨rfl,rfl⟩)
  by_cases g1:t.c1<0
  ·rw[hno (by unfold edgeOk;omega)]
   repeat(first|(refine st ?_;intros)|refine G.draw [] (h:= ?_))
   (refine Dn.post (Hr:=[[(b,rowf cs T fz)]]) Tryz.results96 (hR:= ?_);exact⟨rfl,rfl⟩)
  by_cases g2:t.c2<0
  ·rw[hno (by unfold edgeOk;omega)]
   repeat(first|(refine st ?_;intros)|refine G.draw [] (h:= ?_))
   (refine Dn.post (Hr:=[[(b,rowf cs T fz)]]) Tryz.results96 (hR:= ?_);exact⟨rfl,rfl⟩)
  by_cases g3:(n:Int)≤t.c1
  ·rw[hno (by unfold edgeOk;omega)]
   repeat(first|(refine st ?_;intros)|refine G.draw [] (h:= ?_))
   (refine Dn.post (Hr:=[[(b,rowf cs T fz)]]) Tryz.results96 (hR:= ?_);exact⟨rfl,rfl⟩)
  by_cases g4:(n:Int)≤t.c2
  ·rw[hno (by unfold edgeOk;omega)]
   repeat(first|(refine st ?_;intros)|refine G.draw [] (h:= ?_))
   (refine Dn.post (Hr:=[[(b,rowf cs T fz)]]) Tryz.results96 (hR:= ?_);exact⟨rfl,rfl⟩)
  repeat(first|(refine st ?_;intros)|refine G.draw [] (h:= ?_))
  refine G.loop (X:=Nat) (fun k=>k≤i∧∀j u,j<k→ts[j]? =some u→u.c0≠t.c0)
   (fun k=>[(6,.int .i64 (k:Int)),(5,.int .i64 (i:Int)),(1,.slice (some ⟨b,off,none⟩) m cap),(0,.int .i64 (n:Int))]) (fun _=>[[(b,rowf cs T fz)]]) (fun k=>i-k) 0 ⟨Nat.zero_le _,fun j u h=>absurd h (Nat.not_lt_zero j)⟩ (body:= ?_)
  rintro k ⟨hk,hne⟩
  by_cases hlt2:k<i
  ·have hkt:ts[k]? =some ts[k]:=List.getElem?_eq_getElem (by omega)
   have r0:=hget k 0 _ _ hkt rfl
   rw[Nat.add_zero] at r0
   generalize hu:ts[k]=u at*
   by_cases he:u.c0=t.c0
   ·have hb:dec (edgesOk n ts)=false:=dec_false fun h=>by
     have:=List.pairwise_iff_getElem.1 h.2 k i (by omega) (by omega) hlt2
     rw[hu,ht] at this
     exact this he
    rw[hb]
    repeat(first|(refine st ?_;intros)|refine G.draw [] (h:= ?_))
    (refine Dn.post (Hr:=[[(b,rowf cs T fz)]]) Tryz.results96 (hR:= ?_);exact⟨rfl,rfl⟩)
   ·repeat(first|(refine st ?_;intros)|refine G.draw [] (h:= ?_))
    refine Dn.round (k+1) ⟨hlt2,fun j u' hj hju=> ?_⟩ (by omega)
    by_cases hjk:j=k
    ·subst hjk;rw[hkt] at hju;simp only[Option.some.injEq] at hju;subst hju;exact he
    ·exact hne j u' (by omega) hju
  ·obtain rfl:k=i:=by omega
   repeat(first|(refine st ?_;intros)|refine G.draw [] (h:= ?_))
   refine Dn.round (k+1) ⟨hlt,fun j u hj hju=> ?_,fun j l u v hjl hl' hju hlv=> ?_⟩ (by omega)
   ·by_cases hjk:j=k
    ·subst hjk;rw[hit] at hju;simp only[Option.some.injEq] at hju;subst hju;exact⟨by omega,by omega,by omega,by omega,by omega⟩
    ·exact hin j u (by omega) hju
   ·by_cases hlk:l=k
    ·subst hlk;rw[hit] at hlv;simp only[Option.some.injEq] at hlv;subst hlv;exact hne j u hjl hju
    ·exact hap j l u v hjl (by omega) hju hlv
 ·obtain rfl:i=m:=by omega
  have hb:dec (edgesOk n ts)=true:=dec_true ⟨fun t ht=>by
   obtain⟨j,hj,rfl⟩:=List.getElem_of_mem ht
   exact hin j _ (by omega) (List.getElem?_eq_getElem hj),List.pairwise_iff_getElem.2 fun j k hj hk hjk=>hap j k _ _ hjk (by omega) (List.getElem?_eq_getElem hj) (List.getElem?_eq_getElem hk)⟩
  rw[hb]
  repeat(first|(refine st ?_;intros)|refine G.draw [] (h:= ?_))
  (refine Dn.post (Hr:=[c]) Tryz.results96 (hR:= ?_);exact⟨rfl,rfl⟩)
end Go.Proofs.YtlnehgklibbjiaaGreat
