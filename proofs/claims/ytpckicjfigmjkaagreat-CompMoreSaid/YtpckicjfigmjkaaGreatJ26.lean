/-
  Parts of the proof, put together: Comp1. No condition.
-/
import Derived.Test.YtpckicjfigmjkaaGreatJ25
set_option linter.unusedVariables false
set_option linter.unusedSimpArgs false
set_option linter.unnecessarySimpa false
set_option maxHeartbeats 4000000
namespace Go.Proofs.YtpckicjfigmjkaaGreat
open Go.SL Go.Spc Go.Tup Go.Srt
def chkC (bn n:Nat):Maker Unit:=⟨fun _=>[[(bn,row [.int .i64 (n:Int)] 3)]],fun _ t=>if edgeOk n t then[⟨t.c0,0,0,0,0⟩] else[],fun _ _=>(),fun _ t=>if edgeOk n t then none else some 3⟩
theorem chkC_C (bn n:Nat) (k:Unit):(chkC bn n).C k=[[(bn,row [.int .i64 (n:Int)] 3)]]:=rfl
theorem chkC_mk (bn n:Nat):MakeU (chkC bn n) 1 (fun _ t=>okT 3 t) 84 [] [pv bn]:=by
 rintro bx Pst Br bnd hP ps X ⟨⟩ t hX hk hb
 have htv:tv t= .agg #[.int .i64 t.c0,.int .i64 t.c1,.int .i64 t.c2,.int .i64 t.c3,.int .i64 t.c4]:=rfl
 rw[htv]
 unfold putV
 simp only[List.nil_append,List.cons_append]
 show Ct _ _ _ [X,[(bn,row [.int .i64 (n:Int)] 3)]] _
 have ti:=okT_cols hk
 by_cases h:edgeOk n t
 ·simp only[chkC,if_pos h,List.length_singleton] at hb
  have hP1:=hP ps X ⟨t.c0,0,0,0,0⟩ hX (okT1 ti.1) hb
  unfold edgeOk at h
  obtain⟨h0,h1,h2,h3,h4⟩:=h
  refine Ct.intro Tryz.func84 rfl Tryz.ntmps84 (nle rfl) fun w0=> ?_;dsimp only[argSlots,Nat.reduceAdd]
  repeat(refine st ?_;intros)
  refine R.callV (hct:=by exact hP1) (h:= ?_)
  rintro _ _ ⟨X',rfl,⟨rfl,hX'⟩|⟨rfl,hB⟩⟩
  try dsimp only[List.cons_append,List.nil_append]
  ·repeat(refine st ?_;intros)
   (refine Dn.post (Hr:=[X',[(bn,row [.int .i64 (n:Int)] 3)]]) Tryz.results84 (hR:= ?_);exact⟨X',(),rfl,.inl ⟨rfl,if_pos ⟨h0,h1,h2,h3,h4⟩,(by trivial),by simpa[chkC,edgeOk,h0,h1,h2,h3,h4] using hX'⟩⟩)
  ·repeat(refine st ?_;intros)
   (refine Dn.post (Hr:=[X',[(bn,row [.int .i64 (n:Int)] 3)]]) Tryz.results84 (hR:= ?_);exact⟨X',(),rfl,.inr (.inl ⟨rfl,hB⟩)⟩)
 ·have hn:(chkC bn n).err () t=some 3:=if_neg h
  unfold edgeOk at h
  by_cases h0:t.c0<0
  ·refine Ct.intro Tryz.func84 rfl Tryz.ntmps84 (nle rfl) fun w0=> ?_;dsimp only[argSlots,Nat.reduceAdd]
   repeat(refine st ?_;intros)
   (refine Dn.post (Hr:=[X,[(bn,row [.int .i64 (n:Int)] 3)]]) Tryz.results84 (hR:= ?_);exact⟨X,(),rfl,.inr (.inr ⟨3,hn,by decide,rfl,ps,hX⟩)⟩)
  by_cases h1:t.c1<0
  ·refine Ct.intro Tryz.func84 rfl Tryz.ntmps84 (nle rfl) fun w0=> ?_;dsimp only[argSlots,Nat.reduceAdd]
   repeat(refine st ?_;intros)
   (refine Dn.post (Hr:=[X,[(bn,row [.int .i64 (n:Int)] 3)]]) Tryz.results84 (hR:= ?_);exact⟨X,(),rfl,.inr (.inr ⟨3,hn,by decide,rfl,ps,hX⟩)⟩)
  by_cases h2:t.c2<0
  ·refine Ct.intro Tryz.func84 rfl Tryz.ntmps84 (nle rfl) fun w0=> ?_;dsimp only[argSlots,Nat.reduceAdd]
   repeat(refine st ?_;intros)
   (refine Dn.post (Hr:=[X,[(bn,row [.int .i64 (n:Int)] 3)]]) Tryz.results84 (hR:= ?_);exact⟨X,(),rfl,.inr (.inr ⟨3,hn,by decide,rfl,ps,hX⟩)⟩)
  by_cases h3:(n:Int)≤t.c1
  ·refine Ct.intro Tryz.func84 rfl Tryz.ntmps84 (nle rfl) fun w0=> ?_;dsimp only[argSlots,Nat.reduceAdd]
   repeat(refine st ?_;intros)
   (refine Dn.post (Hr:=[X,[(bn,row [.int .i64 (n:Int)] 3)]]) Tryz.results84 (hR:= ?_);exact⟨X,(),rfl,.inr (.inr ⟨3,hn,by decide,rfl,ps,hX⟩)⟩)
  have h4:(n:Int)≤t.c2:=by omega
  refine Ct.intro Tryz.func84 rfl Tryz.ntmps84 (nle rfl) fun w0=> ?_;dsimp only[argSlots,Nat.reduceAdd]
  repeat(refine st ?_;intros)
  (refine Dn.post (Hr:=[X,[(bn,row [.int .i64 (n:Int)] 3)]]) Tryz.results84 (hR:= ?_);exact⟨X,(),rfl,.inr (.inr ⟨3,hn,by decide,rfl,ps,hX⟩)⟩)
theorem chkC_all {bn n:Nat}:∀{ts:List T5} {k:Unit},(∀t∈ts,edgeOk n t)→(chkC bn n).all k ts=ts.map fun t=>⟨t.c0,0,0,0,0⟩
 |[],_,_=>rfl
 |t::ts,k,h=>by
  simp only[Maker.all,List.map_cons]
  rw[chkC_all fun u hu=>h u (List.mem_cons_of_mem _ hu)]
  have:(chkC bn n).outs k t=[⟨t.c0,0,0,0,0⟩]:=if_pos (h t List.mem_cons_self)
  rw[this];rfl
theorem chkC_bad {bn n:Nat}:∀{ts:List T5} {k:Unit},((chkC bn n).bad k ts=none↔∀t∈ts,edgeOk n t)∧((chkC bn n).bad k ts=none∨(chkC bn n).bad k ts=some 3)
 |[],_=>⟨by simp[Maker.bad],.inl rfl⟩
 |t::ts,k=>by
  obtain⟨i1,i2⟩:=chkC_bad (bn:=bn) (n:=n) (ts:=ts) (k:=())
  simp only[Maker.bad]
  by_cases h:edgeOk n t
  ·rw[show(chkC bn n).err k t=none from if_pos h]
   dsimp only
   exact⟨by rw[show(chkC bn n).next k t=() from rfl,i1];simp[h],i2⟩
  ·rw[show(chkC bn n).err k t=some 3 from if_neg h]
   exact⟨by simp[h],.inr rfl⟩
theorem chkC_len (bn n:Nat) (k:Unit) (t:T5):((chkC bn n).outs k t).length≤1:=by unfold chkC;dsimp only;split<;>simp
def ckEF (t:T5):List T5:=(if t.c1=t.c2 then[] else[⟨t.c1,t.c2,t.c0,0,0⟩])
theorem ckE:MakeU (mFl [] (ckEF)) 3 (fun _ t=>okT 3 t) 86 [] []:=by
 rintro bx Pst Br bnd hP ps X ⟨⟩ t hX hk hb
 have htv:tv t= .agg #[.int .i64 t.c0,.int .i64 t.c1,.int .i64 t.c2,.int .i64 t.c3,.int .i64 t.c4]:=rfl
 rw[htv]
 unfold putV
 simp only[List.nil_append,List.cons_append]
 show Ct _ _ _ [X] _
 have ti:=okT_cols hk
 by_cases h1:t.c1=t.c2
 ·
  have ho:(mFl [] (ckEF)).outs () t=[]:=by show ckEF t=_;unfold ckEF;rw[if_pos h1]
  refine Ct.intro Tryz.func86 rfl Tryz.ntmps86 (nle rfl) fun w0=> ?_;dsimp only[argSlots,Nat.reduceAdd]
  repeat(refine st ?_;intros)
  (refine Dn.post (Hr:=[X]) Tryz.results86 (hR:= ?_);exact⟨X,(),rfl,.inl ⟨rfl,rfl,(by trivial),by rw[ho,List.append_nil];exact hX⟩⟩)
 ·
  have ho:(mFl [] (ckEF)).outs () t=[⟨t.c1,t.c2,t.c0,0,0⟩]:=by show ckEF t=_;unfold ckEF;rw[if_neg h1]
  have hb':ps.length+1≤bnd:=by rw[ho] at hb;exact hb
  have hP1:=hP ps X ⟨t.c1,t.c2,t.c0,0,0⟩ hX (by first|exact hk|exact okT3 (by first|exact ti.1|exact ti.2.1|exact ti.2.2.1|exact ti.2.2.2.1|exact ti.2.2.2.2|exact in_0|exact in_1|exact in_m1|exact wrap_in _|assumption|(unfold inI64 at*;omega)) (by first|exact ti.1|exact ti.2.1|exact ti.2.2.1|exact ti.2.2.2.1|exact ti.2.2.2.2|exact in_0|exact in_1|exact in_m1|exact wrap_in _|assumption|(unfold inI64 at*;omega)) (by first|exact ti.1|exact ti.2.1|exact ti.2.2.1|exact ti.2.2.2.1|exact ti.2.2.2.2|exact in_0|exact in_1|exact in_m1|exact wrap_in _|assumption|(unfold inI64 at*;omega))) (by omega)
  rw[show tv ⟨t.c1,t.c2,t.c0,0,0⟩= .agg #[.int .i64 t.c1,.int .i64 t.c2,.int .i64 t.c0,.int .i64 0,.int .i64 0] from rfl] at hP1
  refine Ct.intro Tryz.func86 rfl Tryz.ntmps86 (nle rfl) fun w0=> ?_;dsimp only[argSlots,Nat.reduceAdd]
  repeat(refine st ?_;intros)
  refine R.callV (hct:=by exact hP1) (h:= ?_)
  rintro _ _ ⟨X',rfl,⟨rfl,hX'⟩|⟨rfl,hB⟩⟩
  try dsimp only[List.cons_append,List.nil_append]
  ·repeat(refine st ?_;intros)
   (refine Dn.post (Hr:=[X']) Tryz.results86 (hR:= ?_);exact⟨X',(),rfl,.inl ⟨rfl,rfl,(by trivial),by rw[ho];exact hX'⟩⟩)
  ·repeat(refine st ?_;intros)
   (refine Dn.post (Hr:=[X']) Tryz.results86 (hR:= ?_);exact⟨X',(),rfl,.inr (.inl ⟨rfl,hB⟩)⟩)
def hkBF (t:T5):List T5:=[t,⟨t.c1,t.c0,t.c2,0,0⟩]
theorem hkB:MakeU (mFl [] (hkBF)) 3 (fun _ t=>okT 3 t) 90 [] []:=by
 rintro bx Pst Br bnd hP ps X ⟨⟩ t hX hk hb
 have htv:tv t= .agg #[.int .i64 t.c0,.int .i64 t.c1,.int .i64 t.c2,.int .i64 t.c3,.int .i64 t.c4]:=rfl
 rw[htv]
 unfold putV
 simp only[List.nil_append,List.cons_append]
 show Ct _ _ _ [X] _
 have ti:=okT_cols hk
 have ho:(mFl [] (hkBF)).outs () t=[t,⟨t.c1,t.c0,t.c2,0,0⟩]:=by show hkBF t=_;unfold hkBF;rfl
 have hb':ps.length+2≤bnd:=by rw[ho] at hb;exact hb
 have hP1:=hP ps X t hX hk (by omega)
 rw[show tv t= .agg #[.int .i64 t.c0,.int .i64 t.c1,.int .i64 t.c2,.int .i64 t.c3,.int .i64 t.c4] from rfl] at hP1
 have hP2:=fun X' h=>hP (ps++[t]) X' ⟨t.c1,t.c0,t.c2,0,0⟩ h (by first|exact hk|exact okT3 (by first|exact ti.1|exact ti.2.1|exact ti.2.2.1|exact ti.2.2.2.1|exact ti.2.2.2.2|exact in_0|exact in_1|exact in_m1|exact wrap_in _|assumption|(unfold inI64 at*;omega)) (by first|exact ti.1|exact ti.2.1|exact ti.2.2.1|exact ti.2.2.2.1|exact ti.2.2.2.2|exact in_0|exact in_1|exact in_m1|exact wrap_in _|assumption|(unfold inI64 at*;omega)) (by first|exact ti.1|exact ti.2.1|exact ti.2.2.1|exact ti.2.2.2.1|exact ti.2.2.2.2|exact in_0|exact in_1|exact in_m1|exact wrap_in _|assumption|(unfold inI64 at*;omega))) (by rw[List.length_append,List.length_singleton];omega)
 rw[show tv ⟨t.c1,t.c0,t.c2,0,0⟩= .agg #[.int .i64 t.c1,.int .i64 t.c0,.int .i64 t.c2,.int .i64 0,.int .i64 0] from rfl] at hP2
 refine Ct.intro Tryz.func90 rfl Tryz.ntmps90 (nle rfl) fun w0=> ?_;dsimp only[argSlots,Nat.reduceAdd]
 repeat(refine st ?_;intros)
 refine R.callV (hct:=by exact hP1) (h:= ?_)
 rintro _ _ ⟨X',rfl,⟨rfl,hX'⟩|⟨rfl,hB⟩⟩
 try dsimp only[List.cons_append,List.nil_append]
 ·repeat(refine st ?_;intros)
  refine R.callV (hct:=by exact hP2 _ hX') (h:= ?_)
  rintro _ _ ⟨X2,rfl,⟨rfl,hX2⟩|⟨rfl,hB⟩⟩
  try dsimp only[List.cons_append,List.nil_append]
  ·repeat(refine st ?_;intros)
   (refine Dn.post (Hr:=[X2]) Tryz.results90 (hR:= ?_);exact⟨X2,(),rfl,.inl ⟨rfl,rfl,(by trivial),by rw[ho];simpa using hX2⟩⟩)
  ·repeat(refine st ?_;intros)
   (refine Dn.post (Hr:=[X2]) Tryz.results90 (hR:= ?_);exact⟨X2,(),rfl,.inr (.inl ⟨rfl,hB⟩)⟩)
 ·repeat(refine st ?_;intros)
  (refine Dn.post (Hr:=[X']) Tryz.results90 (hR:= ?_);exact⟨X',(),rfl,.inr (.inl ⟨rfl,hB⟩)⟩)
def fstM (bl:Nat):Maker Int:=⟨fun k=>[[(bl,row [.int .i64 k] 2)]],fun k t=>if t.c0=k then[] else[t],fun _ t=>t.c0,fun _ _=>none⟩
theorem fstM_C (bl:Nat) (k:Int):(fstM bl).C k=[[(bl,row [.int .i64 k] 2)]]:=rfl
theorem fstM_all (bl:Nat):∀(ts:List T5) (k:Int),(fstM bl).all k ts=fstL k ts
 |[],_=>rfl
 |t::ts,k=>by
  simp only[Maker.all,fstL]
  rw[show(fstM bl).next k t=t.c0 from rfl,fstM_all bl ts]
  show(if t.c0=k then[] else[t])++_=_
  by_cases h:t.c0=k
  ·rw[if_pos h,if_pos h,h];rfl
  ·rw[if_neg h,if_neg h];rfl
theorem fst_mk (bl:Nat):MakeU (fstM bl) 3 (fun _ t=>okT 3 t) 91 [] [pv bl]:=by
 rintro bx Pst Br bnd hP ps X k t hX hk hb
 have htv:tv t= .agg #[.int .i64 t.c0,.int .i64 t.c1,.int .i64 t.c2,.int .i64 t.c3,.int .i64 t.c4]:=rfl
 rw[htv]
 unfold putV
 simp only[List.nil_append,List.cons_append]
 show Ct _ _ _ [X,[(bl,row [.int .i64 k] 2)]] _
 have ti:=okT_cols hk
 by_cases h:t.c0=k
 ·have ho:(fstM bl).outs k t=[]:=if_pos h
  have hn:(fstM bl).next k t=k:=h
  refine Ct.intro Tryz.func91 rfl Tryz.ntmps91 (nle rfl) fun w0=> ?_;dsimp only[argSlots,Nat.reduceAdd]
  repeat(refine st ?_;intros)
  (refine Dn.post (Hr:=[X,[(bl,row [.int .i64 k] 2)]]) Tryz.results91 (hR:= ?_);exact⟨X,k,rfl,.inl ⟨rfl,rfl,hn.symm,by rw[ho,List.append_nil];exact hX⟩⟩)
 ·have ho:(fstM bl).outs k t=[t]:=if_neg h
  have hb':ps.length+1≤bnd:=by rw[ho] at hb;exact hb
  have hP1:=hP ps X t hX hk hb'
  rw[htv] at hP1
  refine Ct.intro Tryz.func91 rfl Tryz.ntmps91 (nle rfl) fun w0=> ?_;dsimp only[argSlots,Nat.reduceAdd]
  repeat(refine st ?_;intros)
  refine R.callV (hct:=by exact hP1) (h:= ?_)
  rintro _ _ ⟨X',rfl,⟨rfl,hX'⟩|⟨rfl,hB⟩⟩
  try dsimp only[List.cons_append,List.nil_append]
  ·repeat(refine st ?_;intros)
   (refine Dn.post (Hr:=[X',[(bl,row [.int .i64 t.c0] 2)]]) Tryz.results91 (hR:= ?_);exact⟨X',t.c0,rfl,.inl ⟨rfl,rfl,rfl,by rw[ho];exact hX'⟩⟩)
  ·repeat(refine st ?_;intros)
   (refine Dn.post (Hr:=[X',[(bl,row [.int .i64 t.c0] 2)]]) Tryz.results91 (hR:= ?_);exact⟨X',t.c0,rfl,.inr (.inl ⟨rfl,hB⟩)⟩)
def hkSF (t:T5):List T5:=[t]
theorem hkS:MakeU (mFl [] (hkSF)) 3 (fun _ t=>okT 3 t) 92 [] []:=by
 rintro bx Pst Br bnd hP ps X ⟨⟩ t hX hk hb
 have htv:tv t= .agg #[.int .i64 t.c0,.int .i64 t.c1,.int .i64 t.c2,.int .i64 t.c3,.int .i64 t.c4]:=rfl
 rw[htv]
 unfold putV
 simp only[List.nil_append,List.cons_append]
 show Ct _ _ _ [X] _
 have ti:=okT_cols hk
 have ho:(mFl [] (hkSF)).outs () t=[t]:=by show hkSF t=_;unfold hkSF;rfl
 have hb':ps.length+1≤bnd:=by rw[ho] at hb;exact hb
 have hP1:=hP ps X t hX hk (by omega)
 rw[show tv t= .agg #[.int .i64 t.c0,.int .i64 t.c1,.int .i64 t.c2,.int .i64 t.c3,.int .i64 t.c4] from rfl] at hP1
 refine Ct.intro Tryz.func92 rfl Tryz.ntmps92 (nle rfl) fun w0=> ?_;dsimp only[argSlots,Nat.reduceAdd]
 repeat(refine st ?_;intros)
 refine R.callV (hct:=by exact hP1) (h:= ?_)
 rintro _ _ ⟨X',rfl,⟨rfl,hX'⟩|⟨rfl,hB⟩⟩
 try dsimp only[List.cons_append,List.nil_append]
 ·repeat(refine st ?_;intros)
  (refine Dn.post (Hr:=[X']) Tryz.results92 (hR:= ?_);exact⟨X',(),rfl,.inl ⟨rfl,rfl,(by trivial),by rw[ho];exact hX'⟩⟩)
 ·repeat(refine st ?_;intros)
  (refine Dn.post (Hr:=[X']) Tryz.results92 (hR:= ?_);exact⟨X',(),rfl,.inr (.inl ⟨rfl,hB⟩)⟩)
theorem lkHook (p:Jp) (fa fb:Fl) (b8 b4 b5:Nat) (J:Jb) (A T:Nat) (ts:List T5) (Rl:Fl→Int→Prop) (hL:LookS p J fa fb 1 2 3 A T ts Rl):
  StepCt p J 93 [pv b8,pv b4,pv b5] (lookH p.bj b8 b4 b5 fa fb) A T none ts fun f e Hx'=>Hx'=lookH p.bj b8 b4 b5 fa fb∧Rl f e:=by
 intro W cd ca cs held ph capj hW hJW
 have hL:=hL W cd ca cs held hW hJW
 have hflv:∀f:Fl,flv f= .agg #[.int .i64 (f.first:Int),.int .i64 (f.blocks:Int),.int .i64 (f.width:Int),.int .i64 (f.count:Int)]:=fun _=>rfl
 have hfl4:∀f:Fl,fl4 f=[.int .i64 (f.first:Int),.int .i64 (f.blocks:Int),.int .i64 (f.width:Int),.int .i64 (f.count:Int)]:=fun _=>rfl
 rw[hflv fa,hflv fb] at hL
 unfold jrow lookH
 rw[hfl4 fa,hfl4 fb]
 refine Ct.intro Tryz.func93 rfl Tryz.ntmps93 (nle rfl) fun w0=> ?_;dsimp only[argSlots,Nat.reduceAdd]
 repeat(first|(refine st ?_;intros)|refine G.draw [] (h:= ?_))
 refine R.callX (hct:=hL) (h:= ?_)
 rintro _ _ ⟨f,e,cd',ca',cs',W',rfl,rfl,hW',hS,hR⟩
 dsimp only[List.cons_append,List.nil_append]
 constructor
 ·(·(first|(intro _ _ h;cases h;done)|(repeat(first|exact qok_nil|(apply qok_cons;(·first|(intro hc;exact absurd hc (nmem rfl))|(intro _;apply CellPr.mk;(·repeat(first|exact Has.here|apply Has.there));(first|exact rfl|assumption))|(intro _;apply CellsPr.mk;(·repeat(first|exact Has.here|apply Has.there));(first|exact rfl|assumption))))))))
 rw[hflv]
 repeat(first|(refine st ?_;intros)|refine G.draw [] (h:= ?_))
 (refine Dn.post (Hr:=[[(p.bj,row [pv p.bw,.int .i64 0,.slice ph held.length capj] 90)],wrow p.bw p.bd p.ba p.bs,cd',ca',cs',[(b8,row [pv p.bj] 83)],[(b4,row (fl4 fa) 26)],[(b5,row (fl4 fb) 26)]]) Tryz.results93 (hR:= ?_);exact⟨f,e,cd',ca',cs',W',_,rfl,rfl,hW',hS,rfl,hR⟩)
def hkHF (t:T5):List T5:=(if t.c2=t.c3 then(if t.c0<t.c1 then[⟨t.c0,t.c0,0,0,0⟩] else[⟨t.c0,t.c1,0,0,0⟩]) else[⟨t.c0,t.c1,0,0,0⟩])
theorem hkH:MakeU (mFl [] (hkHF)) 2 (fun _ t=>okT 4 t) 94 [] []:=by
 rintro bx Pst Br bnd hP ps X ⟨⟩ t hX hk hb
 have htv:tv t= .agg #[.int .i64 t.c0,.int .i64 t.c1,.int .i64 t.c2,.int .i64 t.c3,.int .i64 t.c4]:=rfl
 rw[htv]
 unfold putV
 simp only[List.nil_append,List.cons_append]
 show Ct _ _ _ [X] _
 have ti:=okT_cols hk
 by_cases h1:t.c2=t.c3
 ·
  by_cases h2:t.c0<t.c1
  ·
   have ho:(mFl [] (hkHF)).outs () t=[⟨t.c0,t.c0,0,0,0⟩]:=by show hkHF t=_;unfold hkHF;rw[if_pos h1,if_pos h2]
   have hb':ps.length+1≤bnd:=by rw[ho] at hb;exact hb
   have hP1:=hP ps X ⟨t.c0,t.c0,0,0,0⟩ hX (by first|exact hk|exact okT2 (by first|exact ti.1|exact ti.2.1|exact ti.2.2.1|exact ti.2.2.2.1|exact ti.2.2.2.2|exact in_0|exact in_1|exact in_m1|exact wrap_in _|assumption|(unfold inI64 at*;omega)) (by first|exact ti.1|exact ti.2.1|exact ti.2.2.1|exact ti.2.2.2.1|exact ti.2.2.2.2|exact in_0|exact in_1|exact in_m1|exact wrap_in _|assumption|(unfold inI64 at*;omega))) (by omega)
   rw[show tv ⟨t.c0,t.c0,0,0,0⟩= .agg #[.int .i64 t.c0,.int .i64 t.c0,.int .i64 0,.int .i64 0,.int .i64 0] from rfl] at hP1
   refine Ct.intro Tryz.func94 rfl Tryz.ntmps94 (nle rfl) fun w0=> ?_;dsimp only[argSlots,Nat.reduceAdd]
   repeat(refine st ?_;intros)
   refine R.callV (hct:=by exact hP1) (h:= ?_)
   rintro _ _ ⟨X',rfl,⟨rfl,hX'⟩|⟨rfl,hB⟩⟩
   try dsimp only[List.cons_append,List.nil_append]
   ·repeat(refine st ?_;intros)
    (refine Dn.post (Hr:=[X']) Tryz.results94 (hR:= ?_);exact⟨X',(),rfl,.inl ⟨rfl,rfl,(by trivial),by rw[ho];exact hX'⟩⟩)
   ·repeat(refine st ?_;intros)
    (refine Dn.post (Hr:=[X']) Tryz.results94 (hR:= ?_);exact⟨X',(),rfl,.inr (.inl ⟨rfl,hB⟩)⟩)
  ·
   have ho:(mFl [] (hkHF)).outs () t=[⟨t.c0,t.c1,0,0,0⟩]:=by show hkHF t=_;unfold hkHF;rw[if_pos h1,if_neg h2]
   have hb':ps.length+1≤bnd:=by rw[ho] at hb;exact hb
   have hP1:=hP ps X ⟨t.c0,t.c1,0,0,0⟩ hX (by first|exact hk|exact okT2 (by first|exact ti.1|exact ti.2.1|exact ti.2.2.1|exact ti.2.2.2.1|exact ti.2.2.2.2|exact in_0|exact in_1|exact in_m1|exact wrap_in _|assumption|(unfold inI64 at*;omega)) (by first|exact ti.1|exact ti.2.1|exact ti.2.2.1|exact ti.2.2.2.1|exact ti.2.2.2.2|exact in_0|exact in_1|exact in_m1|exact wrap_in _|assumption|(unfold inI64 at*;omega))) (by omega)
   rw[show tv ⟨t.c0,t.c1,0,0,0⟩= .agg #[.int .i64 t.c0,.int .i64 t.c1,.int .i64 0,.int .i64 0,.int .i64 0] from rfl] at hP1
   refine Ct.intro Tryz.func94 rfl Tryz.ntmps94 (nle rfl) fun w0=> ?_;dsimp only[argSlots,Nat.reduceAdd]
   repeat(refine st ?_;intros)
   refine R.callV (hct:=by exact hP1) (h:= ?_)
   rintro _ _ ⟨X',rfl,⟨rfl,hX'⟩|⟨rfl,hB⟩⟩
   try dsimp only[List.cons_append,List.nil_append]
   ·repeat(refine st ?_;intros)
    (refine Dn.post (Hr:=[X']) Tryz.results94 (hR:= ?_);exact⟨X',(),rfl,.inl ⟨rfl,rfl,(by trivial),by rw[ho];exact hX'⟩⟩)
   ·repeat(refine st ?_;intros)
    (refine Dn.post (Hr:=[X']) Tryz.results94 (hR:= ?_);exact⟨X',(),rfl,.inr (.inl ⟨rfl,hB⟩)⟩)
 ·
  have ho:(mFl [] (hkHF)).outs () t=[⟨t.c0,t.c1,0,0,0⟩]:=by show hkHF t=_;unfold hkHF;rw[if_neg h1]
  have hb':ps.length+1≤bnd:=by rw[ho] at hb;exact hb
  have hP1:=hP ps X ⟨t.c0,t.c1,0,0,0⟩ hX (by first|exact hk|exact okT2 (by first|exact ti.1|exact ti.2.1|exact ti.2.2.1|exact ti.2.2.2.1|exact ti.2.2.2.2|exact in_0|exact in_1|exact in_m1|exact wrap_in _|assumption|(unfold inI64 at*;omega)) (by first|exact ti.1|exact ti.2.1|exact ti.2.2.1|exact ti.2.2.2.1|exact ti.2.2.2.2|exact in_0|exact in_1|exact in_m1|exact wrap_in _|assumption|(unfold inI64 at*;omega))) (by omega)
  rw[show tv ⟨t.c0,t.c1,0,0,0⟩= .agg #[.int .i64 t.c0,.int .i64 t.c1,.int .i64 0,.int .i64 0,.int .i64 0] from rfl] at hP1
  refine Ct.intro Tryz.func94 rfl Tryz.ntmps94 (nle rfl) fun w0=> ?_;dsimp only[argSlots,Nat.reduceAdd]
  repeat(refine st ?_;intros)
  refine R.callV (hct:=by exact hP1) (h:= ?_)
  rintro _ _ ⟨X',rfl,⟨rfl,hX'⟩|⟨rfl,hB⟩⟩
  try dsimp only[List.cons_append,List.nil_append]
  ·repeat(refine st ?_;intros)
   (refine Dn.post (Hr:=[X']) Tryz.results94 (hR:= ?_);exact⟨X',(),rfl,.inl ⟨rfl,rfl,(by trivial),by rw[ho];exact hX'⟩⟩)
  ·repeat(refine st ?_;intros)
   (refine Dn.post (Hr:=[X']) Tryz.results94 (hR:= ?_);exact⟨X',(),rfl,.inr (.inl ⟨rfl,hB⟩)⟩)
def rtSF (t:T5):List T5:=[t]
theorem rtS:MakeU (mFl [] (rtSF)) 2 (fun _ t=>okT 2 t) 97 [] []:=by
 rintro bx Pst Br bnd hP ps X ⟨⟩ t hX hk hb
 have htv:tv t= .agg #[.int .i64 t.c0,.int .i64 t.c1,.int .i64 t.c2,.int .i64 t.c3,.int .i64 t.c4]:=rfl
 rw[htv]
 unfold putV
 simp only[List.nil_append,List.cons_append]
 show Ct _ _ _ [X] _
 have ti:=okT_cols hk
 have ho:(mFl [] (rtSF)).outs () t=[t]:=by show rtSF t=_;unfold rtSF;rfl
 have hb':ps.length+1≤bnd:=by rw[ho] at hb;exact hb
 have hP1:=hP ps X t hX hk (by omega)
 rw[show tv t= .agg #[.int .i64 t.c0,.int .i64 t.c1,.int .i64 t.c2,.int .i64 t.c3,.int .i64 t.c4] from rfl] at hP1
 refine Ct.intro Tryz.func97 rfl Tryz.ntmps97 (nle rfl) fun w0=> ?_;dsimp only[argSlots,Nat.reduceAdd]
 repeat(refine st ?_;intros)
 refine R.callV (hct:=by exact hP1) (h:= ?_)
 rintro _ _ ⟨X',rfl,⟨rfl,hX'⟩|⟨rfl,hB⟩⟩
 try dsimp only[List.cons_append,List.nil_append]
 ·repeat(refine st ?_;intros)
  (refine Dn.post (Hr:=[X']) Tryz.results97 (hR:= ?_);exact⟨X',(),rfl,.inl ⟨rfl,rfl,(by trivial),by rw[ho];exact hX'⟩⟩)
 ·repeat(refine st ?_;intros)
  (refine Dn.post (Hr:=[X']) Tryz.results97 (hR:= ?_);exact⟨X',(),rfl,.inr (.inl ⟨rfl,hB⟩)⟩)
theorem lkRoots (p:Jp) (fa fb:Fl) (b8 b4 b5:Nat) (J:Jb) (A T:Nat) (ts:List T5) (Rl:Fl→Int→Prop) (hL:LookS p J fa fb 1 1 2 A T ts Rl):
  StepCt p J 98 [pv b8,pv b4,pv b5] (lookH p.bj b8 b4 b5 fa fb) A T none ts fun f e Hx'=>Hx'=lookH p.bj b8 b4 b5 fa fb∧Rl f e:=by
 intro W cd ca cs held ph capj hW hJW
 have hL:=hL W cd ca cs held hW hJW
 have hflv:∀f:Fl,flv f= .agg #[.int .i64 (f.first:Int),.int .i64 (f.blocks:Int),.int .i64 (f.width:Int),.int .i64 (f.count:Int)]:=fun _=>rfl
 have hfl4:∀f:Fl,fl4 f=[.int .i64 (f.first:Int),.int .i64 (f.blocks:Int),.int .i64 (f.width:Int),.int .i64 (f.count:Int)]:=fun _=>rfl
 rw[hflv fa,hflv fb] at hL
 unfold jrow lookH
 rw[hfl4 fa,hfl4 fb]
 refine Ct.intro Tryz.func98 rfl Tryz.ntmps98 (nle rfl) fun w0=> ?_;dsimp only[argSlots,Nat.reduceAdd]
 repeat(first|(refine st ?_;intros)|refine G.draw [] (h:= ?_))
 refine R.callX (hct:=hL) (h:= ?_)
 rintro _ _ ⟨f,e,cd',ca',cs',W',rfl,rfl,hW',hS,hR⟩
 dsimp only[List.cons_append,List.nil_append]
 constructor
 ·(·(first|(intro _ _ h;cases h;done)|(repeat(first|exact qok_nil|(apply qok_cons;(·first|(intro hc;exact absurd hc (nmem rfl))|(intro _;apply CellPr.mk;(·repeat(first|exact Has.here|apply Has.there));(first|exact rfl|assumption))|(intro _;apply CellsPr.mk;(·repeat(first|exact Has.here|apply Has.there));(first|exact rfl|assumption))))))))
 rw[hflv]
 repeat(first|(refine st ?_;intros)|refine G.draw [] (h:= ?_))
 (refine Dn.post (Hr:=[[(p.bj,row [pv p.bw,.int .i64 0,.slice ph held.length capj] 90)],wrow p.bw p.bd p.ba p.bs,cd',ca',cs',[(b8,row [pv p.bj] 83)],[(b4,row (fl4 fa) 26)],[(b5,row (fl4 fb) 26)]]) Tryz.results98 (hR:= ?_);exact⟨f,e,cd',ca',cs',W',_,rfl,rfl,hW',hS,rfl,hR⟩)
def trnM (bt:Nat):Maker Bool:=⟨fun k=>[[(bt,row [.bool k] 4)]],fun _ t=>[⟨t.c0,t.c2,0,0,0⟩],fun k t=>k||decide (t.c1≠t.c2),fun _ _=>none⟩
theorem trnM_C (bt:Nat) (k:Bool):(trnM bt).C k=[[(bt,row [.bool k] 4)]]:=rfl
theorem trnM_all (bt:Nat):∀(ts:List T5) (k:Bool),(trnM bt).all k ts=ts.map fun t=>⟨t.c0,t.c2,0,0,0⟩
 |[],_=>rfl
 |t::ts,k=>by simp only[Maker.all,trnM_all bt ts,List.map_cons];rfl
theorem trnM_st (bt:Nat):∀(ts:List T5) (k:Bool),(trnM bt).st k ts=(k||ts.any fun t=>decide (t.c1≠t.c2))
 |[],k=>by simp[Maker.st]
 |t::ts,k=>by
  simp only[Maker.st,trnM_st bt ts,List.any_cons]
  show((k||decide (t.c1≠t.c2))||_)=_
  rw[Bool.or_assoc]
theorem trn_mk (bt:Nat):MakeU (trnM bt) 2 (fun _ t=>okT 3 t) 99 [] [pv bt]:=by
 rintro bx Pst Br bnd hP ps X k t hX hk hb
 have htv:tv t= .agg #[.int .i64 t.c0,.int .i64 t.c1,.int .i64 t.c2,.int .i64 t.c3,.int .i64 t.c4]:=rfl
 rw[htv]
 unfold putV
 simp only[List.nil_append,List.cons_append]
 show Ct _ _ _ [X,[(bt,row [.bool k] 4)]] _
 have ti:=okT_cols hk
 have hb':ps.length+1≤bnd:=hb
 have hP1:=hP ps X ⟨t.c0,t.c2,0,0,0⟩ hX (okT2 ti.1 ti.2.2.1) hb'
 rw[show tv ⟨t.c0,t.c2,0,0,0⟩= .agg #[.int .i64 t.c0,.int .i64 t.c2,.int .i64 0,.int .i64 0,.int .i64 0] from rfl] at hP1
 cases k with
 |true=>
  refine Ct.intro Tryz.func99 rfl Tryz.ntmps99 (nle rfl) fun w0=> ?_;dsimp only[argSlots,Nat.reduceAdd]
  repeat(refine st ?_;intros)
  refine R.callV (hct:=by exact hP1) (h:= ?_)
  rintro _ _ ⟨X',rfl,⟨rfl,hX'⟩|⟨rfl,hB⟩⟩
  try dsimp only[List.cons_append,List.nil_append]
  ·repeat(refine st ?_;intros)
   (refine Dn.post (Hr:=[X',[(bt,row [.bool true] 4)]]) Tryz.results99 (hR:= ?_);exact⟨X',true,rfl,.inl ⟨rfl,rfl,rfl,hX'⟩⟩)
  ·repeat(refine st ?_;intros)
   (refine Dn.post (Hr:=[X',[(bt,row [.bool true] 4)]]) Tryz.results99 (hR:= ?_);exact⟨X',true,rfl,.inr (.inl ⟨rfl,hB⟩)⟩)
 |false=>
  by_cases h:t.c1=t.c2
  ·have hn:(trnM bt).next false t=false:=by show(false||decide (t.c1≠t.c2))=false;simp[h]
   have hd:dec (t.c1≠t.c2)=false:=dec_false fun hh=>hh h
   refine Ct.intro Tryz.func99 rfl Tryz.ntmps99 (nle rfl) fun w0=> ?_;dsimp only[argSlots,Nat.reduceAdd]
   repeat(refine st ?_;intros)
   try rw[hd]
   refine R.callV (hct:=by exact hP1) (h:= ?_)
   rintro _ _ ⟨X',rfl,⟨rfl,hX'⟩|⟨rfl,hB⟩⟩
   try dsimp only[List.cons_append,List.nil_append]
   ·repeat(refine st ?_;intros)
    (refine Dn.post (Hr:=[X',[(bt,row [.bool false] 4)]]) Tryz.results99 (hR:= ?_);exact⟨X',false,rfl,.inl ⟨rfl,rfl,hn.symm,hX'⟩⟩)
   ·repeat(refine st ?_;intros)
    (refine Dn.post (Hr:=[X',[(bt,row [.bool false] 4)]]) Tryz.results99 (hR:= ?_);exact⟨X',false,rfl,.inr (.inl ⟨rfl,hB⟩)⟩)
  ·have hn:(trnM bt).next false t=true:=by show(false||decide (t.c1≠t.c2))=true;simp[h]
   have hd:dec (t.c1≠t.c2)=true:=dec_true h
   refine Ct.intro Tryz.func99 rfl Tryz.ntmps99 (nle rfl) fun w0=> ?_;dsimp only[argSlots,Nat.reduceAdd]
   repeat(refine st ?_;intros)
   try rw[hd]
   refine R.callV (hct:=by exact hP1) (h:= ?_)
   rintro _ _ ⟨X',rfl,⟨rfl,hX'⟩|⟨rfl,hB⟩⟩
   try dsimp only[List.cons_append,List.nil_append]
   ·repeat(refine st ?_;intros)
    (refine Dn.post (Hr:=[X',[(bt,row [.bool true] 4)]]) Tryz.results99 (hR:= ?_);exact⟨X',true,rfl,.inl ⟨rfl,rfl,hn.symm,hX'⟩⟩)
   ·repeat(refine st ?_;intros)
    (refine Dn.post (Hr:=[X',[(bt,row [.bool true] 4)]]) Tryz.results99 (hR:= ?_);exact⟨X',true,rfl,.inr (.inl ⟨rfl,hB⟩)⟩)
theorem okT3z {a b c d:Int} (ha:inI64 a) (hb:inI64 b) (hc:inI64 c) (hd:d=0):okT 3 ⟨a,b,c,0,d⟩:=by subst hd;exact okT3 ha hb hc
theorem okT2z {a b c d:Int} (ha:inI64 a) (hb:inI64 b) (hc:c=0) (hd:d=0):okT 2 ⟨a,b,0,c,d⟩:=by subst hc hd;exact okT2 ha hb
def lk30F (f0:Nat) (f1:Nat) (f3:Nat) (t:T5):List T5:=(if t.c3= -1 then[⟨t.c0,t.c1,t.c2,0,t.c4⟩] else[⟨t.c3,t.c1,t.c2,0,t.c4⟩])
theorem lk30 (bf:Nat) (bc:Nat) (f0:Nat) (f1:Nat) (f3:Nat):MakeU (mFl [[(bf,row [.int .i64 (f0:Int),.int .i64 (f1:Int),.int .i64 ((3:Nat):Int),.int .i64 (f3:Int)] 26)],[(bc,row [.int .i64 ((0:Nat):Int)] 3)]] (lk30F f0 f1 f3)) 3 (fun _ t=>okT 4 t) 101 [] [pv bf,pv bc]:=by
 rintro bx Pst Br bnd hP ps X ⟨⟩ t hX hk hb
 have htv:tv t= .agg #[.int .i64 t.c0,.int .i64 t.c1,.int .i64 t.c2,.int .i64 t.c3,.int .i64 t.c4]:=rfl
 rw[htv]
 unfold putV
 simp only[List.nil_append,List.cons_append]
 show Ct _ _ _ [X,[(bf,row [.int .i64 (f0:Int),.int .i64 (f1:Int),.int .i64 ((3:Nat):Int),.int .i64 (f3:Int)] 26)],[(bc,row [.int .i64 ((0:Nat):Int)] 3)]] _
 have ti:=okT_cols hk
 by_cases h1:t.c3= -1
 ·
  have ho:(mFl [[(bf,row [.int .i64 (f0:Int),.int .i64 (f1:Int),.int .i64 ((3:Nat):Int),.int .i64 (f3:Int)] 26)],[(bc,row [.int .i64 ((0:Nat):Int)] 3)]] (lk30F f0 f1 f3)).outs () t=[⟨t.c0,t.c1,t.c2,0,t.c4⟩]:=by show lk30F f0 f1 f3 t=_;unfold lk30F;rw[if_pos h1]
  have hb':ps.length+1≤bnd:=by rw[ho] at hb;exact hb
  have hP1:=hP ps X ⟨t.c0,t.c1,t.c2,0,t.c4⟩ hX (by first|exact hk|exact okT3z (by first|exact ti.1|exact ti.2.1|exact ti.2.2.1|exact ti.2.2.2.1|exact ti.2.2.2.2) (by first|exact ti.1|exact ti.2.1|exact ti.2.2.1|exact ti.2.2.2.1|exact ti.2.2.2.2) (by first|exact ti.1|exact ti.2.1|exact ti.2.2.1|exact ti.2.2.2.1|exact ti.2.2.2.2) (hk.2 4 (by omega))|exact okT3 (by first|exact ti.1|exact ti.2.1|exact ti.2.2.1|exact ti.2.2.2.1|exact ti.2.2.2.2|exact in_0|exact in_1|exact in_m1|exact wrap_in _|assumption|(unfold inI64 at*;omega)) (by first|exact ti.1|exact ti.2.1|exact ti.2.2.1|exact ti.2.2.2.1|exact ti.2.2.2.2|exact in_0|exact in_1|exact in_m1|exact wrap_in _|assumption|(unfold inI64 at*;omega)) (by first|exact ti.1|exact ti.2.1|exact ti.2.2.1|exact ti.2.2.2.1|exact ti.2.2.2.2|exact in_0|exact in_1|exact in_m1|exact wrap_in _|assumption|(unfold inI64 at*;omega))) (by omega)
  rw[show tv ⟨t.c0,t.c1,t.c2,0,t.c4⟩= .agg #[.int .i64 t.c0,.int .i64 t.c1,.int .i64 t.c2,.int .i64 0,.int .i64 t.c4] from rfl] at hP1
  refine Ct.intro Tryz.func101 rfl Tryz.ntmps101 (nle rfl) fun w0=> ?_;dsimp only[argSlots,Nat.reduceAdd]
  repeat(first|(refine st ?_;intros)|refine G.draw [] (h:= ?_))
  refine R.callV (hct:=by exact hP1) (h:= ?_)
  rintro _ _ ⟨X',rfl,⟨rfl,hX'⟩|⟨rfl,hB⟩⟩
  try dsimp only[List.cons_append,List.nil_append]
  ·repeat(first|(refine st ?_;intros)|refine G.draw [] (h:= ?_))
   (refine Dn.post (Hr:=[X',[(bf,row [.int .i64 (f0:Int),.int .i64 (f1:Int),.int .i64 ((3:Nat):Int),.int .i64 (f3:Int)] 26)],[(bc,row [.int .i64 ((0:Nat):Int)] 3)]]) Tryz.results101 (hR:= ?_);exact⟨X',(),rfl,.inl ⟨rfl,rfl,(by trivial),by rw[ho];exact hX'⟩⟩)
  ·repeat(first|(refine st ?_;intros)|refine G.draw [] (h:= ?_))
   (refine Dn.post (Hr:=[X',[(bf,row [.int .i64 (f0:Int),.int .i64 (f1:Int),.int .i64 ((3:Nat):Int),.int .i64 (f3:Int)] 26)],[(bc,row [.int .i64 ((0:Nat):Int)] 3)]]) Tryz.results101 (hR:= ?_);exact⟨X',(),rfl,.inr (.inl ⟨rfl,hB⟩)⟩)
 ·
  have ho:(mFl [[(bf,row [.int .i64 (f0:Int),.int .i64 (f1:Int),.int .i64 ((3:Nat):Int),.int .i64 (f3:Int)] 26)],[(bc,row [.int .i64 ((0:Nat):Int)] 3)]] (lk30F f0 f1 f3)).outs () t=[⟨t.c3,t.c1,t.c2,0,t.c4⟩]:=by show lk30F f0 f1 f3 t=_;unfold lk30F;rw[if_neg h1]
  have hb':ps.length+1≤bnd:=by rw[ho] at hb;exact hb
  have hP1:=hP ps X ⟨t.c3,t.c1,t.c2,0,t.c4⟩ hX (by first|exact hk|exact okT3z (by first|exact ti.1|exact ti.2.1|exact ti.2.2.1|exact ti.2.2.2.1|exact ti.2.2.2.2) (by first|exact ti.1|exact ti.2.1|exact ti.2.2.1|exact ti.2.2.2.1|exact ti.2.2.2.2) (by first|exact ti.1|exact ti.2.1|exact ti.2.2.1|exact ti.2.2.2.1|exact ti.2.2.2.2) (hk.2 4 (by omega))|exact okT3 (by first|exact ti.1|exact ti.2.1|exact ti.2.2.1|exact ti.2.2.2.1|exact ti.2.2.2.2|exact in_0|exact in_1|exact in_m1|exact wrap_in _|assumption|(unfold inI64 at*;omega)) (by first|exact ti.1|exact ti.2.1|exact ti.2.2.1|exact ti.2.2.2.1|exact ti.2.2.2.2|exact in_0|exact in_1|exact in_m1|exact wrap_in _|assumption|(unfold inI64 at*;omega)) (by first|exact ti.1|exact ti.2.1|exact ti.2.2.1|exact ti.2.2.2.1|exact ti.2.2.2.2|exact in_0|exact in_1|exact in_m1|exact wrap_in _|assumption|(unfold inI64 at*;omega))) (by omega)
  rw[show tv ⟨t.c3,t.c1,t.c2,0,t.c4⟩= .agg #[.int .i64 t.c3,.int .i64 t.c1,.int .i64 t.c2,.int .i64 0,.int .i64 t.c4] from rfl] at hP1
  refine Ct.intro Tryz.func101 rfl Tryz.ntmps101 (nle rfl) fun w0=> ?_;dsimp only[argSlots,Nat.reduceAdd]
  repeat(first|(refine st ?_;intros)|refine G.draw [] (h:= ?_))
  refine R.callV (hct:=by exact hP1) (h:= ?_)
  rintro _ _ ⟨X',rfl,⟨rfl,hX'⟩|⟨rfl,hB⟩⟩
  try dsimp only[List.cons_append,List.nil_append]
  ·repeat(first|(refine st ?_;intros)|refine G.draw [] (h:= ?_))
   (refine Dn.post (Hr:=[X',[(bf,row [.int .i64 (f0:Int),.int .i64 (f1:Int),.int .i64 ((3:Nat):Int),.int .i64 (f3:Int)] 26)],[(bc,row [.int .i64 ((0:Nat):Int)] 3)]]) Tryz.results101 (hR:= ?_);exact⟨X',(),rfl,.inl ⟨rfl,rfl,(by trivial),by rw[ho];exact hX'⟩⟩)
  ·repeat(first|(refine st ?_;intros)|refine G.draw [] (h:= ?_))
   (refine Dn.post (Hr:=[X',[(bf,row [.int .i64 (f0:Int),.int .i64 (f1:Int),.int .i64 ((3:Nat):Int),.int .i64 (f3:Int)] 26)],[(bc,row [.int .i64 ((0:Nat):Int)] 3)]]) Tryz.results101 (hR:= ?_);exact⟨X',(),rfl,.inr (.inl ⟨rfl,hB⟩)⟩)
def lk31F (f0:Nat) (f1:Nat) (f3:Nat) (t:T5):List T5:=(if t.c3= -1 then[⟨t.c0,t.c1,t.c2,0,t.c4⟩] else[⟨t.c0,t.c3,t.c2,0,t.c4⟩])
theorem lk31 (bf:Nat) (bc:Nat) (f0:Nat) (f1:Nat) (f3:Nat):MakeU (mFl [[(bf,row [.int .i64 (f0:Int),.int .i64 (f1:Int),.int .i64 ((3:Nat):Int),.int .i64 (f3:Int)] 26)],[(bc,row [.int .i64 ((1:Nat):Int)] 3)]] (lk31F f0 f1 f3)) 3 (fun _ t=>okT 4 t) 101 [] [pv bf,pv bc]:=by
 rintro bx Pst Br bnd hP ps X ⟨⟩ t hX hk hb
 have htv:tv t= .agg #[.int .i64 t.c0,.int .i64 t.c1,.int .i64 t.c2,.int .i64 t.c3,.int .i64 t.c4]:=rfl
 rw[htv]
 unfold putV
 simp only[List.nil_append,List.cons_append]
 show Ct _ _ _ [X,[(bf,row [.int .i64 (f0:Int),.int .i64 (f1:Int),.int .i64 ((3:Nat):Int),.int .i64 (f3:Int)] 26)],[(bc,row [.int .i64 ((1:Nat):Int)] 3)]] _
 have ti:=okT_cols hk
 by_cases h1:t.c3= -1
 ·
  have ho:(mFl [[(bf,row [.int .i64 (f0:Int),.int .i64 (f1:Int),.int .i64 ((3:Nat):Int),.int .i64 (f3:Int)] 26)],[(bc,row [.int .i64 ((1:Nat):Int)] 3)]] (lk31F f0 f1 f3)).outs () t=[⟨t.c0,t.c1,t.c2,0,t.c4⟩]:=by show lk31F f0 f1 f3 t=_;unfold lk31F;rw[if_pos h1]
  have hb':ps.length+1≤bnd:=by rw[ho] at hb;exact hb
  have hP1:=hP ps X ⟨t.c0,t.c1,t.c2,0,t.c4⟩ hX (by first|exact hk|exact okT3z (by first|exact ti.1|exact ti.2.1|exact ti.2.2.1|exact ti.2.2.2.1|exact ti.2.2.2.2) (by first|exact ti.1|exact ti.2.1|exact ti.2.2.1|exact ti.2.2.2.1|exact ti.2.2.2.2) (by first|exact ti.1|exact ti.2.1|exact ti.2.2.1|exact ti.2.2.2.1|exact ti.2.2.2.2) (hk.2 4 (by omega))|exact okT3 (by first|exact ti.1|exact ti.2.1|exact ti.2.2.1|exact ti.2.2.2.1|exact ti.2.2.2.2|exact in_0|exact in_1|exact in_m1|exact wrap_in _|assumption|(unfold inI64 at*;omega)) (by first|exact ti.1|exact ti.2.1|exact ti.2.2.1|exact ti.2.2.2.1|exact ti.2.2.2.2|exact in_0|exact in_1|exact in_m1|exact wrap_in _|assumption|(unfold inI64 at*;omega)) (by first|exact ti.1|exact ti.2.1|exact ti.2.2.1|exact ti.2.2.2.1|exact ti.2.2.2.2|exact in_0|exact in_1|exact in_m1|exact wrap_in _|assumption|(unfold inI64 at*;omega))) (by omega)
  rw[show tv ⟨t.c0,t.c1,t.c2,0,t.c4⟩= .agg #[.int .i64 t.c0,.int .i64 t.c1,.int .i64 t.c2,.int .i64 0,.int .i64 t.c4] from rfl] at hP1
  refine Ct.intro Tryz.func101 rfl Tryz.ntmps101 (nle rfl) fun w0=> ?_;dsimp only[argSlots,Nat.reduceAdd]
  repeat(first|(refine st ?_;intros)|refine G.draw [] (h:= ?_))
  refine R.callV (hct:=by exact hP1) (h:= ?_)
  rintro _ _ ⟨X',rfl,⟨rfl,hX'⟩|⟨rfl,hB⟩⟩
  try dsimp only[List.cons_append,List.nil_append]
  ·repeat(first|(refine st ?_;intros)|refine G.draw [] (h:= ?_))
   (refine Dn.post (Hr:=[X',[(bf,row [.int .i64 (f0:Int),.int .i64 (f1:Int),.int .i64 ((3:Nat):Int),.int .i64 (f3:Int)] 26)],[(bc,row [.int .i64 ((1:Nat):Int)] 3)]]) Tryz.results101 (hR:= ?_);exact⟨X',(),rfl,.inl ⟨rfl,rfl,(by trivial),by rw[ho];exact hX'⟩⟩)
  ·repeat(first|(refine st ?_;intros)|refine G.draw [] (h:= ?_))
   (refine Dn.post (Hr:=[X',[(bf,row [.int .i64 (f0:Int),.int .i64 (f1:Int),.int .i64 ((3:Nat):Int),.int .i64 (f3:Int)] 26)],[(bc,row [.int .i64 ((1:Nat):Int)] 3)]]) Tryz.results101 (hR:= ?_);exact⟨X',(),rfl,.inr (.inl ⟨rfl,hB⟩)⟩)
 ·
  have ho:(mFl [[(bf,row [.int .i64 (f0:Int),.int .i64 (f1:Int),.int .i64 ((3:Nat):Int),.int .i64 (f3:Int)] 26)],[(bc,row [.int .i64 ((1:Nat):Int)] 3)]] (lk31F f0 f1 f3)).outs () t=[⟨t.c0,t.c3,t.c2,0,t.c4⟩]:=by show lk31F f0 f1 f3 t=_;unfold lk31F;rw[if_neg h1]
  have hb':ps.length+1≤bnd:=by rw[ho] at hb;exact hb
  have hP1:=hP ps X ⟨t.c0,t.c3,t.c2,0,t.c4⟩ hX (by first|exact hk|exact okT3z (by first|exact ti.1|exact ti.2.1|exact ti.2.2.1|exact ti.2.2.2.1|exact ti.2.2.2.2) (by first|exact ti.1|exact ti.2.1|exact ti.2.2.1|exact ti.2.2.2.1|exact ti.2.2.2.2) (by first|exact ti.1|exact ti.2.1|exact ti.2.2.1|exact ti.2.2.2.1|exact ti.2.2.2.2) (hk.2 4 (by omega))|exact okT3 (by first|exact ti.1|exact ti.2.1|exact ti.2.2.1|exact ti.2.2.2.1|exact ti.2.2.2.2|exact in_0|exact in_1|exact in_m1|exact wrap_in _|assumption|(unfold inI64 at*;omega)) (by first|exact ti.1|exact ti.2.1|exact ti.2.2.1|exact ti.2.2.2.1|exact ti.2.2.2.2|exact in_0|exact in_1|exact in_m1|exact wrap_in _|assumption|(unfold inI64 at*;omega)) (by first|exact ti.1|exact ti.2.1|exact ti.2.2.1|exact ti.2.2.2.1|exact ti.2.2.2.2|exact in_0|exact in_1|exact in_m1|exact wrap_in _|assumption|(unfold inI64 at*;omega))) (by omega)
  rw[show tv ⟨t.c0,t.c3,t.c2,0,t.c4⟩= .agg #[.int .i64 t.c0,.int .i64 t.c3,.int .i64 t.c2,.int .i64 0,.int .i64 t.c4] from rfl] at hP1
  refine Ct.intro Tryz.func101 rfl Tryz.ntmps101 (nle rfl) fun w0=> ?_;dsimp only[argSlots,Nat.reduceAdd]
  repeat(first|(refine st ?_;intros)|refine G.draw [] (h:= ?_))
  refine R.callV (hct:=by exact hP1) (h:= ?_)
  rintro _ _ ⟨X',rfl,⟨rfl,hX'⟩|⟨rfl,hB⟩⟩
  try dsimp only[List.cons_append,List.nil_append]
  ·repeat(first|(refine st ?_;intros)|refine G.draw [] (h:= ?_))
   (refine Dn.post (Hr:=[X',[(bf,row [.int .i64 (f0:Int),.int .i64 (f1:Int),.int .i64 ((3:Nat):Int),.int .i64 (f3:Int)] 26)],[(bc,row [.int .i64 ((1:Nat):Int)] 3)]]) Tryz.results101 (hR:= ?_);exact⟨X',(),rfl,.inl ⟨rfl,rfl,(by trivial),by rw[ho];exact hX'⟩⟩)
  ·repeat(first|(refine st ?_;intros)|refine G.draw [] (h:= ?_))
   (refine Dn.post (Hr:=[X',[(bf,row [.int .i64 (f0:Int),.int .i64 (f1:Int),.int .i64 ((3:Nat):Int),.int .i64 (f3:Int)] 26)],[(bc,row [.int .i64 ((1:Nat):Int)] 3)]]) Tryz.results101 (hR:= ?_);exact⟨X',(),rfl,.inr (.inl ⟨rfl,hB⟩)⟩)
def lk21F (f0:Nat) (f1:Nat) (f3:Nat) (t:T5):List T5:=(if t.c2= -1 then[⟨t.c0,t.c1,0,t.c3,t.c4⟩] else[⟨t.c0,t.c2,0,t.c3,t.c4⟩])
theorem lk21 (bf:Nat) (bc:Nat) (f0:Nat) (f1:Nat) (f3:Nat):MakeU (mFl [[(bf,row [.int .i64 (f0:Int),.int .i64 (f1:Int),.int .i64 ((2:Nat):Int),.int .i64 (f3:Int)] 26)],[(bc,row [.int .i64 ((1:Nat):Int)] 3)]] (lk21F f0 f1 f3)) 2 (fun _ t=>okT 3 t) 101 [] [pv bf,pv bc]:=by
 rintro bx Pst Br bnd hP ps X ⟨⟩ t hX hk hb
 have htv:tv t= .agg #[.int .i64 t.c0,.int .i64 t.c1,.int .i64 t.c2,.int .i64 t.c3,.int .i64 t.c4]:=rfl
 rw[htv]
 unfold putV
 simp only[List.nil_append,List.cons_append]
 show Ct _ _ _ [X,[(bf,row [.int .i64 (f0:Int),.int .i64 (f1:Int),.int .i64 ((2:Nat):Int),.int .i64 (f3:Int)] 26)],[(bc,row [.int .i64 ((1:Nat):Int)] 3)]] _
 have ti:=okT_cols hk
 by_cases h1:t.c2= -1
 ·
  have ho:(mFl [[(bf,row [.int .i64 (f0:Int),.int .i64 (f1:Int),.int .i64 ((2:Nat):Int),.int .i64 (f3:Int)] 26)],[(bc,row [.int .i64 ((1:Nat):Int)] 3)]] (lk21F f0 f1 f3)).outs () t=[⟨t.c0,t.c1,0,t.c3,t.c4⟩]:=by show lk21F f0 f1 f3 t=_;unfold lk21F;rw[if_pos h1]
  have hb':ps.length+1≤bnd:=by rw[ho] at hb;exact hb
  have hP1:=hP ps X ⟨t.c0,t.c1,0,t.c3,t.c4⟩ hX (by first|exact hk|exact okT2z (by first|exact ti.1|exact ti.2.1|exact ti.2.2.1|exact ti.2.2.2.1|exact ti.2.2.2.2) (by first|exact ti.1|exact ti.2.1|exact ti.2.2.1|exact ti.2.2.2.1|exact ti.2.2.2.2) (hk.2 3 (by omega)) (hk.2 4 (by omega))|exact okT2 (by first|exact ti.1|exact ti.2.1|exact ti.2.2.1|exact ti.2.2.2.1|exact ti.2.2.2.2|exact in_0|exact in_1|exact in_m1|exact wrap_in _|assumption|(unfold inI64 at*;omega)) (by first|exact ti.1|exact ti.2.1|exact ti.2.2.1|exact ti.2.2.2.1|exact ti.2.2.2.2|exact in_0|exact in_1|exact in_m1|exact wrap_in _|assumption|(unfold inI64 at*;omega))) (by omega)
  rw[show tv ⟨t.c0,t.c1,0,t.c3,t.c4⟩= .agg #[.int .i64 t.c0,.int .i64 t.c1,.int .i64 0,.int .i64 t.c3,.int .i64 t.c4] from rfl] at hP1
  refine Ct.intro Tryz.func101 rfl Tryz.ntmps101 (nle rfl) fun w0=> ?_;dsimp only[argSlots,Nat.reduceAdd]
  repeat(first|(refine st ?_;intros)|refine G.draw [] (h:= ?_))
  refine R.callV (hct:=by exact hP1) (h:= ?_)
  rintro _ _ ⟨X',rfl,⟨rfl,hX'⟩|⟨rfl,hB⟩⟩
  try dsimp only[List.cons_append,List.nil_append]
  ·repeat(first|(refine st ?_;intros)|refine G.draw [] (h:= ?_))
   (refine Dn.post (Hr:=[X',[(bf,row [.int .i64 (f0:Int),.int .i64 (f1:Int),.int .i64 ((2:Nat):Int),.int .i64 (f3:Int)] 26)],[(bc,row [.int .i64 ((1:Nat):Int)] 3)]]) Tryz.results101 (hR:= ?_);exact⟨X',(),rfl,.inl ⟨rfl,rfl,(by trivial),by rw[ho];exact hX'⟩⟩)
  ·repeat(first|(refine st ?_;intros)|refine G.draw [] (h:= ?_))
   (refine Dn.post (Hr:=[X',[(bf,row [.int .i64 (f0:Int),.int .i64 (f1:Int),.int .i64 ((2:Nat):Int),.int .i64 (f3:Int)] 26)],[(bc,row [.int .i64 ((1:Nat):Int)] 3)]]) Tryz.results101 (hR:= ?_);exact⟨X',(),rfl,.inr (.inl ⟨rfl,hB⟩)⟩)
 ·
  have ho:(mFl [[(bf,row [.int .i64 (f0:Int),.int .i64 (f1:Int),.int .i64 ((2:Nat):Int),.int .i64 (f3:Int)] 26)],[(bc,row [.int .i64 ((1:Nat):Int)] 3)]] (lk21F f0 f1 f3)).outs () t=[⟨t.c0,t.c2,0,t.c3,t.c4⟩]:=by show lk21F f0 f1 f3 t=_;unfold lk21F;rw[if_neg h1]
  have hb':ps.length+1≤bnd:=by rw[ho] at hb;exact hb
  have hP1:=hP ps X ⟨t.c0,t.c2,0,t.c3,t.c4⟩ hX (by first|exact hk|exact okT2z (by first|exact ti.1|exact ti.2.1|exact ti.2.2.1|exact ti.2.2.2.1|exact ti.2.2.2.2) (by first|exact ti.1|exact ti.2.1|exact ti.2.2.1|exact ti.2.2.2.1|exact ti.2.2.2.2) (hk.2 3 (by omega)) (hk.2 4 (by omega))|exact okT2 (by first|exact ti.1|exact ti.2.1|exact ti.2.2.1|exact ti.2.2.2.1|exact ti.2.2.2.2|exact in_0|exact in_1|exact in_m1|exact wrap_in _|assumption|(unfold inI64 at*;omega)) (by first|exact ti.1|exact ti.2.1|exact ti.2.2.1|exact ti.2.2.2.1|exact ti.2.2.2.2|exact in_0|exact in_1|exact in_m1|exact wrap_in _|assumption|(unfold inI64 at*;omega))) (by omega)
  rw[show tv ⟨t.c0,t.c2,0,t.c3,t.c4⟩= .agg #[.int .i64 t.c0,.int .i64 t.c2,.int .i64 0,.int .i64 t.c3,.int .i64 t.c4] from rfl] at hP1
  refine Ct.intro Tryz.func101 rfl Tryz.ntmps101 (nle rfl) fun w0=> ?_;dsimp only[argSlots,Nat.reduceAdd]
  repeat(first|(refine st ?_;intros)|refine G.draw [] (h:= ?_))
  refine R.callV (hct:=by exact hP1) (h:= ?_)
  rintro _ _ ⟨X',rfl,⟨rfl,hX'⟩|⟨rfl,hB⟩⟩
  try dsimp only[List.cons_append,List.nil_append]
  ·repeat(first|(refine st ?_;intros)|refine G.draw [] (h:= ?_))
   (refine Dn.post (Hr:=[X',[(bf,row [.int .i64 (f0:Int),.int .i64 (f1:Int),.int .i64 ((2:Nat):Int),.int .i64 (f3:Int)] 26)],[(bc,row [.int .i64 ((1:Nat):Int)] 3)]]) Tryz.results101 (hR:= ?_);exact⟨X',(),rfl,.inl ⟨rfl,rfl,(by trivial),by rw[ho];exact hX'⟩⟩)
  ·repeat(first|(refine st ?_;intros)|refine G.draw [] (h:= ?_))
   (refine Dn.post (Hr:=[X',[(bf,row [.int .i64 (f0:Int),.int .i64 (f1:Int),.int .i64 ((2:Nat):Int),.int .i64 (f3:Int)] 26)],[(bc,row [.int .i64 ((1:Nat):Int)] 3)]]) Tryz.results101 (hR:= ?_);exact⟨X',(),rfl,.inr (.inl ⟨rfl,hB⟩)⟩)
theorem lk30is (f0 f1 f3:Nat) (t:T5):lk30F f0 f1 f3 t=[lkPut 3 0 t]:=by
 unfold lk30F lkPut setc
 simp only[T5.col]
 by_cases h:t.c3= -1<;>simp[h]
theorem lk31is (f0 f1 f3:Nat) (t:T5):lk31F f0 f1 f3 t=[lkPut 3 1 t]:=by
 unfold lk31F lkPut setc
 simp only[T5.col]
 by_cases h:t.c3= -1<;>simp[h]
theorem lk21is (f0 f1 f3:Nat) (t:T5):lk21F f0 f1 f3 t=[lkPut 2 1 t]:=by
 unfold lk21F lkPut setc
 simp only[T5.col]
 by_cases h:t.c2= -1<;>simp[h]
theorem jn2 (bx:Nat) (t:T5) (X:Chunk) (Rr:Value→Chunk→Prop) (h:PutC bx ((fun t=>t) t) X Rr):Ct Tryz.prog 96 [tv t,putV bx] [X] (TailR Rr):=by
 have htv:tv t= .agg #[.int .i64 t.c0,.int .i64 t.c1,.int .i64 t.c2,.int .i64 t.c3,.int .i64 t.c4]:=rfl
 rw[htv]
 unfold putV
 refine Ct.intro Tryz.func96 rfl Tryz.ntmps96 (nle rfl) fun w0=> ?_;dsimp only[argSlots,Nat.reduceAdd]
 repeat(refine st ?_;intros)
 refine R.callV (hct:=by exact h) (h:= ?_)
 rintro _ _ ⟨X',rfl,hR⟩
 try dsimp only[List.cons_append,List.nil_append]
 repeat(refine st ?_;intros)
 (refine Dn.post (Hr:=[X']) Tryz.results96 (hR:= ?_);exact⟨X',rfl,hR⟩)
def jn1F (t:T5):List T5:=[⟨t.c2,0,0,0,0⟩]
theorem jn1:MakeU (mFl [] (jn1F)) 1 (fun _ t=>okT 3 t) 95 [] []:=by
 rintro bx Pst Br bnd hP ps X ⟨⟩ t hX hk hb
 have htv:tv t= .agg #[.int .i64 t.c0,.int .i64 t.c1,.int .i64 t.c2,.int .i64 t.c3,.int .i64 t.c4]:=rfl
 rw[htv]
 unfold putV
 simp only[List.nil_append,List.cons_append]
 show Ct _ _ _ [X] _
 have ti:=okT_cols hk
 have ho:(mFl [] (jn1F)).outs () t=[⟨t.c2,0,0,0,0⟩]:=by show jn1F t=_;unfold jn1F;rfl
 have hb':ps.length+1≤bnd:=by rw[ho] at hb;exact hb
 have hP1:=hP ps X ⟨t.c2,0,0,0,0⟩ hX (by first|exact hk|exact okT1 (by first|exact ti.1|exact ti.2.1|exact ti.2.2.1|exact ti.2.2.2.1|exact ti.2.2.2.2|exact in_0|exact in_1|exact in_m1|exact wrap_in _|assumption|(unfold inI64 at*;omega))) (by omega)
 rw[show tv ⟨t.c2,0,0,0,0⟩= .agg #[.int .i64 t.c2,.int .i64 0,.int .i64 0,.int .i64 0,.int .i64 0] from rfl] at hP1
 refine Ct.intro Tryz.func95 rfl Tryz.ntmps95 (nle rfl) fun w0=> ?_;dsimp only[argSlots,Nat.reduceAdd]
 repeat(refine st ?_;intros)
 refine R.callV (hct:=by exact hP1) (h:= ?_)
 rintro _ _ ⟨X',rfl,⟨rfl,hX'⟩|⟨rfl,hB⟩⟩
 try dsimp only[List.cons_append,List.nil_append]
 ·repeat(refine st ?_;intros)
  (refine Dn.post (Hr:=[X']) Tryz.results95 (hR:= ?_);exact⟨X',(),rfl,.inl ⟨rfl,rfl,(by trivial),by rw[ho];exact hX'⟩⟩)
 ·repeat(refine st ?_;intros)
  (refine Dn.post (Hr:=[X']) Tryz.results95 (hR:= ?_);exact⟨X',(),rfl,.inr (.inl ⟨rfl,hB⟩)⟩)
def ls1F (t:T5):List T5:=[⟨t.c1,t.c0,0,0,0⟩]
theorem ls1:MakeU (mFl [] (ls1F)) 2 (fun _ t=>okT 2 t) 103 [] []:=by
 rintro bx Pst Br bnd hP ps X ⟨⟩ t hX hk hb
 have htv:tv t= .agg #[.int .i64 t.c0,.int .i64 t.c1,.int .i64 t.c2,.int .i64 t.c3,.int .i64 t.c4]:=rfl
 rw[htv]
 unfold putV
 simp only[List.nil_append,List.cons_append]
 show Ct _ _ _ [X] _
 have ti:=okT_cols hk
 have ho:(mFl [] (ls1F)).outs () t=[⟨t.c1,t.c0,0,0,0⟩]:=by show ls1F t=_;unfold ls1F;rfl
 have hb':ps.length+1≤bnd:=by rw[ho] at hb;exact hb
 have hP1:=hP ps X ⟨t.c1,t.c0,0,0,0⟩ hX (by first|exact hk|exact okT2 (by first|exact ti.1|exact ti.2.1|exact ti.2.2.1|exact ti.2.2.2.1|exact ti.2.2.2.2|exact in_0|exact in_1|exact in_m1|exact wrap_in _|assumption|(unfold inI64 at*;omega)) (by first|exact ti.1|exact ti.2.1|exact ti.2.2.1|exact ti.2.2.2.1|exact ti.2.2.2.2|exact in_0|exact in_1|exact in_m1|exact wrap_in _|assumption|(unfold inI64 at*;omega))) (by omega)
 rw[show tv ⟨t.c1,t.c0,0,0,0⟩= .agg #[.int .i64 t.c1,.int .i64 t.c0,.int .i64 0,.int .i64 0,.int .i64 0] from rfl] at hP1
 refine Ct.intro Tryz.func103 rfl Tryz.ntmps103 (nle rfl) fun w0=> ?_;dsimp only[argSlots,Nat.reduceAdd]
 repeat(refine st ?_;intros)
 refine R.callV (hct:=by exact hP1) (h:= ?_)
 rintro _ _ ⟨X',rfl,⟨rfl,hX'⟩|⟨rfl,hB⟩⟩
 try dsimp only[List.cons_append,List.nil_append]
 ·repeat(refine st ?_;intros)
  (refine Dn.post (Hr:=[X']) Tryz.results103 (hR:= ?_);exact⟨X',(),rfl,.inl ⟨rfl,rfl,(by trivial),by rw[ho];exact hX'⟩⟩)
 ·repeat(refine st ?_;intros)
  (refine Dn.post (Hr:=[X']) Tryz.results103 (hR:= ?_);exact⟨X',(),rfl,.inr (.inl ⟨rfl,hB⟩)⟩)
def nm1F (t:T5):List T5:=[t]
theorem nm1:MakeU (mFl [] (nm1F)) 3 (fun _ t=>okT 3 t) 104 [] []:=by
 rintro bx Pst Br bnd hP ps X ⟨⟩ t hX hk hb
 have htv:tv t= .agg #[.int .i64 t.c0,.int .i64 t.c1,.int .i64 t.c2,.int .i64 t.c3,.int .i64 t.c4]:=rfl
 rw[htv]
 unfold putV
 simp only[List.nil_append,List.cons_append]
 show Ct _ _ _ [X] _
 have ti:=okT_cols hk
 have ho:(mFl [] (nm1F)).outs () t=[t]:=by show nm1F t=_;unfold nm1F;rfl
 have hb':ps.length+1≤bnd:=by rw[ho] at hb;exact hb
 have hP1:=hP ps X t hX hk (by omega)
 rw[show tv t= .agg #[.int .i64 t.c0,.int .i64 t.c1,.int .i64 t.c2,.int .i64 t.c3,.int .i64 t.c4] from rfl] at hP1
 refine Ct.intro Tryz.func104 rfl Tryz.ntmps104 (nle rfl) fun w0=> ?_;dsimp only[argSlots,Nat.reduceAdd]
 repeat(refine st ?_;intros)
 refine R.callV (hct:=by exact hP1) (h:= ?_)
 rintro _ _ ⟨X',rfl,⟨rfl,hX'⟩|⟨rfl,hB⟩⟩
 try dsimp only[List.cons_append,List.nil_append]
 ·repeat(refine st ?_;intros)
  (refine Dn.post (Hr:=[X']) Tryz.results104 (hR:= ?_);exact⟨X',(),rfl,.inl ⟨rfl,rfl,(by trivial),by rw[ho];exact hX'⟩⟩)
 ·repeat(refine st ?_;intros)
  (refine Dn.post (Hr:=[X']) Tryz.results104 (hR:= ?_);exact⟨X',(),rfl,.inr (.inl ⟨rfl,hB⟩)⟩)
theorem lkN2 (p:Jp) (fa fb:Fl) (b8 b4 b5:Nat) (J:Jb) (A T:Nat) (ts:List T5) (Rl:Fl→Int→Prop) (hL:LookS p J fa fb 0 1 1 A T ts Rl):
  StepCt p J 105 [pv b8,pv b4,pv b5] (lookH p.bj b8 b4 b5 fa fb) A T none ts fun f e Hx'=>Hx'=lookH p.bj b8 b4 b5 fa fb∧Rl f e:=by
 intro W cd ca cs held ph capj hW hJW
 have hL:=hL W cd ca cs held hW hJW
 have hflv:∀f:Fl,flv f= .agg #[.int .i64 (f.first:Int),.int .i64 (f.blocks:Int),.int .i64 (f.width:Int),.int .i64 (f.count:Int)]:=fun _=>rfl
 have hfl4:∀f:Fl,fl4 f=[.int .i64 (f.first:Int),.int .i64 (f.blocks:Int),.int .i64 (f.width:Int),.int .i64 (f.count:Int)]:=fun _=>rfl
 rw[hflv fa,hflv fb] at hL
 unfold jrow lookH
 rw[hfl4 fa,hfl4 fb]
 refine Ct.intro Tryz.func105 rfl Tryz.ntmps105 (nle rfl) fun w0=> ?_;dsimp only[argSlots,Nat.reduceAdd]
 repeat(first|(refine st ?_;intros)|refine G.draw [] (h:= ?_))
 refine R.callX (hct:=hL) (h:= ?_)
 rintro _ _ ⟨f,e,cd',ca',cs',W',rfl,rfl,hW',hS,hR⟩
 dsimp only[List.cons_append,List.nil_append]
 constructor
 ·(·(first|(intro _ _ h;cases h;done)|(repeat(first|exact qok_nil|(apply qok_cons;(·first|(intro hc;exact absurd hc (nmem rfl))|(intro _;apply CellPr.mk;(·repeat(first|exact Has.here|apply Has.there));(first|exact rfl|assumption))|(intro _;apply CellsPr.mk;(·repeat(first|exact Has.here|apply Has.there));(first|exact rfl|assumption))))))))
 rw[hflv]
 repeat(first|(refine st ?_;intros)|refine G.draw [] (h:= ?_))
 (refine Dn.post (Hr:=[[(p.bj,row [pv p.bw,.int .i64 0,.slice ph held.length capj] 90)],wrow p.bw p.bd p.ba p.bs,cd',ca',cs',[(b8,row [pv p.bj] 83)],[(b4,row (fl4 fa) 26)],[(b5,row (fl4 fb) 26)]]) Tryz.results105 (hR:= ?_);exact⟨f,e,cd',ca',cs',W',_,rfl,rfl,hW',hS,rfl,hR⟩)
theorem lkN3 (p:Jp) (fa fb:Fl) (b8 b4 b5:Nat) (J:Jb) (A T:Nat) (ts:List T5) (Rl:Fl→Int→Prop) (hL:LookS p J fa fb 0 2 2 A T ts Rl):
  StepCt p J 106 [pv b8,pv b4,pv b5] (lookH p.bj b8 b4 b5 fa fb) A T none ts fun f e Hx'=>Hx'=lookH p.bj b8 b4 b5 fa fb∧Rl f e:=by
 intro W cd ca cs held ph capj hW hJW
 have hL:=hL W cd ca cs held hW hJW
 have hflv:∀f:Fl,flv f= .agg #[.int .i64 (f.first:Int),.int .i64 (f.blocks:Int),.int .i64 (f.width:Int),.int .i64 (f.count:Int)]:=fun _=>rfl
 have hfl4:∀f:Fl,fl4 f=[.int .i64 (f.first:Int),.int .i64 (f.blocks:Int),.int .i64 (f.width:Int),.int .i64 (f.count:Int)]:=fun _=>rfl
 rw[hflv fa,hflv fb] at hL
 unfold jrow lookH
 rw[hfl4 fa,hfl4 fb]
 refine Ct.intro Tryz.func106 rfl Tryz.ntmps106 (nle rfl) fun w0=> ?_;dsimp only[argSlots,Nat.reduceAdd]
 repeat(first|(refine st ?_;intros)|refine G.draw [] (h:= ?_))
 refine R.callX (hct:=hL) (h:= ?_)
 rintro _ _ ⟨f,e,cd',ca',cs',W',rfl,rfl,hW',hS,hR⟩
 dsimp only[List.cons_append,List.nil_append]
 constructor
 ·(·(first|(intro _ _ h;cases h;done)|(repeat(first|exact qok_nil|(apply qok_cons;(·first|(intro hc;exact absurd hc (nmem rfl))|(intro _;apply CellPr.mk;(·repeat(first|exact Has.here|apply Has.there));(first|exact rfl|assumption))|(intro _;apply CellsPr.mk;(·repeat(first|exact Has.here|apply Has.there));(first|exact rfl|assumption))))))))
 rw[hflv]
 repeat(first|(refine st ?_;intros)|refine G.draw [] (h:= ?_))
 (refine Dn.post (Hr:=[[(p.bj,row [pv p.bw,.int .i64 0,.slice ph held.length capj] 90)],wrow p.bw p.bd p.ba p.bs,cd',ca',cs',[(b8,row [pv p.bj] 83)],[(b4,row (fl4 fa) 26)],[(b5,row (fl4 fb) 26)]]) Tryz.results106 (hR:= ?_);exact⟨f,e,cd',ca',cs',W',_,rfl,rfl,hW',hS,rfl,hR⟩)
def cpLF (t:T5):List T5:=(if t.c0=t.c1 then[] else[t])
theorem cpL:MakeU (mFl [] (cpLF)) 3 (fun _ t=>okT 3 t) 50 [] []:=by
 rintro bx Pst Br bnd hP ps X ⟨⟩ t hX hk hb
 have htv:tv t= .agg #[.int .i64 t.c0,.int .i64 t.c1,.int .i64 t.c2,.int .i64 t.c3,.int .i64 t.c4]:=rfl
 rw[htv]
 unfold putV
 simp only[List.nil_append,List.cons_append]
 show Ct _ _ _ [X] _
 have ti:=okT_cols hk
 by_cases h1:t.c0=t.c1
 ·
  have ho:(mFl [] (cpLF)).outs () t=[]:=by show cpLF t=_;unfold cpLF;rw[if_pos h1]
  refine Ct.intro Tryz.func50 rfl Tryz.ntmps50 (nle rfl) fun w0=> ?_;dsimp only[argSlots,Nat.reduceAdd]
  repeat(refine st ?_;intros)
  (refine Dn.post (Hr:=[X]) Tryz.results50 (hR:= ?_);exact⟨X,(),rfl,.inl ⟨rfl,rfl,(by trivial),by rw[ho,List.append_nil];exact hX⟩⟩)
 ·
  have ho:(mFl [] (cpLF)).outs () t=[t]:=by show cpLF t=_;unfold cpLF;rw[if_neg h1]
  have hb':ps.length+1≤bnd:=by rw[ho] at hb;exact hb
  have hP1:=hP ps X t hX hk (by omega)
  rw[show tv t= .agg #[.int .i64 t.c0,.int .i64 t.c1,.int .i64 t.c2,.int .i64 t.c3,.int .i64 t.c4] from rfl] at hP1
  refine Ct.intro Tryz.func50 rfl Tryz.ntmps50 (nle rfl) fun w0=> ?_;dsimp only[argSlots,Nat.reduceAdd]
  repeat(refine st ?_;intros)
  refine R.callV (hct:=by exact hP1) (h:= ?_)
  rintro _ _ ⟨X',rfl,⟨rfl,hX'⟩|⟨rfl,hB⟩⟩
  try dsimp only[List.cons_append,List.nil_append]
  ·repeat(refine st ?_;intros)
   (refine Dn.post (Hr:=[X']) Tryz.results50 (hR:= ?_);exact⟨X',(),rfl,.inl ⟨rfl,rfl,(by trivial),by rw[ho];exact hX'⟩⟩)
  ·repeat(refine st ?_;intros)
   (refine Dn.post (Hr:=[X']) Tryz.results50 (hR:= ?_);exact⟨X',(),rfl,.inr (.inl ⟨rfl,hB⟩)⟩)
end Go.Proofs.YtpckicjfigmjkaaGreat
