/-
  Parts of the proof, put together: Rank1, Rank2, Rank3. No condition.
-/
import Derived.Test.YtjoicjgfgkpdjaaGreatJ22
set_option linter.unusedVariables false
set_option linter.unusedSimpArgs false
set_option linter.unnecessarySimpa false
set_option maxHeartbeats 4000000
namespace Go.Proofs.YtjoicjgfgkpdjaaGreat
open Go.SL Go.Spc Go.Tup Go.Srt
def okE (t:T5):Prop:=0≤t.c0∧-1≤t.c1
instance (t:T5):Decidable (okE t):=by unfold okE;infer_instance
def linkO (t:T5):List T5:=if t.c1= -1 then[] else[⟨t.c1,t.c0,t.c2,0,0⟩]
def linkM:Maker Unit:=⟨fun _=>[],fun _ t=>linkO t,fun _ _=>(),fun _ t=>if okE t then none else some 3⟩
theorem link_mk:MakeU linkM 3 (fun _ t=>okT 3 t) 87 [] []:=by
 rintro bx Pst Br bnd hP ps X ⟨⟩ t hX hk hb
 have htv:tv t= .agg #[.int .i64 t.c0,.int .i64 t.c1,.int .i64 t.c2,.int .i64 t.c3,.int .i64 t.c4]:=rfl
 rw[htv]
 unfold putV
 simp only[List.nil_append,List.cons_append]
 show Ct _ _ _ [X] _
 have ti:=okT_cols hk
 by_cases h:okE t
 rotate_left
 ·have hn:linkM.err () t=some 3:=if_neg h
  unfold okE at h
  by_cases h0:t.c0<0
  ·refine Ct.intro Tryz.func87 rfl Tryz.ntmps87 (nle rfl) fun w0=> ?_;dsimp only[argSlots,Nat.reduceAdd]
   repeat(refine st ?_;intros)
   (refine Dn.post (Hr:=[X]) Tryz.results87 (hR:= ?_);exact⟨X,(),rfl,.inr (.inr ⟨3,hn,by decide,rfl,ps,hX⟩)⟩)
  have h1:t.c1< -1:=by omega
  refine Ct.intro Tryz.func87 rfl Tryz.ntmps87 (nle rfl) fun w0=> ?_;dsimp only[argSlots,Nat.reduceAdd]
  repeat(refine st ?_;intros)
  (refine Dn.post (Hr:=[X]) Tryz.results87 (hR:= ?_);exact⟨X,(),rfl,.inr (.inr ⟨3,hn,by decide,rfl,ps,hX⟩)⟩)
 have hn:linkM.err () t=none:=if_pos h
 unfold okE at h
 obtain⟨h0,h1⟩:=h
 by_cases h2:t.c1= -1
 ·have ho:linkM.outs () t=[]:=if_pos h2
  refine Ct.intro Tryz.func87 rfl Tryz.ntmps87 (nle rfl) fun w0=> ?_;dsimp only[argSlots,Nat.reduceAdd]
  repeat(refine st ?_;intros)
  (refine Dn.post (Hr:=[X]) Tryz.results87 (hR:= ?_);exact⟨X,(),rfl,.inl ⟨rfl,hn,(by trivial),by rw[ho,List.append_nil];exact hX⟩⟩)
 ·have ho:linkM.outs () t=[⟨t.c1,t.c0,t.c2,0,0⟩]:=if_neg h2
  rw[ho,List.length_singleton] at hb
  have hP1:=hP ps X ⟨t.c1,t.c0,t.c2,0,0⟩ hX (okT3 ti.2.1 ti.1 ti.2.2.1) hb
  refine Ct.intro Tryz.func87 rfl Tryz.ntmps87 (nle rfl) fun w0=> ?_;dsimp only[argSlots,Nat.reduceAdd]
  repeat(refine st ?_;intros)
  refine R.callV (hct:=by exact hP1) (h:= ?_)
  rintro _ _ ⟨X',rfl,⟨rfl,hX'⟩|⟨rfl,hB⟩⟩
  try dsimp only[List.cons_append,List.nil_append]
  ·repeat(refine st ?_;intros)
   (refine Dn.post (Hr:=[X']) Tryz.results87 (hR:= ?_);exact⟨X',(),rfl,.inl ⟨rfl,hn,(by trivial),by rw[ho];exact hX'⟩⟩)
  ·repeat(refine st ?_;intros)
   (refine Dn.post (Hr:=[X']) Tryz.results87 (hR:= ?_);exact⟨X',(),rfl,.inr (.inl ⟨rfl,hB⟩)⟩)
theorem elem_mk (bx:Nat) (t:T5) (X:Chunk) (Rr:Value→Chunk→Prop) (h:PutC bx ((fun t=>⟨t.c0,0,0,0,0⟩) t) X Rr):Ct Tryz.prog 89 [tv t,putV bx] [X] (TailR Rr):=by
 have htv:tv t= .agg #[.int .i64 t.c0,.int .i64 t.c1,.int .i64 t.c2,.int .i64 t.c3,.int .i64 t.c4]:=rfl
 rw[htv]
 unfold putV
 refine Ct.intro Tryz.func89 rfl Tryz.ntmps89 (nle rfl) fun w0=> ?_;dsimp only[argSlots,Nat.reduceAdd]
 repeat(refine st ?_;intros)
 refine R.callV (hct:=by exact h) (h:= ?_)
 rintro _ _ ⟨X',rfl,hR⟩
 try dsimp only[List.cons_append,List.nil_append]
 repeat(refine st ?_;intros)
 (refine Dn.post (Hr:=[X']) Tryz.results89 (hR:= ?_);exact⟨X',rfl,hR⟩)
theorem same_mk (bx:Nat) (t:T5) (X:Chunk) (Rr:Value→Chunk→Prop) (h:PutC bx ((fun t=>t) t) X Rr):Ct Tryz.prog 96 [tv t,putV bx] [X] (TailR Rr):=by
 have htv:tv t= .agg #[.int .i64 t.c0,.int .i64 t.c1,.int .i64 t.c2,.int .i64 t.c3,.int .i64 t.c4]:=rfl
 rw[htv]
 unfold putV
 refine Ct.intro Tryz.func96 rfl Tryz.ntmps96 (nle rfl) fun w0=> ?_;dsimp only[argSlots,Nat.reduceAdd]
 repeat(refine st ?_;intros)
 refine R.callV (hct:=by exact h) (h:= ?_)
 rintro _ _ ⟨X',rfl,hR⟩
 try dsimp only[List.cons_append,List.nil_append]
 repeat(refine st ?_;intros)
 (refine Dn.post (Hr:=[X']) Tryz.results96 (hR:= ?_);exact⟨X',rfl,hR⟩)
theorem rankOut_mk (bx:Nat) (t:T5) (X:Chunk) (Rr:Value→Chunk→Prop) (h:PutC bx ((fun t=>⟨t.c0,t.c2,0,0,0⟩) t) X Rr):Ct Tryz.prog 56 [tv t,putV bx] [X] (TailR Rr):=by
 have htv:tv t= .agg #[.int .i64 t.c0,.int .i64 t.c1,.int .i64 t.c2,.int .i64 t.c3,.int .i64 t.c4]:=rfl
 rw[htv]
 unfold putV
 refine Ct.intro Tryz.func56 rfl Tryz.ntmps56 (nle rfl) fun w0=> ?_;dsimp only[argSlots,Nat.reduceAdd]
 repeat(refine st ?_;intros)
 refine R.callV (hct:=by exact h) (h:= ?_)
 rintro _ _ ⟨X',rfl,hR⟩
 try dsimp only[List.cons_append,List.nil_append]
 repeat(refine st ?_;intros)
 (refine Dn.post (Hr:=[X']) Tryz.results56 (hR:= ?_);exact⟨X',rfl,hR⟩)
def fndO (t:T5):T5:=if t.c1= -1 then⟨t.c0,t.c1,0,t.c3,t.c4⟩ else t
def fndM (bf:Nat):Maker Int where
 C k:=[[(bf,row [.int .i64 k] 3)]]
 outs _ t:=[fndO t]
 next k t:=if t.c1= -1 then k else IntKind.wrap .i64 (k+1)
 err _ _:=none
theorem fndM_C (bf:Nat) (k:Int):(fndM bf).C k=[[(bf,row [.int .i64 k] 3)]]:=rfl
theorem fndO_ok {t:T5} (h:okT 3 t):okT 3 (fndO t):=by
 have ti:=okT_cols h
 unfold fndO
 split
 ·have h3:=h.2 3 (by omega)
  have h4:=h.2 4 (by omega)
  have e3:t.c3=0:=h3
  have e4:t.c4=0:=h4
  rw[e3,e4]
  exact okT3 ti.1 ti.2.1 in_0
 ·exact h
theorem fnd_mk (bf:Nat):MakeU (fndM bf) 3 (fun _ t=>okT 3 t) 93 [] [pv bf]:=by
 rintro bx Pst Br bnd hP ps X k t hX hk hb
 have htv:tv t= .agg #[.int .i64 t.c0,.int .i64 t.c1,.int .i64 t.c2,.int .i64 t.c3,.int .i64 t.c4]:=rfl
 have hb':ps.length+1≤bnd:=hb
 have hP1:=hP ps X (fndO t) hX (fndO_ok hk) hb'
 rw[htv]
 unfold putV
 simp only[List.nil_append,List.cons_append]
 show Ct _ _ _ [X,[(bf,row [.int .i64 k] 3)]] _
 by_cases h2:t.c1= -1
 ·have ho:fndO t=⟨t.c0,t.c1,0,t.c3,t.c4⟩:=if_pos h2
  have hn:(fndM bf).next k t=k:=if_pos h2
  have ho2:(fndM bf).outs k t=[⟨t.c0,t.c1,0,t.c3,t.c4⟩]:=congrArg (fun x=>[x]) ho
  have htp:tv ⟨t.c0,t.c1,0,t.c3,t.c4⟩= .agg #[.int .i64 t.c0,.int .i64 t.c1,.int .i64 0,.int .i64 t.c3,.int .i64 t.c4]:=rfl
  rw[ho,htp] at hP1
  refine Ct.intro Tryz.func93 rfl Tryz.ntmps93 (nle rfl) fun w0=> ?_;dsimp only[argSlots,Nat.reduceAdd]
  repeat(refine st ?_;intros)
  refine R.callV (hct:=by exact hP1) (h:= ?_)
  rintro _ _ ⟨X',rfl,⟨rfl,hX'⟩|⟨rfl,hB⟩⟩
  try dsimp only[List.cons_append,List.nil_append]
  ·repeat(refine st ?_;intros)
   (refine Dn.post (Hr:=[X',[(bf,row [.int .i64 k] 3)]]) Tryz.results93 (hR:= ?_);exact⟨X',k,rfl,.inl ⟨rfl,rfl,hn.symm,by rw[ho2];exact hX'⟩⟩)
  ·repeat(refine st ?_;intros)
   (refine Dn.post (Hr:=[X',[(bf,row [.int .i64 k] 3)]]) Tryz.results93 (hR:= ?_);exact⟨X',k,rfl,.inr (.inl ⟨rfl,hB⟩)⟩)
 ·have ho:fndO t=t:=if_neg h2
  have hn:(fndM bf).next k t=IntKind.wrap .i64 (k+1):=if_neg h2
  have ho2:(fndM bf).outs k t=[t]:=congrArg (fun x=>[x]) ho
  obtain⟨w,hw⟩:∃w,IntKind.wrap .i64 (k+1)=w:=⟨_,rfl⟩
  rw[hw] at hn
  rw[ho,htv] at hP1
  refine Ct.intro Tryz.func93 rfl Tryz.ntmps93 (nle rfl) fun w0=> ?_;dsimp only[argSlots,Nat.reduceAdd]
  repeat(refine st ?_;intros)
  refine R.callV (hct:=by exact hP1) (h:= ?_)
  rintro _ _ ⟨X',rfl,⟨rfl,hX'⟩|⟨rfl,hB⟩⟩
  try dsimp only[List.cons_append,List.nil_append]
  ·repeat(refine st ?_;intros)
   (refine Dn.post (Hr:=[X',[(bf,row [.int .i64 w] 3)]]) Tryz.results93 (hR:= ?_);exact⟨X',w,rfl,.inl ⟨rfl,rfl,hn.symm,by rw[ho2];exact hX'⟩⟩)
  ·repeat(refine st ?_;intros)
   (refine Dn.post (Hr:=[X',[(bf,row [.int .i64 w] 3)]]) Tryz.results93 (hR:= ?_);exact⟨X',w,rfl,.inr (.inl ⟨rfl,hB⟩)⟩)
def jmpF (t:T5):T5:=if t.c1= -1 then⟨t.c0,t.c1,t.c2,0,0⟩ else⟨t.c0,t.c3,IntKind.wrap .i64 (t.c2+t.c4),0,0⟩
theorem jmpF_ok {t:T5} (h:okT 5 t):okT 3 (jmpF t):=by
 have ti:=okT_cols h
 unfold jmpF
 split
 ·exact okT3 ti.1 ti.2.1 ti.2.2.1
 ·exact okT3 ti.1 ti.2.2.2.1 (wrap_in _)
theorem jmp_mk:MakeU (mMap jmpF) 3 (fun _ t=>okT 5 t) 99 [] []:=by
 rintro bx Pst Br bnd hP ps X ⟨⟩ t hX hk hb
 have htv:tv t= .agg #[.int .i64 t.c0,.int .i64 t.c1,.int .i64 t.c2,.int .i64 t.c3,.int .i64 t.c4]:=rfl
 have hb':ps.length+1≤bnd:=hb
 have hP1:=hP ps X (jmpF t) hX (jmpF_ok hk) hb'
 rw[htv]
 unfold putV
 simp only[List.nil_append,List.cons_append]
 show Ct _ _ _ [X] _
 by_cases h2:t.c1= -1
 ·have ho:jmpF t=⟨t.c0,t.c1,t.c2,0,0⟩:=if_pos h2
  have ho2:(mMap jmpF).outs () t=[⟨t.c0,t.c1,t.c2,0,0⟩]:=congrArg (fun x=>[x]) ho
  have htp:tv ⟨t.c0,t.c1,t.c2,0,0⟩= .agg #[.int .i64 t.c0,.int .i64 t.c1,.int .i64 t.c2,.int .i64 0,.int .i64 0]:=rfl
  rw[ho,htp] at hP1
  refine Ct.intro Tryz.func99 rfl Tryz.ntmps99 (nle rfl) fun w0=> ?_;dsimp only[argSlots,Nat.reduceAdd]
  repeat(refine st ?_;intros)
  refine R.callV (hct:=by exact hP1) (h:= ?_)
  rintro _ _ ⟨X',rfl,⟨rfl,hX'⟩|⟨rfl,hB⟩⟩
  try dsimp only[List.cons_append,List.nil_append]
  ·repeat(refine st ?_;intros)
   (refine Dn.post (Hr:=[X']) Tryz.results99 (hR:= ?_);exact⟨X',(),rfl,.inl ⟨rfl,rfl,(by trivial),by rw[ho2];exact hX'⟩⟩)
  ·repeat(refine st ?_;intros)
   (refine Dn.post (Hr:=[X']) Tryz.results99 (hR:= ?_);exact⟨X',(),rfl,.inr (.inl ⟨rfl,hB⟩)⟩)
 ·obtain⟨w,hw⟩:∃w,IntKind.wrap .i64 (t.c2+t.c4)=w:=⟨_,rfl⟩
  have ho:jmpF t=⟨t.c0,t.c3,w,0,0⟩:=by unfold jmpF;rw[if_neg h2,hw]
  have ho2:(mMap jmpF).outs () t=[⟨t.c0,t.c3,w,0,0⟩]:=congrArg (fun x=>[x]) ho
  have htp:tv ⟨t.c0,t.c3,w,0,0⟩= .agg #[.int .i64 t.c0,.int .i64 t.c3,.int .i64 w,.int .i64 0,.int .i64 0]:=rfl
  rw[ho,htp] at hP1
  refine Ct.intro Tryz.func99 rfl Tryz.ntmps99 (nle rfl) fun w0=> ?_;dsimp only[argSlots,Nat.reduceAdd]
  repeat(refine st ?_;intros)
  refine R.callV (hct:=by exact hP1) (h:= ?_)
  rintro _ _ ⟨X',rfl,⟨rfl,hX'⟩|⟨rfl,hB⟩⟩
  try dsimp only[List.cons_append,List.nil_append]
  ·repeat(refine st ?_;intros)
   (refine Dn.post (Hr:=[X']) Tryz.results99 (hR:= ?_);exact⟨X',(),rfl,.inl ⟨rfl,rfl,(by trivial),by rw[ho2];exact hX'⟩⟩)
  ·repeat(refine st ?_;intros)
   (refine Dn.post (Hr:=[X']) Tryz.results99 (hR:= ?_);exact⟨X',(),rfl,.inr (.inl ⟨rfl,hB⟩)⟩)
def riseM (bl:Nat):Maker Int:=⟨fun k=>[[(bl,row [.int .i64 k] 2)]],fun _ _=>[],fun _ t=>t.c0,fun k t=>if t.c0≤k then some 3 else none⟩
theorem riseM_C (bl:Nat) (k:Int):(riseM bl).C k=[[(bl,row [.int .i64 k] 2)]]:=rfl
theorem rise_see (bl:Nat):SeeU (riseM bl) (fun _ _=>True) 117 [pv bl]:=by
 rintro k t-
 have htv:tv t= .agg #[.int .i64 t.c0,.int .i64 t.c1,.int .i64 t.c2,.int .i64 t.c3,.int .i64 t.c4]:=rfl
 rw[htv]
 simp only[List.nil_append,List.cons_append]
 show Ct _ _ _ [[(bl,row [.int .i64 k] 2)]] _
 by_cases h:t.c0≤k
 ·have hn:(riseM bl).err k t=some 3:=if_pos h
  refine Ct.intro Tryz.func117 rfl Tryz.ntmps117 (nle rfl) fun w0=> ?_;dsimp only[argSlots,Nat.reduceAdd]
  repeat(refine st ?_;intros)
  (refine Dn.post (Hr:=[[(bl,row [.int .i64 k] 2)]]) Tryz.results117 (hR:= ?_);exact⟨k,rfl,.inr ⟨3,hn,by decide,rfl⟩⟩)
 ·have hn:(riseM bl).err k t=none:=if_neg h
  refine Ct.intro Tryz.func117 rfl Tryz.ntmps117 (nle rfl) fun w0=> ?_;dsimp only[argSlots,Nat.reduceAdd]
  repeat(refine st ?_;intros)
  (refine Dn.post (Hr:=[[(bl,row [.int .i64 t.c0] 2)]]) Tryz.results117 (hR:= ?_);exact⟨t.c0,rfl,.inl ⟨rfl,hn,rfl⟩⟩)
def openM (bo:Nat):Maker Bool:=⟨fun k=>[[(bo,row [.bool k] 4)]],fun _ _=>[],fun k t=>k||decide (t.c1≠-1),fun _ _=>none⟩
theorem openM_C (bo:Nat) (k:Bool):(openM bo).C k=[[(bo,row [.bool k] 4)]]:=rfl
theorem open_see (bo:Nat):SeeU (openM bo) (fun _ _=>True) 95 [pv bo]:=by
 rintro k t-
 have htv:tv t= .agg #[.int .i64 t.c0,.int .i64 t.c1,.int .i64 t.c2,.int .i64 t.c3,.int .i64 t.c4]:=rfl
 rw[htv]
 simp only[List.nil_append,List.cons_append]
 show Ct _ _ _ [[(bo,row [.bool k] 4)]] _
 cases k with
 |true=>
  refine Ct.intro Tryz.func95 rfl Tryz.ntmps95 (nle rfl) fun w0=> ?_;dsimp only[argSlots,Nat.reduceAdd]
  repeat(refine st ?_;intros)
  (refine Dn.post (Hr:=[[(bo,row [.bool true] 4)]]) Tryz.results95 (hR:= ?_);exact⟨true,rfl,.inl ⟨rfl,rfl,rfl⟩⟩)
 |false=>
  have hd:dec (t.c1≠-1)=decide (t.c1≠-1):=dec_eq _
  refine Ct.intro Tryz.func95 rfl Tryz.ntmps95 (nle rfl) fun w0=> ?_;dsimp only[argSlots,Nat.reduceAdd]
  repeat(refine st ?_;intros)
  (refine Dn.post (Hr:=[[(bo,row [.bool (dec (t.c1≠-1))] 4)]]) Tryz.results95 (hR:= ?_);exact⟨dec (t.c1≠-1),rfl,.inl ⟨rfl,rfl,by rw[hd];simp[openM]⟩⟩)
theorem lkAhead (p:Jp) (fa fb:Fl) (b8 b4 b5:Nat) (J:Jb) (A T:Nat) (ts:List T5) (Rl:Fl→Int→Prop) (hL:LookS p J fa fb 0 1 1 A T ts Rl):
  StepCt p J 90 [pv b8,pv b4,pv b5] (lookH p.bj b8 b4 b5 fa fb) A T none ts fun f e Hx'=>Hx'=lookH p.bj b8 b4 b5 fa fb∧Rl f e:=by
 intro W cd ca cs held ph capj hW hJW
 have hL:=hL W cd ca cs held hW hJW
 have hflv:∀f:Fl,flv f= .agg #[.int .i64 (f.first:Int),.int .i64 (f.blocks:Int),.int .i64 (f.width:Int),.int .i64 (f.count:Int)]:=fun _=>rfl
 have hfl4:∀f:Fl,fl4 f=[.int .i64 (f.first:Int),.int .i64 (f.blocks:Int),.int .i64 (f.width:Int),.int .i64 (f.count:Int)]:=fun _=>rfl
 rw[hflv fa,hflv fb] at hL
 unfold jrow lookH
 rw[hfl4 fa,hfl4 fb]
 refine Ct.intro Tryz.func90 rfl Tryz.ntmps90 (nle rfl) fun w0=> ?_;dsimp only[argSlots,Nat.reduceAdd]
 repeat(first|(refine st ?_;intros)|refine G.draw [] (h:= ?_))
 refine R.callX (hct:=hL) (h:= ?_)
 rintro _ _ ⟨f,e,cd',ca',cs',W',rfl,rfl,hW',hS,hR⟩
 dsimp only[List.cons_append,List.nil_append]
 constructor
 ·(·(first|(intro _ _ h;cases h;done)|(repeat(first|exact qok_nil|(apply qok_cons;(·first|(intro hc;exact absurd hc (nmem rfl))|(intro _;apply CellPr.mk;(·repeat(first|exact Has.here|apply Has.there));(first|exact rfl|assumption))|(intro _;apply CellsPr.mk;(·repeat(first|exact Has.here|apply Has.there));(first|exact rfl|assumption))))))))
 rw[hflv]
 repeat(first|(refine st ?_;intros)|refine G.draw [] (h:= ?_))
 (refine Dn.post (Hr:=[[(p.bj,row [pv p.bw,.int .i64 0,.slice ph held.length capj] 102)],wrow p.bw p.bd p.ba p.bs,cd',ca',cs',[(b8,row [pv p.bj] 75)],[(b4,row (fl4 fa) 27)],[(b5,row (fl4 fb) 27)]]) Tryz.results90 (hR:= ?_);exact⟨f,e,cd',ca',cs',W',_,rfl,rfl,hW',hS,rfl,hR⟩)
theorem lkBoth (p:Jp) (fa fb:Fl) (b8 b4 b5:Nat) (J:Jb) (A T:Nat) (ts:List T5) (Rl:Fl→Int→Prop) (hL:LookS p J fa fb 0 2 2 A T ts Rl):
  StepCt p J 92 [pv b8,pv b4,pv b5] (lookH p.bj b8 b4 b5 fa fb) A T none ts fun f e Hx'=>Hx'=lookH p.bj b8 b4 b5 fa fb∧Rl f e:=by
 intro W cd ca cs held ph capj hW hJW
 have hL:=hL W cd ca cs held hW hJW
 have hflv:∀f:Fl,flv f= .agg #[.int .i64 (f.first:Int),.int .i64 (f.blocks:Int),.int .i64 (f.width:Int),.int .i64 (f.count:Int)]:=fun _=>rfl
 have hfl4:∀f:Fl,fl4 f=[.int .i64 (f.first:Int),.int .i64 (f.blocks:Int),.int .i64 (f.width:Int),.int .i64 (f.count:Int)]:=fun _=>rfl
 rw[hflv fa,hflv fb] at hL
 unfold jrow lookH
 rw[hfl4 fa,hfl4 fb]
 refine Ct.intro Tryz.func92 rfl Tryz.ntmps92 (nle rfl) fun w0=> ?_;dsimp only[argSlots,Nat.reduceAdd]
 repeat(first|(refine st ?_;intros)|refine G.draw [] (h:= ?_))
 refine R.callX (hct:=hL) (h:= ?_)
 rintro _ _ ⟨f,e,cd',ca',cs',W',rfl,rfl,hW',hS,hR⟩
 dsimp only[List.cons_append,List.nil_append]
 constructor
 ·(·(first|(intro _ _ h;cases h;done)|(repeat(first|exact qok_nil|(apply qok_cons;(·first|(intro hc;exact absurd hc (nmem rfl))|(intro _;apply CellPr.mk;(·repeat(first|exact Has.here|apply Has.there));(first|exact rfl|assumption))|(intro _;apply CellsPr.mk;(·repeat(first|exact Has.here|apply Has.there));(first|exact rfl|assumption))))))))
 rw[hflv]
 repeat(first|(refine st ?_;intros)|refine G.draw [] (h:= ?_))
 (refine Dn.post (Hr:=[[(p.bj,row [pv p.bw,.int .i64 0,.slice ph held.length capj] 102)],wrow p.bw p.bd p.ba p.bs,cd',ca',cs',[(b8,row [pv p.bj] 75)],[(b4,row (fl4 fa) 27)],[(b5,row (fl4 fb) 27)]]) Tryz.results92 (hR:= ?_);exact⟨f,e,cd',ca',cs',W',_,rfl,rfl,hW',hS,rfl,hR⟩)
theorem lkFar (p:Jp) (fa fb:Fl) (b8 b4 b5:Nat) (J:Jb) (A T:Nat) (ts:List T5) (Rl:Fl→Int→Prop) (hL:LookS p J fa fb 1 1 3 A T ts Rl):
  StepCt p J 97 [pv b8,pv b4,pv b5] (lookH p.bj b8 b4 b5 fa fb) A T none ts fun f e Hx'=>Hx'=lookH p.bj b8 b4 b5 fa fb∧Rl f e:=by
 intro W cd ca cs held ph capj hW hJW
 have hL:=hL W cd ca cs held hW hJW
 have hflv:∀f:Fl,flv f= .agg #[.int .i64 (f.first:Int),.int .i64 (f.blocks:Int),.int .i64 (f.width:Int),.int .i64 (f.count:Int)]:=fun _=>rfl
 have hfl4:∀f:Fl,fl4 f=[.int .i64 (f.first:Int),.int .i64 (f.blocks:Int),.int .i64 (f.width:Int),.int .i64 (f.count:Int)]:=fun _=>rfl
 rw[hflv fa,hflv fb] at hL
 unfold jrow lookH
 rw[hfl4 fa,hfl4 fb]
 refine Ct.intro Tryz.func97 rfl Tryz.ntmps97 (nle rfl) fun w0=> ?_;dsimp only[argSlots,Nat.reduceAdd]
 repeat(first|(refine st ?_;intros)|refine G.draw [] (h:= ?_))
 refine R.callX (hct:=hL) (h:= ?_)
 rintro _ _ ⟨f,e,cd',ca',cs',W',rfl,rfl,hW',hS,hR⟩
 dsimp only[List.cons_append,List.nil_append]
 constructor
 ·(·(first|(intro _ _ h;cases h;done)|(repeat(first|exact qok_nil|(apply qok_cons;(·first|(intro hc;exact absurd hc (nmem rfl))|(intro _;apply CellPr.mk;(·repeat(first|exact Has.here|apply Has.there));(first|exact rfl|assumption))|(intro _;apply CellsPr.mk;(·repeat(first|exact Has.here|apply Has.there));(first|exact rfl|assumption))))))))
 rw[hflv]
 repeat(first|(refine st ?_;intros)|refine G.draw [] (h:= ?_))
 (refine Dn.post (Hr:=[[(p.bj,row [pv p.bw,.int .i64 0,.slice ph held.length capj] 102)],wrow p.bw p.bd p.ba p.bs,cd',ca',cs',[(b8,row [pv p.bj] 75)],[(b4,row (fl4 fa) 27)],[(b5,row (fl4 fb) 27)]]) Tryz.results97 (hR:= ?_);exact⟨f,e,cd',ca',cs',W',_,rfl,rfl,hW',hS,rfl,hR⟩)
theorem lkSums (p:Jp) (fa fb:Fl) (b8 b4 b5:Nat) (J:Jb) (A T:Nat) (ts:List T5) (Rl:Fl→Int→Prop) (hL:LookS p J fa fb 1 2 4 A T ts Rl):
  StepCt p J 98 [pv b8,pv b4,pv b5] (lookH p.bj b8 b4 b5 fa fb) A T none ts fun f e Hx'=>Hx'=lookH p.bj b8 b4 b5 fa fb∧Rl f e:=by
 intro W cd ca cs held ph capj hW hJW
 have hL:=hL W cd ca cs held hW hJW
 have hflv:∀f:Fl,flv f= .agg #[.int .i64 (f.first:Int),.int .i64 (f.blocks:Int),.int .i64 (f.width:Int),.int .i64 (f.count:Int)]:=fun _=>rfl
 have hfl4:∀f:Fl,fl4 f=[.int .i64 (f.first:Int),.int .i64 (f.blocks:Int),.int .i64 (f.width:Int),.int .i64 (f.count:Int)]:=fun _=>rfl
 rw[hflv fa,hflv fb] at hL
 unfold jrow lookH
 rw[hfl4 fa,hfl4 fb]
 refine Ct.intro Tryz.func98 rfl Tryz.ntmps98 (nle rfl) fun w0=> ?_;dsimp only[argSlots,Nat.reduceAdd]
 repeat(first|(refine st ?_;intros)|refine G.draw [] (h:= ?_))
 refine R.callX (hct:=hL) (h:= ?_)
 rintro _ _ ⟨f,e,cd',ca',cs',W',rfl,rfl,hW',hS,hR⟩
 dsimp only[List.cons_append,List.nil_append]
 constructor
 ·(·(first|(intro _ _ h;cases h;done)|(repeat(first|exact qok_nil|(apply qok_cons;(·first|(intro hc;exact absurd hc (nmem rfl))|(intro _;apply CellPr.mk;(·repeat(first|exact Has.here|apply Has.there));(first|exact rfl|assumption))|(intro _;apply CellsPr.mk;(·repeat(first|exact Has.here|apply Has.there));(first|exact rfl|assumption))))))))
 rw[hflv]
 repeat(first|(refine st ?_;intros)|refine G.draw [] (h:= ?_))
 (refine Dn.post (Hr:=[[(p.bj,row [pv p.bw,.int .i64 0,.slice ph held.length capj] 102)],wrow p.bw p.bd p.ba p.bs,cd',ca',cs',[(b8,row [pv p.bj] 75)],[(b4,row (fl4 fa) 27)],[(b5,row (fl4 fb) 27)]]) Tryz.results98 (hR:= ?_);exact⟨f,e,cd',ca',cs',W',_,rfl,rfl,hW',hS,rfl,hR⟩)
abbrev o2:T5:=⟨2,0,0,0,0⟩
theorem or_nil {a b:Option Nat} (h:a.or b=none):a=none∧b=none:=by
 cases a with
 |none=>exact⟨rfl,h⟩
 |some x=>cases h
theorem vec4 (b:Nat) (f1 f2 f3 f4:Fl):Vec 27 4 (some ⟨b,0,none⟩) [f1,f2,f3,f4].length 4 (fcells [f1,f2,f3,f4]) [(b,row (fl4 f1++(fl4 f2++(fl4 f3++fl4 f4))) 27)]:=
 ⟨rfl,.inr ⟨b,[],rfl,by simp[fcells,fl4],by simp[fcells],by simp,by decide⟩⟩
def riseE (ts:List T5):Option Nat:=(riseM 0).bad (-1) ts
theorem riseM_bad (b:Nat):∀(ts:List T5) (k:Int),(riseM b).bad k ts=(riseM 0).bad k ts
 |[],_=>rfl
 |t::ts,k=>by
  simp only[Maker.bad]
  rw[show(riseM b).err k t=(riseM 0).err k t from rfl,show(riseM b).next k t=(riseM 0).next k t from rfl,riseM_bad b ts]
theorem rise_bad:∀{ts:List T5} {k:Int},(riseM 0).bad k ts=none↔ts.Pairwise (fun a c=>a.c0<c.c0)∧∀t∈ts,k<t.c0
 |[],k=>by simp[Maker.bad]
 |t::ts,k=>by
  simp only[Maker.bad]
  have ih:=rise_bad (ts:=ts) (k:=t.c0)
  by_cases h:t.c0≤k
  ·rw[show(riseM 0).err k t=some 3 from if_pos h]
   simp only[reduceCtorEq,false_iff]
   rintro⟨_,h2⟩
   have:=h2 t List.mem_cons_self
   omega
  ·rw[show(riseM 0).err k t=none from if_neg h,show(riseM 0).next k t=t.c0 from rfl]
   dsimp only
   rw[ih,List.pairwise_cons]
   constructor
   ·rintro⟨h1,h2⟩
    exact⟨⟨h2,h1⟩,fun u hu=>by
     rcases List.mem_cons.1 hu with rfl|hu
     ·omega
     ·have:=h2 u hu;omega⟩
   ·rintro⟨⟨h1,h2⟩,h3⟩
    exact⟨h2,h1⟩
theorem riseE_none {ts:List T5}:riseE ts=none↔ts.Pairwise (fun a c=>a.c0<c.c0)∧∀t∈ts,0≤t.c0:=by
 unfold riseE
 rw[rise_bad]
 exact and_congr Iff.rfl ⟨fun h t ht=>by have:=h t ht;omega,fun h t ht=>by have:=h t ht;omega⟩
theorem riseM_oks (b:Nat):∀(ts:List T5) (k:Int),(riseM b).oks (fun _ _=>True) k ts
 |[],_=>trivial
 |t::ts,k=>⟨trivial,fun _=>riseM_oks b ts _⟩
theorem rising_ct {p:Jp} {B m k a s0:Nat} {e:Int} {er:Option Nat} {Gf:List (Fl×List T5)} {C:Chunk} (hR:Rm p B m k a) (hJ:JobS p B k a s0 e er Gf C) (f:Fl) (ts:List T5) (hs:(f,ts)∈Gf∨In0 p (f,ts)) (h0:f.count≤1000∧f.blocks≤1000) (hst:s0≤10000):
  Ct Tryz.prog 88 [pv p.bj,flv f,.int .i64 0] [C] fun v H'=>∃C' e',v= .tuple #[]∧H'=[C']∧JobS p B k a (s0+1) e' (er.or (riseE ts)) Gf C'∧(e'=0→e=0∧riseE ts=none):=by
 have hflv:flv f= .agg #[.int .i64 (f.first:Int),.int .i64 (f.blocks:Int),.int .i64 (f.width:Int),.int .i64 (f.count:Int)]:=rfl
 have e1:IntKind.wrap .i64 (0-1)= -1:=by decide
 have hO:=fun bl=>SOver hR hJ (riseM bl) (-1) 117 inferInstance [pv bl] _ (rise_see bl) f ts hs h0 (fun _=>riseM_oks bl ts _) hst
 simp only[riseM_C,riseM_bad] at hO
 rw[hflv] at hO⊢
 refine Ct.intro Tryz.func88 rfl Tryz.ntmps88 (nle rfl) fun w0=> ?_;dsimp only[argSlots,Nat.reduceAdd]
 repeat(refine st ?_;intros)
 refine R.callX (hct:=hO _) (h:= ?_)
 rintro _ _ ⟨C',e',k',rfl,rfl,hJ',hE'⟩
 dsimp only[List.cons_append,List.nil_append]
 constructor
 ·(·(first|(intro _ _ h;cases h;done)|(repeat(first|exact qok_nil|(apply qok_cons;(·first|(intro hc;exact absurd hc (nmem rfl))|(intro _;apply CellPr.mk;(·repeat(first|exact Has.here|apply Has.there));(first|exact rfl|assumption))|(intro _;apply CellsPr.mk;(·repeat(first|exact Has.here|apply Has.there));(first|exact rfl|assumption))))))))
 repeat(refine st ?_;intros)
 (refine Dn.postEnd (Hr:=[C']) Tryz.results88 (hR:= ?_);exact⟨C',e',rfl,rfl,hJ',fun h=>⟨(hE' h).1,(hE' h).2.2⟩⟩)
def linksF (l:List T5):List T5:=srt (ltO o1) false (linkM.all () l)
def allF (l:List T5):List T5:=srt (ltO o1) false (l.map fun t=>⟨t.c0,0,0,0,0⟩)
def aheadF (l:List T5):List T5:=(allF l).map (lookF (linksF l) 0 1 1)
def bothF (l:List T5):List T5:=(aheadF l).map (lookF (linksF l) 0 2 2)
def begF (l:List T5):List T5:=(bothF l).map fndO
def cntB (l:List T5):Int:=(fndM 0).st 0 (bothF l)
def errB (l:List T5):Option Nat:=(((linkM.bad () l).or (riseE (linksF l))).or (riseE (allF l))).or (if cntB l=((linksF l).length:Int) then none else some 3)
theorem fndM_all (b:Nat):∀(ts:List T5) (k:Int),(fndM b).all k ts=ts.map fndO
 |[],_=>rfl
 |t::ts,k=>by simp only[Maker.all,fndM_all b ts,List.map_cons];rfl
theorem fndM_st (b b':Nat):∀(ts:List T5) (k:Int),(fndM b).st k ts=(fndM b').st k ts
 |[],_=>rfl
 |t::ts,k=>by simp only[Maker.st];rw[show(fndM b).next k t=(fndM b').next k t from rfl,fndM_st b b' ts]
theorem linkM_len (k:Unit) (t:T5):(linkM.outs k t).length≤1:=by unfold linkM linkO;dsimp only;split<;>simp
theorem linkM_ok:∀{ts:List T5} {k:Unit},(∀t∈ts,okT 3 t)→∀z∈linkM.all k ts,okT 3 z
 |[],_,_,z,hz=>by simp[Maker.all] at hz
 |t::ts,k,h,z,hz=>by
  simp only[Maker.all,List.mem_append] at hz
  rcases hz with hz|hz
  ·have ti:=okT_cols (h t List.mem_cons_self)
   unfold linkM linkO at hz;dsimp only at hz
   split at hz
   ·cases hz
   ·simp only[List.mem_singleton] at hz;subst hz
    exact okT3 ti.2.1 ti.1 ti.2.2.1
  ·exact linkM_ok (fun u hu=>h u (List.mem_cons_of_mem _ hu)) z hz
theorem linksF_ok {l:List T5} (h:∀t∈l,okT 3 t):∀z∈linksF l,okT 3 z:=fun z hz=>linkM_ok h z (srt_sub hz)
theorem allF_ok {l:List T5} (h:∀t∈l,okT 3 t):∀z∈allF l,okT 1 z:=fun z hz=>by
 obtain⟨t,ht,rfl⟩:=List.mem_map.1 (srt_sub hz)
 exact okT1 (okT_cols (h t ht)).1
theorem allF_len (l:List T5):(allF l).length=l.length:=by unfold allF;rw[(perm_srt _).length_eq,List.length_map]
theorem bothF_ok {l:List T5} (h:∀t∈l,okT 3 t):∀z∈bothF l,okT 3 z:=fun z hz=>by
 obtain⟨y,hy,rfl⟩:=List.mem_map.1 hz
 obtain⟨x,hx,rfl⟩:=List.mem_map.1 hy
 exact lookF_ok (linksF_ok h) 0 2 2 (by omega) (lookF_ok (linksF_ok h) 0 1 1 (by omega) (allF_ok h x hx))
theorem bothF_len (l:List T5):(bothF l).length=l.length:=by unfold bothF aheadF;rw[List.length_map,List.length_map,allF_len]
theorem begF_ok {l:List T5} (h:∀t∈l,okT 3 t):∀z∈begF l,okT 3 z:=fun z hz=>by
 obtain⟨y,hy,rfl⟩:=List.mem_map.1 hz
 exact fndO_ok (bothF_ok h y hy)
theorem begF_len (l:List T5):(begF l).length=l.length:=by unfold begF;rw[List.length_map,bothF_len]
structure ECx where
 e:Int
 C:Chunk
def fbox (b:Nat) (f:Fl):Chunk:=[(b,row [.int .i64 (f.first:Int),.int .i64 (f.blocks:Int),.int .i64 (f.width:Int),.int .i64 (f.count:Int)] 27)]
theorem begun_ct {p:Jp} {B m k a s0:Nat} {e:Int} {Gf:List (Fl×List T5)} {C:Chunk} (hR:Rm p B m k a) (hJ:JobS p B k a s0 e none Gf C) (lf:Fl) (l:List T5) (hl0:In0 p (lf,l)) (hw:lf.width=3) (hcn:lf.count≤1000) (c:Nat) (hc:lf.count≤2*c) (hcB:c≤B) (hT:sortT c≤m) (hk:Gf.length+5≤k) (hst:s0≤9000):
  Ct Tryz.prog 52 [pv p.bj,flv lf] [C] fun v H'=>∃f C' e',v=flv f∧H'=[C']∧JobS p B k a (s0+9) e' (errB l) ((f,begF l)::Gf) C'∧FB lf.count c 3 l.length e' f∧(e'=0→e=0):=by
 have hflv:∀f:Fl,flv f= .agg #[.int .i64 (f.first:Int),.int .i64 (f.blocks:Int),.int .i64 (f.width:Int),.int .i64 (f.count:Int)]:=fun _=>rfl
 have hfl4:∀f:Fl,fl4 f=[.int .i64 (f.first:Int),.int .i64 (f.blocks:Int),.int .i64 (f.width:Int),.int .i64 (f.count:Int)]:=fun _=>rfl
 have hto1:tv o1= .agg #[.int .i64 1,.int .i64 0,.int .i64 0,.int .i64 0,.int .i64 0]:=rfl
 obtain⟨hll,hlfit,hlb,_,_⟩:=in0file hl0
 dsimp only at hll hlfit hlb
 rw[hw] at hlfit
 have hB:=hR.bs
 have hlbl:lf.blocks≤lf.count:=by rw[hlb];exact nb_le hR.ok.size.1 (by omega) (by omega)
 have hM1:=fun b=>SMake1 hR hJ linkM () 3 lf.count c 1 (by omega) 87 inferInstance [] _ link_mk (fun k t _=>linkM_len k t) (by omega) lf l (.inr hl0) (by omega)
  (fun _=>Maker.oks_of (M:=linkM) (I:=fun _=>True) (Q:=okT 3) (fun _ t _ h=>⟨h,trivial⟩) _ () trivial hlfit) (fun _=>by
   have:=Maker.all_len (M:=linkM) (n:=1) linkM_len l ()
   omega) (.inr ⟨by omega,hc⟩) hcB (by omega) (by omega) b
 simp only[hfl4,show∀k,linkM.C k=[] from fun _=>rfl] at hM1
 rw[hflv]
 refine Ct.intro Tryz.func52 rfl Tryz.ntmps52 (nle rfl) fun w0=> ?_;dsimp only[argSlots,Nat.reduceAdd]
 repeat(refine st ?_;intros)
 rename_i b2 b3 b4 bs1
 repeat(refine st ?_;intros)
 refine R.callX (hct:=hM1 _) (h:= ?_)
 rintro _ _ ⟨f1,C1,e1,k1,rfl,rfl,hJ1,hF1,hE1⟩
 dsimp only[List.cons_append,List.nil_append]
 constructor
 ·(·(first|(intro _ _ h;cases h;done)|(repeat(first|exact qok_nil|(apply qok_cons;(·first|(intro hc;exact absurd hc (nmem rfl))|(intro _;apply CellPr.mk;(·repeat(first|exact Has.here|apply Has.there));(first|exact rfl|assumption))|(intro _;apply CellsPr.mk;(·repeat(first|exact Has.here|apply Has.there));(first|exact rfl|assumption))))))))
 try rw[hflv]
 rw[orNone] at hJ1
 have hS2:=SSort hR hJ1 f1 _ Gf o1 rfl false hF1 .here (by omega) hcB hT (by omega)
 rw[hflv,hto1,show srt (ltO o1) false (linkM.all () l)=linksF l from rfl] at hS2
 repeat(refine st ?_;intros)
 refine R.callX (hct:=hS2) (h:= ?_)
 rintro _ _ ⟨f2,C2,e2,rfl,rfl,hJ2,hF2,hE2⟩
 dsimp only[List.cons_append,List.nil_append]
 constructor
 ·(·(first|(intro _ _ h;cases h;done)|(repeat(first|exact qok_nil|(apply qok_cons;(·first|(intro hc;exact absurd hc (nmem rfl))|(intro _;apply CellPr.mk;(·repeat(first|exact Has.here|apply Has.there));(first|exact rfl|assumption))|(intro _;apply CellsPr.mk;(·repeat(first|exact Has.here|apply Has.there));(first|exact rfl|assumption))))))))
 try rw[hflv]
 have hF2c:=hF2.cnt
 have hF2b:=hF2.blk
 have hr3:=rising_ct hR hJ2 f2 (linksF l) (by first|exact .inr (by assumption)|exact .inl (by repeat(first|exact List.mem_cons_self|apply List.mem_cons_of_mem))) (by omega) (by omega)
 rw[hflv] at hr3
 repeat(refine st ?_;intros)
 rename_i b5
 refine R.callX (hct:=hr3) (h:= ?_)
 rintro _ _ ⟨C3,e3,rfl,rfl,hJ3,hE3⟩
 dsimp only[List.cons_append,List.nil_append]
 constructor
 ·(·(first|(intro _ _ h;cases h;done)|(repeat(first|exact qok_nil|(apply qok_cons;(·first|(intro hc;exact absurd hc (nmem rfl))|(intro _;apply CellPr.mk;(·repeat(first|exact Has.here|apply Has.there));(first|exact rfl|assumption))|(intro _;apply CellsPr.mk;(·repeat(first|exact Has.here|apply Has.there));(first|exact rfl|assumption))))))))
 have hM4:=fun b=>SMap1 hR hJ3 (fun t=>⟨t.c0,0,0,0,0⟩) 1 lf.count c (by omega) 89 inferInstance (okT 3) elem_mk (fun t h=>okT1 (okT_cols h).1) lf l (.inr hl0) (by omega) (fun _=>hlfit) (fun _=>by omega) (.inr ⟨by omega,hc⟩) hcB (by simp only[List.length_cons,List.length_nil];omega) (by omega) b
 simp only[hfl4] at hM4
 repeat(refine st ?_;intros)
 refine R.callX (hct:=hM4 _) (h:= ?_)
 rintro _ _ ⟨f4,C4,e4,rfl,rfl,hJ4,hF4,hE4⟩
 dsimp only[List.cons_append,List.nil_append]
 constructor
 ·(·(first|(intro _ _ h;cases h;done)|(repeat(first|exact qok_nil|(apply qok_cons;(·first|(intro hc;exact absurd hc (nmem rfl))|(intro _;apply CellPr.mk;(·repeat(first|exact Has.here|apply Has.there));(first|exact rfl|assumption))|(intro _;apply CellsPr.mk;(·repeat(first|exact Has.here|apply Has.there));(first|exact rfl|assumption))))))))
 try rw[hflv]
 have hS5:=SSort hR hJ4 f4 _ _ o1 rfl false hF4 .here (by omega) hcB hT (by omega)
 rw[hflv,hto1,show srt (ltO o1) false (l.map fun t=>(⟨t.c0,0,0,0,0⟩:T5))=allF l from rfl] at hS5
 repeat(refine st ?_;intros)
 refine R.callX (hct:=hS5) (h:= ?_)
 rintro _ _ ⟨f5,C5,e5,rfl,rfl,hJ5,hF5,hE5⟩
 dsimp only[List.cons_append,List.nil_append]
 constructor
 ·(·(first|(intro _ _ h;cases h;done)|(repeat(first|exact qok_nil|(apply qok_cons;(·first|(intro hc;exact absurd hc (nmem rfl))|(intro _;apply CellPr.mk;(·repeat(first|exact Has.here|apply Has.there));(first|exact rfl|assumption))|(intro _;apply CellsPr.mk;(·repeat(first|exact Has.here|apply Has.there));(first|exact rfl|assumption))))))))
 try rw[hflv]
 have hF5c:=hF5.cnt
 have hF5b:=hF5.blk
 have hr6:=rising_ct hR hJ5 f5 (allF l) (by first|exact .inr (by assumption)|exact .inl (by repeat(first|exact List.mem_cons_self|apply List.mem_cons_of_mem))) (by omega) (by omega)
 rw[hflv] at hr6
 repeat(refine st ?_;intros)
 rename_i bs4 b6
 refine R.callX (hct:=hr6) (h:= ?_)
 rintro _ _ ⟨C6,e6,rfl,rfl,hJ6,hE6⟩
 dsimp only[List.cons_append,List.nil_append]
 constructor
 ·(·(first|(intro _ _ h;cases h;done)|(repeat(first|exact qok_nil|(apply qok_cons;(·first|(intro hc;exact absurd hc (nmem rfl))|(intro _;apply CellPr.mk;(·repeat(first|exact Has.here|apply Has.there));(first|exact rfl|assumption))|(intro _;apply CellsPr.mk;(·repeat(first|exact Has.here|apply Has.there));(first|exact rfl|assumption))))))))
 have hup:e6=0→e2=0∧e5=0∧e=0∧linkM.bad () l=none∧riseE (linksF l)=none∧riseE (allF l)=none:=fun h=>by
  obtain⟨h5,q6⟩:=hE6 h
  obtain⟨h2,q3⟩:=hE3 (hE4 (hE5 h5))
  obtain⟨h0,_,q1⟩:=hE1 (hE2 h2)
  exact⟨h2,h5,h0,q1,q3,q6⟩
 have hR7:=fun b8 b4 b5=>SLookRun hR hJ6 90 inferInstance f5 f2 (allF l) (linksF l) 0 1 1 2 c (by first|exact .inr (by assumption)|exact .inl (by repeat(first|exact List.mem_cons_self|apply List.mem_cons_of_mem))) (by first|exact .inr (by assumption)|exact .inl (by repeat(first|exact List.mem_cons_self|apply List.mem_cons_of_mem))) (lkAhead p f5 f2 b8 b4 b5) (hF5.mono fun h=>(hE6 h).1) (hF2.mono fun h=>(hup h).1) (by omega) (by omega) (by omega) (by omega) (by omega) (by omega)
  (fun _=>srt_o1 _) (fun h=>(riseE_none.1 (hup h).2.2.2.2.1).1) (.inr ⟨by omega,by omega⟩) hcB (by simp only[List.length_cons,List.length_nil];omega) (by omega)
 simp only[lookH,hfl4] at hR7
 repeat(refine st ?_;intros)
 refine R.callX (hct:=hR7 _ _ _) (h:= ?_)
 rintro _ _ ⟨f7,C7,e7,rfl,rfl,hJ7,hF7,hE7⟩
 dsimp only[List.cons_append,List.nil_append]
 constructor
 ·(·(first|(intro _ _ h;cases h;done)|(repeat(first|exact qok_nil|(apply qok_cons;(·first|(intro hc;exact absurd hc (nmem rfl))|(intro _;apply CellPr.mk;(·repeat(first|exact Has.here|apply Has.there));(first|exact rfl|assumption))|(intro _;apply CellsPr.mk;(·repeat(first|exact Has.here|apply Has.there));(first|exact rfl|assumption))))))))
 try rw[hflv]
 rw[show(allF l).map (lookF (linksF l) 0 1 1)=aheadF l from rfl] at hJ7
 have hF7c:=hF7.cnt
 have hF7b:=hF7.blk
 have hR8:=fun b8 b4 b5=>SLookRun hR hJ7 92 inferInstance f7 f2 (aheadF l) (linksF l) 0 2 2 3 c (by first|exact .inr (by assumption)|exact .inl (by repeat(first|exact List.mem_cons_self|apply List.mem_cons_of_mem))) (by first|exact .inr (by assumption)|exact .inl (by repeat(first|exact List.mem_cons_self|apply List.mem_cons_of_mem))) (lkBoth p f7 f2 b8 b4 b5) hF7 (hF2.mono fun h=>(hup (hE7 h)).1) (by omega) (by omega) (by omega) (by omega) (by omega) (by omega)
  (fun _=>by unfold aheadF;rw[List.pairwise_map];exact srt_o1 _) (fun h=>(riseE_none.1 (hup (hE7 h)).2.2.2.2.1).1) (.inr ⟨by omega,by omega⟩) hcB (by simp only[List.length_cons,List.length_nil];omega) (by omega)
 simp only[lookH,hfl4] at hR8
 repeat(refine st ?_;intros)
 refine R.callX (hct:=hR8 _ _ _) (h:= ?_)
 rintro _ _ ⟨f8,C8,e8,rfl,rfl,hJ8,hF8,hE8⟩
 dsimp only[List.cons_append,List.nil_append]
 constructor
 ·(·(first|(intro _ _ h;cases h;done)|(repeat(first|exact qok_nil|(apply qok_cons;(·first|(intro hc;exact absurd hc (nmem rfl))|(intro _;apply CellPr.mk;(·repeat(first|exact Has.here|apply Has.there));(first|exact rfl|assumption))|(intro _;apply CellsPr.mk;(·repeat(first|exact Has.here|apply Has.there));(first|exact rfl|assumption))))))))
 try rw[hflv]
 rw[show(aheadF l).map (lookF (linksF l) 0 2 2)=bothF l from rfl] at hJ8
 have hF8c:=hF8.cnt
 have hF8b:=hF8.blk
 have hM9:=fun b9 b=>SMake1n hR hJ8 (fndM b9) (fun _ _=>rfl) 0 3 f8.count c 1 (by omega) 93 inferInstance [pv b9] _ (fnd_mk b9) (fun _ _ _=>Nat.le_refl _) (by omega) f8 (bothF l) (by first|exact .inr (by assumption)|exact .inl (by repeat(first|exact List.mem_cons_self|apply List.mem_cons_of_mem))) (by omega)
  (fun _=>Maker.oks_of (M:=fndM b9) (I:=fun _=>True) (Q:=okT 3) (fun _ t _ h=>⟨h,trivial⟩) _ 0 trivial (bothF_ok hlfit)) (fun h=>by
   rw[fndM_all,List.length_map,bothF_len]
   have:=(hF8.ok h).2
   rw[allF_len] at this
   omega) (.inr ⟨by omega,by omega⟩) hcB (by simp only[List.length_cons,List.length_nil];omega) (by omega) b
 simp only[hfl4,fndM_C,fndM_all,fndM_st _ 0] at hM9
 rw[show(bothF l).map fndO=begF l from rfl,show(fndM 0).st 0 (bothF l)=cntB l from rfl] at hM9
 repeat(refine st ?_;intros)
 refine R.callX (hct:=hM9 _ _) (h:= ?_)
 rintro _ _ ⟨f9,C9,e9,k9,rfl,rfl,hJ9,hF9,hE9⟩
 dsimp only[List.cons_append,List.nil_append]
 constructor
 ·(·(first|(intro _ _ h;cases h;done)|(repeat(first|exact qok_nil|(apply qok_cons;(·first|(intro hc;exact absurd hc (nmem rfl))|(intro _;apply CellPr.mk;(·repeat(first|exact Has.here|apply Has.there));(first|exact rfl|assumption))|(intro _;apply CellsPr.mk;(·repeat(first|exact Has.here|apply Has.there));(first|exact rfl|assumption))))))))
 try rw[hflv]
 have h9:e9=0→e6=0∧k9=cntB l∧f2.count=(linksF l).length:=fun h=>by
  obtain⟨h8,hk9⟩:=hE9 h
  have h6:=hE7 (hE8 h8)
  exact⟨h6,hk9,(hF2.ok (hup h6).1).2⟩
 obtain⟨x2,hx2⟩:∃x2:Option Nat,x2=if cntB l=((linksF l).length:Int) then none else some 3:=⟨_,rfl⟩
 have herr:(((linkM.bad () l).or (riseE (linksF l))).or (riseE (allF l))).or x2=errB l:=by rw[hx2];rfl
 repeat(refine stn ?_;intros)
 rename_i b7 b8 b9 bs9 b10
 refine G.cut (D':=[]) (X:=ECx) (fun x=>JobS p B k a (s0+9) x.e (errB l) ((f9,begF l)::(f8,bothF l)::(f7,aheadF l)::(f5,allF l)::(f2,linksF l)::Gf) x.C∧(x.e=0→e9=0)) (fun _=>[(10,pv b10),(8,pv b8),(7,pv b7),(6,pv b6),(5,pv b5),(4,pv b4),(2,pv b2)])
  (fun x=>[x.C,fbox b10 f9,fbox b8 f8,fbox b7 f7,fbox b6 f5,fbox b5 f2,fbox b4 ⟨0,0,0,0⟩,[(b2,row [pv p.bj] 75)]]) ?_ ?_
 ·by_cases hcc:k9=(f2.count:Int)
  ·subst hcc
   repeat(refine st ?_;intros)
   refine Dn.meet ⟨e9,C9⟩ ⟨?_,fun h=>h⟩
   rw[←herr]
   refine hJ9.orE x2 fun h=> ?_
   obtain⟨_,h1,h2⟩:=h9 h
   rw[hx2,if_pos]
   rw[←h1,h2]
  ·have hF10:=SFail hJ9 3 (by decide) (by decide) x2 (fun h=>by
    obtain⟨_,h1,h2⟩:=h9 h
    rw[hx2,if_neg]
    rw[←h1,←h2];exact hcc)
   repeat(refine st ?_;intros)
   refine R.callX (hct:=hF10) (h:= ?_)
   rintro _ _ ⟨e10,C10,rfl,rfl,hJ10,he10⟩
   dsimp only[List.cons_append,List.nil_append]
   constructor
   ·(·(first|(intro _ _ h;cases h;done)|(repeat(first|exact qok_nil|(apply qok_cons;(·first|(intro hc;exact absurd hc (nmem rfl))|(intro _;apply CellPr.mk;(·repeat(first|exact Has.here|apply Has.there));(first|exact rfl|assumption))|(intro _;apply CellsPr.mk;(·repeat(first|exact Has.here|apply Has.there));(first|exact rfl|assumption))))))))
   repeat(refine st ?_;intros)
   exact Dn.meet ⟨e10,C10⟩ ⟨by rw[←herr];exact hJ10,fun h=>absurd h he10⟩
 rintro⟨e10,C10⟩ ⟨hJ10,hE10⟩
 dsimp only[fbox] at hJ10 hE10⊢
 have hF9':FB lf.count c 3 l.length e10 f9:=⟨by have:=hF9.cnt;omega,hF9.blk,fun h=>by have:=hF9.ok (hE10 h);rwa[begF_len] at this⟩
 have hFr:=fun b=>SFree hR hJ10 [(f2,linksF l),(f5,allF l),(f7,aheadF l),(f8,bothF l)] ((f9,begF l)::Gf) (.cons (.there (.there (.there (.there .here)))) (.cons (.there (.there (.there .here))) (.cons (.there (.there .here)) (.cons (.there .here) .nil)))) (by simp) _ 4 _ (vec4 b f2 f5 f7 f8)
 simp only[hfl4,List.map_cons,List.map_nil,List.cons_append,List.nil_append] at hFr
 repeat(refine st ?_;intros)
 refine R.callX (hct:=hFr _) (h:= ?_)
 rintro _ _ ⟨C11,rfl,rfl,hJ11⟩
 dsimp only[List.cons_append,List.nil_append]
 constructor
 ·(·(first|(intro _ _ h;cases h;done)|(repeat(first|exact qok_nil|(apply qok_cons;(·first|(intro hc;exact absurd hc (nmem rfl))|(intro _;apply CellPr.mk;(·repeat(first|exact Has.here|apply Has.there));(first|exact rfl|assumption))|(intro _;apply CellsPr.mk;(·repeat(first|exact Has.here|apply Has.there));(first|exact rfl|assumption))))))))
 repeat(refine st ?_;intros)
 (refine Dn.post (Hr:=[C11]) Tryz.results52 (hR:= ?_);exact⟨f9,C11,e10,rfl,rfl,hJ11,hF9',fun h=>(hup (h9 (hE10 h)).1).2.2.1⟩)
end Go.Proofs.YtjoicjgfgkpdjaaGreat
namespace Go.SL
variable {P:Program} {ops:Array Oper} {Q:Exit→Act→World→Prop} {cls:Nat→Oper→Cls} {w0:World} {S:List Nat} {n:Nat} {l:List (Nat×Oper)} {L:Slots} {D:List Deferred} {H:Hp} {qs:List Rd} {k:Nat}
theorem close_perm {C c1 c2:Chunk} {Ha Hb:Hp} (hp:C.Perm (c1++c2)) (h1:Take c1 H Ha) (h2:Take c2 Ha Hb):H.flatten.Perm ((C::Hb).flatten):=by
 refine(join_perm h1 h2).trans ?_
 simp only[List.flatten_cons]
 exact hp.symm.append_right _
theorem R1.close {o:Oper} {C c1 c2:Chunk} {Ha Hb:Hp} (hp:C.Perm (c1++c2)) (h1:Take c1 H Ha) (h2:Take c2 Ha Hb) (h:R1 P ops Q cls w0 S n k o l L D (C::Hb) qs):R1 P ops Q cls w0 S n k o l L D H qs:=R1.recut (close_perm hp h1 h2) h
theorem G.close {x:Code} {C c1 c2:Chunk} {Ha Hb:Hp} (hp:C.Perm (c1++c2)) (h1:Take c1 H Ha) (h2:Take c2 Ha Hb) (h:G P Q w0 S n x L D (C::Hb)):G P Q w0 S n x L D H:=G.recut (close_perm hp h1 h2) h
theorem Dn.close {e:Exit} {C c1 c2:Chunk} {Ha Hb:Hp} (hp:C.Perm (c1++c2)) (h1:Take c1 H Ha) (h2:Take c2 Ha Hb) (h:Dn Q w0 S n e L D (C::Hb)):Dn Q w0 S n e L D H:=Dn.recut (close_perm hp h1 h2) h
end Go.SL
namespace Go.Proofs.YtjoicjgfgkpdjaaGreat
open Go.SL Go.Spc Go.Tup Go.Srt
theorem JobS.row {p:Jp} {B k a s0:Nat} {e:Int} {er:Option Nat} {Gf:List (Fl×List T5)} {C:Chunk} (h:JobS p B k a s0 e er Gf C):∃ph nh cap rest,C.Perm ([(p.bj,row [pv p.bw,.int .i64 e,.slice ph nh cap] 102)]++rest):=by
 obtain⟨⟨W,cd,ca,cs,held,ph,cap,ch,rfl,_⟩,_⟩:=h
 refine⟨ph,held.length,cap,[wrow p.bw p.bd p.ba p.bs,cd,ca,cs,ch].flatten,?_⟩
 unfold jobC jrow
 refine permC fun z=> ?_
 simp only[List.flatten_cons,List.flatten_nil,List.append_nil,List.flatten_append,List.count_append];omega
theorem openM_st (b:Nat):∀(ts:List T5) (k:Bool),(openM b).st k ts=(k||ts.any fun t=>decide (t.c1≠-1))
 |[],k=>by simp[Maker.st]
 |t::ts,k=>by
  simp only[Maker.st,openM_st b ts,List.any_cons]
  show((k||decide (t.c1≠-1))||_)=_
  rw[Bool.or_assoc]
theorem openM_oks (b:Nat):∀(ts:List T5) (k:Bool),(openM b).oks (fun _ _=>True) k ts
 |[],_=>trivial
 |t::ts,k=>⟨trivial,fun _=>openM_oks b ts _⟩
def openT (s:List T5):Bool:=s.any fun t=>decide (t.c1≠-1)
def farF (s:List T5):List T5:=(srt (ltO o2) false s).map (lookF s 1 1 3)
def sumsF (s:List T5):List T5:=(farF s).map (lookF s 1 2 4)
def jumpF (s:List T5):List T5:=srt (ltO o1) false ((sumsF s).map jmpF)
theorem farF_ok {s:List T5} (h:∀t∈s,okT 3 t):∀z∈farF s,okT 4 z:=fun z hz=>by
 obtain⟨y,hy,rfl⟩:=List.mem_map.1 hz
 exact lookF_ok h 1 1 3 (by omega) (h y (srt_sub hy))
theorem sumsF_ok {s:List T5} (h:∀t∈s,okT 3 t):∀z∈sumsF s,okT 5 z:=fun z hz=>by
 obtain⟨y,hy,rfl⟩:=List.mem_map.1 hz
 exact lookF_ok h 1 2 4 (by omega) (farF_ok h y hy)
theorem farF_len (s:List T5):(farF s).length=s.length:=by unfold farF;rw[List.length_map,(perm_srt _).length_eq]
theorem sumsF_len (s:List T5):(sumsF s).length=s.length:=by unfold sumsF;rw[List.length_map,farF_len]
theorem jumpF_len (s:List T5):(jumpF s).length=s.length:=by unfold jumpF;rw[(perm_srt _).length_eq,List.length_map,sumsF_len]
theorem jumpF_ok {s:List T5} (h:∀t∈s,okT 3 t):∀z∈jumpF s,okT 3 z:=fun z hz=>by
 obtain⟨y,hy,rfl⟩:=List.mem_map.1 (srt_sub hz)
 exact jmpF_ok (sumsF_ok h y hy)
theorem ltO_o2 (a b:T5):ltO o2 a b=true↔a.c1<b.c1:=by
 have hf:formed o2=true:=by decide
 unfold ltO cmpT
 rw[decide_eq_true_iff,if_pos hf]
 exact cmp3lt a.c1 b.c1
theorem srt_o2 (l:List T5):(srt (ltO o2) false l).Pairwise fun a c=>a.c1≤c.c1:=by
 refine(sd_srt (ltO_swo o2) false l).imp fun {a b} h=> ?_
 have h1:¬ltO o2 b a=true:=by
  intro h2
  simp only[Bool.false_eq_true,if_false] at h
  rw[h] at h2;cases h2
 rw[ltO_o2] at h1
 omega
theorem jump_ct {p:Jp} {B m k a s0:Nat} {e:Int} {er:Option Nat} {Gf:List (Fl×List T5)} {C:Chunk} (hR:Rm p B m k a) (f:Fl) (s:List T5) (hJ:JobS p B k a s0 e er ((f,s)::Gf) C) (n c:Nat) (hF:FB n c 3 s.length e f) (hn:n≤1000) (hnc:n≤2*c) (hcB:c≤B) (hnB:n≤B) (hT:sortT c≤m) (hk:Gf.length+5≤k) (hst:s0≤9000)
  (hok:∀t∈s,okT 3 t) (hsr:e=0→s.Pairwise fun a c=>a.c0<c.c0):
  Ct Tryz.prog 54 [pv p.bj,flv f] [C] fun v H'=>∃f' ob C' e',v= .tuple #[flv f',.bool ob]∧H'=[C']∧
   ((ob=false∧f'=f∧JobS p B k a (s0+1) e' er ((f,s)::Gf) C'∧(e'=0→e=0∧openT s=false))∨(ob=true∧JobS p B k a (s0+7) e' er ((f',jumpF s)::Gf) C'∧FB n c 3 s.length e' f'∧(e'=0→e=0∧openT s=true))):=by
 have hflv:∀f:Fl,flv f= .agg #[.int .i64 (f.first:Int),.int .i64 (f.blocks:Int),.int .i64 (f.width:Int),.int .i64 (f.count:Int)]:=fun _=>rfl
 have hfl4:∀f:Fl,fl4 f=[.int .i64 (f.first:Int),.int .i64 (f.blocks:Int),.int .i64 (f.width:Int),.int .i64 (f.count:Int)]:=fun _=>rfl
 have hto1:tv o1= .agg #[.int .i64 1,.int .i64 0,.int .i64 0,.int .i64 0,.int .i64 0]:=rfl
 have hto2:tv o2= .agg #[.int .i64 2,.int .i64 0,.int .i64 0,.int .i64 0,.int .i64 0]:=rfl
 have hB:=hR.bs
 have hFc:=hF.cnt
 have hFb:=hF.blk
 have hO:=fun b6=>SOver hR hJ (openM b6) false 95 inferInstance [pv b6] _ (open_see b6) f s (by first|exact .inr (by assumption)|exact .inl (by repeat(first|exact List.mem_cons_self|apply List.mem_cons_of_mem))) (by omega) (fun _=>openM_oks b6 s _) (by omega)
 simp only[openM_C,openM_st,Bool.false_or,Maker.bad_none (M:=openM _) (fun _ _=>rfl),or_none'] at hO
 rw[show(s.any fun t=>decide (t.c1≠-1))=openT s from rfl] at hO
 rw[hflv] at hO⊢
 refine Ct.intro Tryz.func54 rfl Tryz.ntmps54 (nle rfl) fun w0=> ?_;dsimp only[argSlots,Nat.reduceAdd]
 repeat(refine st ?_;intros)
 rename_i b2 b3 b4 b6
 refine R.callX (hct:=hO _) (h:= ?_)
 rintro _ _ ⟨C1,e1,k1,rfl,rfl,hJ1,hE1⟩
 dsimp only[List.cons_append,List.nil_append]
 constructor
 ·(·(first|(intro _ _ h;cases h;done)|(repeat(first|exact qok_nil|(apply qok_cons;(·first|(intro hc;exact absurd hc (nmem rfl))|(intro _;apply CellPr.mk;(·repeat(first|exact Has.here|apply Has.there));(first|exact rfl|assumption))|(intro _;apply CellsPr.mk;(·repeat(first|exact Has.here|apply Has.there));(first|exact rfl|assumption))))))))
 cases k1 with
 |false=>
  repeat(refine st ?_;intros)
  (refine Dn.post (Hr:=[C1]) Tryz.results54 (hR:= ?_);exact⟨f,false,C1,e1,rfl,rfl,.inl ⟨rfl,rfl,hJ1,fun h=>⟨(hE1 h).1,(hE1 h).2.1.symm⟩⟩⟩)
 |true=>
 obtain⟨ph,nh,pc,rest,hrow⟩:=hJ1.row
 by_cases he1:e1=0
 rotate_left
 ·repeat(refine stn ?_;intros)
  refine G.open hrow (by(repeat(first|exact Take.here|apply Take.there))) ?_
  repeat(refine st ?_;intros)
  refine Dn.close hrow (by(repeat(first|exact Take.here|apply Take.there))) (by(repeat(first|exact Take.here|apply Take.there))) ?_
  (refine Dn.post (Hr:=[C1]) Tryz.results54 (hR:= ?_);exact⟨f,false,C1,e1,rfl,rfl,.inl ⟨rfl,rfl,hJ1,fun h=>absurd h he1⟩⟩)
 subst he1
 obtain⟨he0,hop,_⟩:=hE1 rfl
 subst he0
 have hM2:=fun b=>SMap1 hR hJ1 (fun t=>t) 3 f.count c (by omega) 96 inferInstance (okT 3) same_mk (fun t h=>h) f s (by first|exact .inr (by assumption)|exact .inl (by repeat(first|exact List.mem_cons_self|apply List.mem_cons_of_mem))) (by omega) (fun _=>hok) (fun h=>by have:=(hF.ok h).2;omega) (.inr ⟨by omega,by omega⟩) hcB (by simp only[List.length_cons,List.length_nil];omega) (by omega) b
 simp only[hfl4,map_id_t] at hM2
 repeat(refine stn ?_;intros)
 refine G.open hrow (by(repeat(first|exact Take.here|apply Take.there))) ?_
 repeat(refine st ?_;intros)
 refine R1.close hrow (by(repeat(first|exact Take.here|apply Take.there))) (by(repeat(first|exact Take.here|apply Take.there))) ?_
 repeat(refine st ?_;intros)
 refine R.callX (hct:=hM2 _) (h:= ?_)
 rintro _ _ ⟨f2,C2,e2,rfl,rfl,hJ2,hF2,hE2⟩
 dsimp only[List.cons_append,List.nil_append]
 constructor
 ·(·(first|(intro _ _ h;cases h;done)|(repeat(first|exact qok_nil|(apply qok_cons;(·first|(intro hc;exact absurd hc (nmem rfl))|(intro _;apply CellPr.mk;(·repeat(first|exact Has.here|apply Has.there));(first|exact rfl|assumption))|(intro _;apply CellsPr.mk;(·repeat(first|exact Has.here|apply Has.there));(first|exact rfl|assumption))))))))
 try rw[hflv]
 have hS3:=SSort hR hJ2 f2 _ _ o2 rfl false hF2 .here (by omega) hcB hT (by omega)
 rw[hflv,hto2] at hS3
 repeat(refine st ?_;intros)
 refine R.callX (hct:=hS3) (h:= ?_)
 rintro _ _ ⟨f3,C3,e3,rfl,rfl,hJ3,hF3,hE3⟩
 dsimp only[List.cons_append,List.nil_append]
 constructor
 ·(·(first|(intro _ _ h;cases h;done)|(repeat(first|exact qok_nil|(apply qok_cons;(·first|(intro hc;exact absurd hc (nmem rfl))|(intro _;apply CellPr.mk;(·repeat(first|exact Has.here|apply Has.there));(first|exact rfl|assumption))|(intro _;apply CellsPr.mk;(·repeat(first|exact Has.here|apply Has.there));(first|exact rfl|assumption))))))))
 try rw[hflv]
 have hF3c:=hF3.cnt
 have hF3b:=hF3.blk
 have hR4:=fun b8 b4 b5=>SLookRun hR hJ3 97 inferInstance f3 f (srt (ltO o2) false s) s 1 1 3 4 n (by first|exact .inr (by assumption)|exact .inl (by repeat(first|exact List.mem_cons_self|apply List.mem_cons_of_mem))) (by first|exact .inr (by assumption)|exact .inl (by repeat(first|exact List.mem_cons_self|apply List.mem_cons_of_mem))) (lkFar p f3 f b8 b4 b5) hF3 (hF.mono fun _=>rfl) (by omega) (by omega) (by omega) (by omega) (by omega) (by omega)
  (fun _=>srt_o2 _) (fun h=>hsr rfl) (.inl (by omega)) hnB (by simp only[List.length_cons,List.length_nil];omega) (by omega)
 simp only[lookH,hfl4] at hR4
 repeat(refine st ?_;intros)
 refine R.callX (hct:=hR4 _ _ _) (h:= ?_)
 rintro _ _ ⟨f4,C4,e4,rfl,rfl,hJ4,hF4,hE4⟩
 dsimp only[List.cons_append,List.nil_append]
 constructor
 ·(·(first|(intro _ _ h;cases h;done)|(repeat(first|exact qok_nil|(apply qok_cons;(·first|(intro hc;exact absurd hc (nmem rfl))|(intro _;apply CellPr.mk;(·repeat(first|exact Has.here|apply Has.there));(first|exact rfl|assumption))|(intro _;apply CellsPr.mk;(·repeat(first|exact Has.here|apply Has.there));(first|exact rfl|assumption))))))))
 try rw[hflv]
 rw[show(srt (ltO o2) false s).map (lookF s 1 1 3)=farF s from rfl] at hJ4
 have hF4c:=hF4.cnt
 have hF4b:=hF4.blk
 have hR5:=fun b8 b4 b5=>SLookRun hR hJ4 98 inferInstance f4 f (farF s) s 1 2 4 5 n (by first|exact .inr (by assumption)|exact .inl (by repeat(first|exact List.mem_cons_self|apply List.mem_cons_of_mem))) (by first|exact .inr (by assumption)|exact .inl (by repeat(first|exact List.mem_cons_self|apply List.mem_cons_of_mem))) (lkSums p f4 f b8 b4 b5) hF4 (hF.mono fun _=>rfl) (by omega) (by omega) (by omega) (by omega) (by omega) (by omega)
  (fun _=>by unfold farF;rw[List.pairwise_map];exact(srt_o2 _).imp fun h=>h) (fun h=>hsr rfl) (.inl (by omega)) hnB (by simp only[List.length_cons,List.length_nil];omega) (by omega)
 simp only[lookH,hfl4] at hR5
 repeat(refine st ?_;intros)
 refine R.callX (hct:=hR5 _ _ _) (h:= ?_)
 rintro _ _ ⟨f5,C5,e5,rfl,rfl,hJ5,hF5,hE5⟩
 dsimp only[List.cons_append,List.nil_append]
 constructor
 ·(·(first|(intro _ _ h;cases h;done)|(repeat(first|exact qok_nil|(apply qok_cons;(·first|(intro hc;exact absurd hc (nmem rfl))|(intro _;apply CellPr.mk;(·repeat(first|exact Has.here|apply Has.there));(first|exact rfl|assumption))|(intro _;apply CellsPr.mk;(·repeat(first|exact Has.here|apply Has.there));(first|exact rfl|assumption))))))))
 try rw[hflv]
 rw[show(farF s).map (lookF s 1 2 4)=sumsF s from rfl] at hJ5
 have hF5c:=hF5.cnt
 have hF5b:=hF5.blk
 have hM6:=fun b=>SMake1n hR hJ5 (mMap jmpF) (fun _ _=>rfl) () 3 f.count c 1 (by omega) 99 inferInstance [] _ jmp_mk (fun _ _ _=>Nat.le_refl _) (by omega) f5 (sumsF s) (by first|exact .inr (by assumption)|exact .inl (by repeat(first|exact List.mem_cons_self|apply List.mem_cons_of_mem))) (by omega)
  (fun _=>Maker.oks_of (M:=mMap jmpF) (I:=fun _=>True) (Q:=okT 5) (fun _ t _ h=>⟨h,trivial⟩) _ () trivial (sumsF_ok hok)) (fun h=>by
   rw[mMap_all,List.length_map,sumsF_len]
   have:=(hF.ok rfl).2
   omega) (.inr ⟨by omega,by omega⟩) hcB (by simp only[List.length_cons,List.length_nil];omega) (by omega) b
 rw[mMap_all] at hM6
 simp only[hfl4,show∀k,(mMap jmpF).C k=[] from fun _=>rfl] at hM6
 repeat(refine st ?_;intros)
 refine R.callX (hct:=hM6 _) (h:= ?_)
 rintro _ _ ⟨f6,C6,e6,k6,rfl,rfl,hJ6,hF6,hE6⟩
 dsimp only[List.cons_append,List.nil_append]
 constructor
 ·(·(first|(intro _ _ h;cases h;done)|(repeat(first|exact qok_nil|(apply qok_cons;(·first|(intro hc;exact absurd hc (nmem rfl))|(intro _;apply CellPr.mk;(·repeat(first|exact Has.here|apply Has.there));(first|exact rfl|assumption))|(intro _;apply CellsPr.mk;(·repeat(first|exact Has.here|apply Has.there));(first|exact rfl|assumption))))))))
 try rw[hflv]
 have hS7:=SSort hR hJ6 f6 _ _ o1 rfl false hF6 .here (by omega) hcB hT (by omega)
 rw[hflv,hto1,show srt (ltO o1) false ((sumsF s).map jmpF)=jumpF s from rfl] at hS7
 repeat(refine st ?_;intros)
 refine R.callX (hct:=hS7) (h:= ?_)
 rintro _ _ ⟨f7,C7,e7,rfl,rfl,hJ7,hF7,hE7⟩
 dsimp only[List.cons_append,List.nil_append]
 constructor
 ·(·(first|(intro _ _ h;cases h;done)|(repeat(first|exact qok_nil|(apply qok_cons;(·first|(intro hc;exact absurd hc (nmem rfl))|(intro _;apply CellPr.mk;(·repeat(first|exact Has.here|apply Has.there));(first|exact rfl|assumption))|(intro _;apply CellsPr.mk;(·repeat(first|exact Has.here|apply Has.there));(first|exact rfl|assumption))))))))
 try rw[hflv]
 have hFr:=fun b=>SFree hR hJ7 [(f3,srt (ltO o2) false s),(f4,farF s),(f5,sumsF s),(f,s)] ((f7,jumpF s)::Gf) (.cons (.there (.there (.there .here))) (.cons (.there (.there .here)) (.cons (.there .here) (.cons (.there .here) .nil)))) (by simp) _ 4 _ (vec4 b f3 f4 f5 f)
 simp only[hfl4,List.map_cons,List.map_nil,List.cons_append,List.nil_append] at hFr
 repeat(refine st ?_;intros)
 refine R.callX (hct:=hFr _) (h:= ?_)
 rintro _ _ ⟨C8,rfl,rfl,hJ8⟩
 dsimp only[List.cons_append,List.nil_append]
 constructor
 ·(·(first|(intro _ _ h;cases h;done)|(repeat(first|exact qok_nil|(apply qok_cons;(·first|(intro hc;exact absurd hc (nmem rfl))|(intro _;apply CellPr.mk;(·repeat(first|exact Has.here|apply Has.there));(first|exact rfl|assumption))|(intro _;apply CellsPr.mk;(·repeat(first|exact Has.here|apply Has.there));(first|exact rfl|assumption))))))))
 repeat(refine st ?_;intros)
 have hF7':FB n c 3 s.length e7 f7:=by rw[jumpF_len] at hF7;exact⟨Nat.le_trans hF7.cnt hFc,hF7.blk,hF7.ok⟩
 (refine Dn.post (Hr:=[C8]) Tryz.results54 (hR:= ?_);exact⟨f7,true,C8,e7,rfl,rfl,.inr ⟨rfl,hJ8,hF7',fun h=>⟨rfl,hop.symm⟩⟩⟩)
end Go.Proofs.YtjoicjgfgkpdjaaGreat
