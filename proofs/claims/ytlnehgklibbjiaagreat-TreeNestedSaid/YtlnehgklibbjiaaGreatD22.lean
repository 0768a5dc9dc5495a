/-
  Parts of the proof, put together: Tree1, Tree2, Tree3, Tree4, JobL. No condition.
-/
import Derived.Test.YtlnehgklibbjiaaGreatD21
set_option linter.unusedVariables false
set_option linter.unusedSimpArgs false
set_option linter.unnecessarySimpa false
set_option maxHeartbeats 4000000
namespace Go.Proofs.YtlnehgklibbjiaaGreat
open Go.SL Go.Spc Go.Tup Go.Srt
theorem visits1t (bx:Nat) (t:T5) (X:Chunk) (Rr:Value→Chunk→Prop) (h:PutC bx ((fun t=>t) t) X Rr):Ct Tryz.prog 79 [tv t,putV bx] [X] (TailR Rr):=by
 have htv:tv t= .agg #[.int .i64 t.c0,.int .i64 t.c1,.int .i64 t.c2,.int .i64 t.c3,.int .i64 t.c4]:=rfl
 rw[htv]
 unfold putV
 refine Ct.intro Tryz.func79 rfl Tryz.ntmps79 (nle rfl) fun w0=> ?_;dsimp only[argSlots,Nat.reduceAdd]
 repeat(refine st ?_;intros)
 refine R.callV (hct:=by exact h) (h:= ?_)
 rintro _ _ ⟨X',rfl,hR⟩
 try dsimp only[List.cons_append,List.nil_append]
 repeat(refine st ?_;intros)
 (refine Dn.post (Hr:=[X']) Tryz.results79 (hR:= ?_);exact⟨X',rfl,hR⟩)
theorem visits3t (bx:Nat) (t:T5) (X:Chunk) (Rr:Value→Chunk→Prop) (h:PutC bx ((fun t=>t) t) X Rr):Ct Tryz.prog 81 [tv t,putV bx] [X] (TailR Rr):=by
 have htv:tv t= .agg #[.int .i64 t.c0,.int .i64 t.c1,.int .i64 t.c2,.int .i64 t.c3,.int .i64 t.c4]:=rfl
 rw[htv]
 unfold putV
 refine Ct.intro Tryz.func81 rfl Tryz.ntmps81 (nle rfl) fun w0=> ?_;dsimp only[argSlots,Nat.reduceAdd]
 repeat(refine st ?_;intros)
 refine R.callV (hct:=by exact h) (h:= ?_)
 rintro _ _ ⟨X',rfl,hR⟩
 try dsimp only[List.cons_append,List.nil_append]
 repeat(refine st ?_;intros)
 (refine Dn.post (Hr:=[X']) Tryz.results81 (hR:= ?_);exact⟨X',rfl,hR⟩)
theorem roots1t (bx:Nat) (t:T5) (X:Chunk) (Rr:Value→Chunk→Prop) (h:PutC bx ((fun t=>⟨t.c1,0,0,0,0⟩) t) X Rr):Ct Tryz.prog 111 [tv t,putV bx] [X] (TailR Rr):=by
 have htv:tv t= .agg #[.int .i64 t.c0,.int .i64 t.c1,.int .i64 t.c2,.int .i64 t.c3,.int .i64 t.c4]:=rfl
 rw[htv]
 unfold putV
 refine Ct.intro Tryz.func111 rfl Tryz.ntmps111 (nle rfl) fun w0=> ?_;dsimp only[argSlots,Nat.reduceAdd]
 repeat(refine st ?_;intros)
 refine R.callV (hct:=by exact h) (h:= ?_)
 rintro _ _ ⟨X',rfl,hR⟩
 try dsimp only[List.cons_append,List.nil_append]
 repeat(refine st ?_;intros)
 (refine Dn.post (Hr:=[X']) Tryz.results111 (hR:= ?_);exact⟨X',rfl,hR⟩)
def turnM (bh bd:Nat):Maker (Bool×T5) where
 C k:=[[(bh,row [.bool k.1] 4)],[(bd,row (tcells k.2) 47)]]
 outs k t:=if k.1 then[⟨(if t.c4<k.2.c4 then t else k.2).c3,(if t.c4<k.2.c4 then t else k.2).c4,(if t.c4<k.2.c4 then t else k.2).c2,(if t.c4<k.2.c4 then t else k.2).c1,
  IntKind.wrap .i64 ((IntKind.wrap .i64 (IntKind.wrap .i64 ((if t.c4<k.2.c4 then k.2 else t).c4-(if t.c4<k.2.c4 then t else k.2).c4)+1)).tdiv 2)⟩,
  ⟨(if t.c4<k.2.c4 then k.2 else t).c3,(if t.c4<k.2.c4 then k.2 else t).c4,-1,-1,0⟩] else[]
 next k t:=if k.1 then(false,if t.c4<k.2.c4 then t else k.2) else(true,t)
 err _ _:=none
theorem turnM_C (bh bd:Nat) (k:Bool×T5):(turnM bh bd).C k=[[(bh,row [.bool k.1] 4)],[(bd,row [.int .i64 k.2.c0,.int .i64 k.2.c1,.int .i64 k.2.c2,.int .i64 k.2.c3,.int .i64 k.2.c4] 47)]]:=rfl
theorem turn_mk (bh bd:Nat):MakeU (turnM bh bd) 5 (fun k t=>okT 5 t∧okT 5 k.2) 80 [] [pv bh,pv bd]:=by
 rintro bx Pst Br bnd hP ps X ⟨half,d⟩ t hX ⟨hk,hkd⟩ hb
 have htv:tv t= .agg #[.int .i64 t.c0,.int .i64 t.c1,.int .i64 t.c2,.int .i64 t.c3,.int .i64 t.c4]:=rfl
 rw[htv]
 unfold putV
 simp only[List.nil_append,List.cons_append]
 cases half with
 |false=>
  show Ct _ _ _ [X,[(bh,row [.bool false] 4)],[(bd,row [.int .i64 d.c0,.int .i64 d.c1,.int .i64 d.c2,.int .i64 d.c3,.int .i64 d.c4] 47)]] _
  refine Ct.intro Tryz.func80 rfl Tryz.ntmps80 (nle rfl) fun w0=> ?_;dsimp only[argSlots,Nat.reduceAdd]
  repeat(refine st ?_;intros)
  (refine Dn.post (Hr:=[X,[(bh,row [.bool true] 4)],[(bd,row [.int .i64 t.c0,.int .i64 t.c1,.int .i64 t.c2,.int .i64 t.c3,.int .i64 t.c4] 47)]]) Tryz.results80 (hR:= ?_);exact⟨X,(true,t),rfl,.inl ⟨rfl,rfl,rfl,by simpa[turnM] using hX⟩⟩)
 |true=>
  show Ct _ _ _ [X,[(bh,row [.bool true] 4)],[(bd,row [.int .i64 d.c0,.int .i64 d.c1,.int .i64 d.c2,.int .i64 d.c3,.int .i64 d.c4] 47)]] _
  have ti:=okT_cols hk
  have di:=okT_cols hkd
  simp only[turnM,if_true,List.length_cons,List.length_nil] at hb
  by_cases h:t.c4<d.c4
  ·refine Ct.intro Tryz.func80 rfl Tryz.ntmps80 (nle rfl) fun w0=> ?_;dsimp only[argSlots,Nat.reduceAdd]
   have hP1:=hP ps X ⟨t.c3,t.c4,t.c2,t.c1,IntKind.wrap .i64 ((IntKind.wrap .i64 (IntKind.wrap .i64 (d.c4-t.c4)+1)).tdiv 2)⟩ hX (okT5 (ti).2.2.2.1 (ti).2.2.2.2 (ti).2.2.1 (ti).2.1 (wrap_in _)) (by omega)
   have hP2:=fun X' h=>hP (ps++[⟨t.c3,t.c4,t.c2,t.c1,IntKind.wrap .i64 ((IntKind.wrap .i64 (IntKind.wrap .i64 (d.c4-t.c4)+1)).tdiv 2)⟩]) X' ⟨d.c3,d.c4,-1,-1,0⟩ h (okT5 (di).2.2.2.1 (di).2.2.2.2 in_m1 in_m1 in_0) (by rw[List.length_append,List.length_singleton];omega)
   repeat(refine st ?_;intros)
   refine R.callV (hct:=by exact hP1) (h:= ?_)
   rintro _ _ ⟨X',rfl,⟨rfl,hX'⟩|⟨rfl,hB⟩⟩
   try dsimp only[List.cons_append,List.nil_append]
   ·have hP3:=hP2 X' hX'
    repeat(refine st ?_;intros)
    refine R.callV (hct:=by exact hP3) (h:= ?_)
    rintro _ _ ⟨X2,rfl,⟨rfl,hX2⟩|⟨rfl,hB⟩⟩
    try dsimp only[List.cons_append,List.nil_append]
    ·repeat(refine st ?_;intros)
     (refine Dn.post (Hr:=[X2,[(bh,row [.bool false] 4)],[(bd,row [.int .i64 t.c0,.int .i64 t.c1,.int .i64 t.c2,.int .i64 t.c3,.int .i64 t.c4] 47)]]) Tryz.results80 (hR:= ?_);exact⟨X2,(false,t),rfl,.inl ⟨rfl,rfl,by simp[turnM,h],by simpa[turnM,h] using hX2⟩⟩)
    ·repeat(refine st ?_;intros)
     (refine Dn.post (Hr:=[X2,[(bh,row [.bool false] 4)],[(bd,row [.int .i64 t.c0,.int .i64 t.c1,.int .i64 t.c2,.int .i64 t.c3,.int .i64 t.c4] 47)]]) Tryz.results80 (hR:= ?_);exact⟨X2,(false,t),rfl,.inr (.inl ⟨rfl,hB⟩)⟩)
   ·repeat(refine st ?_;intros)
    (refine Dn.post (Hr:=[X',[(bh,row [.bool false] 4)],[(bd,row [.int .i64 t.c0,.int .i64 t.c1,.int .i64 t.c2,.int .i64 t.c3,.int .i64 t.c4] 47)]]) Tryz.results80 (hR:= ?_);exact⟨X',(false,t),rfl,.inr (.inl ⟨rfl,hB⟩)⟩)
  ·refine Ct.intro Tryz.func80 rfl Tryz.ntmps80 (nle rfl) fun w0=> ?_;dsimp only[argSlots,Nat.reduceAdd]
   have hP1:=hP ps X ⟨d.c3,d.c4,d.c2,d.c1,IntKind.wrap .i64 ((IntKind.wrap .i64 (IntKind.wrap .i64 (t.c4-d.c4)+1)).tdiv 2)⟩ hX (okT5 (di).2.2.2.1 (di).2.2.2.2 (di).2.2.1 (di).2.1 (wrap_in _)) (by omega)
   have hP2:=fun X' h=>hP (ps++[⟨d.c3,d.c4,d.c2,d.c1,IntKind.wrap .i64 ((IntKind.wrap .i64 (IntKind.wrap .i64 (t.c4-d.c4)+1)).tdiv 2)⟩]) X' ⟨t.c3,t.c4,-1,-1,0⟩ h (okT5 (ti).2.2.2.1 (ti).2.2.2.2 in_m1 in_m1 in_0) (by rw[List.length_append,List.length_singleton];omega)
   repeat(refine st ?_;intros)
   refine R.callV (hct:=by exact hP1) (h:= ?_)
   rintro _ _ ⟨X',rfl,⟨rfl,hX'⟩|⟨rfl,hB⟩⟩
   try dsimp only[List.cons_append,List.nil_append]
   ·have hP3:=hP2 X' hX'
    repeat(refine st ?_;intros)
    refine R.callV (hct:=by exact hP3) (h:= ?_)
    rintro _ _ ⟨X2,rfl,⟨rfl,hX2⟩|⟨rfl,hB⟩⟩
    try dsimp only[List.cons_append,List.nil_append]
    ·repeat(refine st ?_;intros)
     (refine Dn.post (Hr:=[X2,[(bh,row [.bool false] 4)],[(bd,row [.int .i64 d.c0,.int .i64 d.c1,.int .i64 d.c2,.int .i64 d.c3,.int .i64 d.c4] 47)]]) Tryz.results80 (hR:= ?_);exact⟨X2,(false,d),rfl,.inl ⟨rfl,rfl,by simp[turnM,h],by simpa[turnM,h] using hX2⟩⟩)
    ·repeat(refine st ?_;intros)
     (refine Dn.post (Hr:=[X2,[(bh,row [.bool false] 4)],[(bd,row [.int .i64 d.c0,.int .i64 d.c1,.int .i64 d.c2,.int .i64 d.c3,.int .i64 d.c4] 47)]]) Tryz.results80 (hR:= ?_);exact⟨X2,(false,d),rfl,.inr (.inl ⟨rfl,hB⟩)⟩)
   ·repeat(refine st ?_;intros)
    (refine Dn.post (Hr:=[X',[(bh,row [.bool false] 4)],[(bd,row [.int .i64 d.c0,.int .i64 d.c1,.int .i64 d.c2,.int .i64 d.c3,.int .i64 d.c4] 47)]]) Tryz.results80 (hR:= ?_);exact⟨X',(false,d),rfl,.inr (.inl ⟨rfl,hB⟩)⟩)
def rootM (bl bn:Nat):Maker (Int×Int) where
 C k:=[[(bl,row [.int .i64 k.1] 2)],[(bn,row [.int .i64 k.2] 2)]]
 outs k t:=if t.c0=k.1 then[] else if k.1= -1 then[] else[⟨k.1,-1,k.1,-1,k.2⟩]
 next k t:=if t.c0=k.1 then(k.1,IntKind.wrap .i64 (k.2+1)) else(t.c0,1)
 err _ _:=none
theorem rootM_C (bl bn:Nat) (k:Int×Int):(rootM bl bn).C k=[[(bl,row [.int .i64 k.1] 2)],[(bn,row [.int .i64 k.2] 2)]]:=rfl
theorem root_mk (bl bn:Nat):MakeU (rootM bl bn) 5 (fun k _=>inI64 k.1∧inI64 k.2) 112 [] [pv bl,pv bn]:=by
 rintro bx Pst Br bnd hP ps X ⟨last,n⟩ t hX ⟨hk,hkn⟩ hb
 dsimp only at hk hkn
 have htv:tv t= .agg #[.int .i64 t.c0,.int .i64 t.c1,.int .i64 t.c2,.int .i64 t.c3,.int .i64 t.c4]:=rfl
 rw[htv]
 unfold putV
 simp only[List.nil_append,List.cons_append]
 show Ct _ _ _ [X,[(bl,row [.int .i64 last] 2)],[(bn,row [.int .i64 n] 2)]] _
 by_cases h1:t.c0=last
 ·refine Ct.intro Tryz.func112 rfl Tryz.ntmps112 (nle rfl) fun w0=> ?_;dsimp only[argSlots,Nat.reduceAdd]
  repeat(first|(refine st ?_;intros)|refine G.draw [] (h:= ?_))
  (refine Dn.post (Hr:=[X,[(bl,row [.int .i64 last] 2)],[(bn,row [.int .i64 (IntKind.wrap .i64 (n+1))] 2)]]) Tryz.results112 (hR:= ?_);exact⟨X,(last,IntKind.wrap .i64 (n+1)),rfl,.inl ⟨rfl,rfl,by simp[rootM,h1],by simpa[rootM,h1] using hX⟩⟩)
 ·by_cases h2:last= -1
  ·refine Ct.intro Tryz.func112 rfl Tryz.ntmps112 (nle rfl) fun w0=> ?_;dsimp only[argSlots,Nat.reduceAdd]
   repeat(first|(refine st ?_;intros)|refine G.draw [] (h:= ?_))
   (refine Dn.post (Hr:=[X,[(bl,row [.int .i64 t.c0] 2)],[(bn,row [.int .i64 1] 2)]]) Tryz.results112 (hR:= ?_);exact⟨X,(t.c0,1),rfl,.inl ⟨rfl,rfl,by simp[rootM,h1],by simpa[rootM,h1,h2] using hX⟩⟩)
  ·have hP1:=hP ps X ⟨last,-1,last,-1,n⟩ hX (okT5 hk in_m1 hk in_m1 hkn) (by simp[rootM,h1,h2] at hb;omega)
   refine Ct.intro Tryz.func112 rfl Tryz.ntmps112 (nle rfl) fun w0=> ?_;dsimp only[argSlots,Nat.reduceAdd]
   repeat(first|(refine st ?_;intros)|refine G.draw [] (h:= ?_))
   refine R.callV (hct:=by exact hP1) (h:= ?_)
   rintro _ _ ⟨X',rfl,⟨rfl,hX'⟩|⟨rfl,hB⟩⟩
   try dsimp only[List.cons_append,List.nil_append]
   ·repeat(first|(refine st ?_;intros)|refine G.draw [] (h:= ?_))
    (refine Dn.post (Hr:=[X',[(bl,row [.int .i64 t.c0] 2)],[(bn,row [.int .i64 1] 2)]]) Tryz.results112 (hR:= ?_);exact⟨X',(t.c0,1),rfl,.inl ⟨rfl,rfl,by simp[rootM,h1],by simpa[rootM,h1,h2] using hX'⟩⟩)
   ·repeat(first|(refine st ?_;intros)|refine G.draw [] (h:= ?_))
    (refine Dn.post (Hr:=[X',[(bl,row [.int .i64 t.c0] 2)],[(bn,row [.int .i64 1] 2)]]) Tryz.results112 (hR:= ?_);exact⟨X',(t.c0,1),rfl,.inr (.inl ⟨rfl,hB⟩)⟩)
def numM (bd bn:Nat):Maker (Int×Int) where
 C k:=[[(bd,row [.int .i64 k.1] 2)],[(bn,row [.int .i64 k.2] 2)]]
 outs k t:=if t.c2= -1 then[] else[⟨t.c2,t.c3,IntKind.wrap .i64 (IntKind.wrap .i64 (k.2+1)-1),t.c4,if t.c3= -1 then 0 else IntKind.wrap .i64 (k.1+1)⟩]
 next k t:=if t.c2= -1 then(IntKind.wrap .i64 (k.1-1),k.2) else(if t.c3= -1 then 0 else IntKind.wrap .i64 (k.1+1),IntKind.wrap .i64 (k.2+1))
 err _ _:=none
theorem numM_C (bd bn:Nat) (k:Int×Int):(numM bd bn).C k=[[(bd,row [.int .i64 k.1] 2)],[(bn,row [.int .i64 k.2] 2)]]:=rfl
theorem num_mk (bd bn:Nat):MakeU (numM bd bn) 5 (fun _ t=>okT 5 t) 46 [] [pv bd,pv bn]:=by
 rintro bx Pst Br bnd hP ps X ⟨depth,n⟩ t hX hk hb
 have htv:tv t= .agg #[.int .i64 t.c0,.int .i64 t.c1,.int .i64 t.c2,.int .i64 t.c3,.int .i64 t.c4]:=rfl
 rw[htv]
 unfold putV
 simp only[List.nil_append,List.cons_append]
 have ti:=okT_cols hk
 show Ct _ _ _ [X,[(bd,row [.int .i64 depth] 2)],[(bn,row [.int .i64 n] 2)]] _
 by_cases h1:t.c2= -1
 ·refine Ct.intro Tryz.func46 rfl Tryz.ntmps46 (nle rfl) fun w0=> ?_;dsimp only[argSlots,Nat.reduceAdd]
  repeat(refine st ?_;intros)
  (refine Dn.post (Hr:=[X,[(bd,row [.int .i64 (IntKind.wrap .i64 (depth-1))] 2)],[(bn,row [.int .i64 n] 2)]]) Tryz.results46 (hR:= ?_);exact⟨X,(IntKind.wrap .i64 (depth-1),n),rfl,.inl ⟨rfl,rfl,by simp[numM,h1],by simpa[numM,h1] using hX⟩⟩)
 ·by_cases h2:t.c3= -1
  ·have hP1:=hP ps X ⟨t.c2,t.c3,IntKind.wrap .i64 (IntKind.wrap .i64 (n+1)-1),t.c4,0⟩ hX (okT5 ti.2.2.1 ti.2.2.2.1 (wrap_in _) ti.2.2.2.2 in_0) (by simp[numM,h1,h2] at hb;omega)
   refine Ct.intro Tryz.func46 rfl Tryz.ntmps46 (nle rfl) fun w0=> ?_;dsimp only[argSlots,Nat.reduceAdd]
   repeat(refine st ?_;intros)
   refine R.callV (hct:=by exact hP1) (h:= ?_)
   rintro _ _ ⟨X',rfl,⟨rfl,hX'⟩|⟨rfl,hB⟩⟩
   try dsimp only[List.cons_append,List.nil_append]
   ·repeat(refine st ?_;intros)
    (refine Dn.post (Hr:=[X',[(bd,row [.int .i64 0] 2)],[(bn,row [.int .i64 (IntKind.wrap .i64 (n+1))] 2)]]) Tryz.results46 (hR:= ?_);exact⟨X',(0,IntKind.wrap .i64 (n+1)),rfl,.inl ⟨rfl,rfl,by simp[numM,h1,h2],by simpa[numM,h1,h2] using hX'⟩⟩)
   ·repeat(refine st ?_;intros)
    (refine Dn.post (Hr:=[X',[(bd,row [.int .i64 0] 2)],[(bn,row [.int .i64 (IntKind.wrap .i64 (n+1))] 2)]]) Tryz.results46 (hR:= ?_);exact⟨X',(0,IntKind.wrap .i64 (n+1)),rfl,.inr (.inl ⟨rfl,hB⟩)⟩)
  ·have hP1:=hP ps X ⟨t.c2,t.c3,IntKind.wrap .i64 (IntKind.wrap .i64 (n+1)-1),t.c4,IntKind.wrap .i64 (depth+1)⟩ hX (okT5 ti.2.2.1 ti.2.2.2.1 (wrap_in _) ti.2.2.2.2 (wrap_in _)) (by simp[numM,h1,h2] at hb;omega)
   refine Ct.intro Tryz.func46 rfl Tryz.ntmps46 (nle rfl) fun w0=> ?_;dsimp only[argSlots,Nat.reduceAdd]
   repeat(refine st ?_;intros)
   refine R.callV (hct:=by exact hP1) (h:= ?_)
   rintro _ _ ⟨X',rfl,⟨rfl,hX'⟩|⟨rfl,hB⟩⟩
   try dsimp only[List.cons_append,List.nil_append]
   ·repeat(refine st ?_;intros)
    (refine Dn.post (Hr:=[X',[(bd,row [.int .i64 (IntKind.wrap .i64 (depth+1))] 2)],[(bn,row [.int .i64 (IntKind.wrap .i64 (n+1))] 2)]]) Tryz.results46 (hR:= ?_);exact⟨X',(IntKind.wrap .i64 (depth+1),IntKind.wrap .i64 (n+1)),rfl,.inl ⟨rfl,rfl,by simp[numM,h1,h2],by simpa[numM,h1,h2] using hX'⟩⟩)
   ·repeat(refine st ?_;intros)
    (refine Dn.post (Hr:=[X',[(bd,row [.int .i64 (IntKind.wrap .i64 (depth+1))] 2)],[(bn,row [.int .i64 (IntKind.wrap .i64 (n+1))] 2)]]) Tryz.results46 (hR:= ?_);exact⟨X',(IntKind.wrap .i64 (depth+1),IntKind.wrap .i64 (n+1)),rfl,.inr (.inl ⟨rfl,hB⟩)⟩)
def rootsH (bj b2 b8 b6 b7:Nat) (sf:Fl) (last n:Int):Hp:=[[(b2,row [pv bj] 77)],[(b8,row (fl4 sf) 27)],[(b6,row [.int .i64 last] 2)],[(b7,row [.int .i64 n] 2)]]
def rootsOut (sts:List T5) (last n:Int):List T5:=sts++if last= -1 then[] else[⟨last,-1,last,-1,n⟩]
theorem roots3step (p:Jp) (hp:p.Ok) (J:Jb) (he:J.e=0) (sf:Fl) (sts:List T5) (hs:(sf,sts)∈J.G∨In0 p (sf,sts)) (hcn:sf.count≤100000) (b2 b8 b6 b7:Nat) (last n:Int) (hok:∀t∈sts,okT 5 t) (hok2:last≠-1→okT 5 ⟨last,-1,last,-1,n⟩)
  (A T:Nat) (hT:nblocks p.size 5 (sf.count+1)≤T) (hroom:Fits p J T) (hA:sf.blocks+sf.count+2≤A) (hac:J.acts+A≤1000000000):
  StepCt p J 113 [pv b2,pv b8,pv b6,pv b7] (rootsH p.bj b2 b8 b6 b7 sf last n) A T none (rootsOut sts last n) fun f e Hx'=>Hx'=rootsH p.bj b2 b8 b6 b7 sf last n∧f.count≤sf.count+1∧
   f.blocks≤nblocks p.size 5 (sf.count+1)∧(e=0→f.width=5∧f.count=(rootsOut sts last n).length):=by
 intro W cd ca cs held ph capj hW hJW
 obtain⟨Lv,hfo,hsub⟩:=hJW.file (hs.imp (fun h=>(hJW.ok he).1.mem_iff.2 h) id)
 obtain⟨⟨hs1,hs2⟩,_⟩:=hW.dev.num
 have hus:=hJW.used hp hW
 have hbig:=hJW.big hW he hroom
 have hjac:=hJW.acts
 have hlen:=hfo.len
 dsimp only at hfo hlen
 have hWr:=Write_u p.bw p.bd p.ba p.bs W cd ca cs hW 5 (sf.count+1) (by omega) (by omega) (by omega) (by omega)
 have hnb:nblocks W.δ.size 5 (sf.count+1)≤T:=by rw[hJW.size];exact hT
 have hz:flv ⟨0,0,0,0⟩= .agg #[.int .i64 0,.int .i64 0,.int .i64 0,.int .i64 0]:=rfl
 have hwrap:IntKind.wrap .i64 ((sf.count:Int)+1)=((sf.count+1:Nat):Int):=by rw[wrap_i64 (by omega)];omega
 have hus1:∀{W1:Wk} {cd1 ca1 cs1:Chunk} {g:Gr},Wc p.bd p.ba p.bs W1 cd1 ca1 cs1→W1.α.gs.Perm (g::W.α.gs)→g.n=W.δ.size→W1.α.used=W.α.used+W.δ.size:=by
  intro W1 cd1 ca1 cs1 g h1 h2 h3
  rw[h1.ar.num.2.2.2,(h2.map (·.n)).sum_nat,hW.ar.num.2.2.2];simp[h3];omega
 have hfin:∀(W':Wk) (cd' ca' cs':Chunk) (f:Fl) (e:Int),Wc p.bd p.ba p.bs W' cd' ca' cs'→W'.α.gs.Perm W.α.gs→Ev W W' (sf.blocks+sf.count+2) (nblocks W.δ.size 5 (sf.count+1))→Keep W.live W W'→
   ((e=0∧W'.live.Perm (addF f W.live)∧f.width=5∧f.count=(rootsOut sts last n).length∧FileOk W'.δ.disk W.δ.size [f.ext] f (rootsOut sts last n))∨(e=6∧f=⟨0,0,0,0⟩∧W.δ.fault≠-1∧W'.live.Perm W.live))→
   StepPost p W A T none (rootsOut sts last n) (fun f e Hx'=>Hx'=rootsH p.bj b2 b8 b6 b7 sf last n∧f.count≤sf.count+1∧f.blocks≤nblocks p.size 5 (sf.count+1)∧(e=0→f.width=5∧f.count=(rootsOut sts last n).length))
    (jrow p.bj p.bw 0 ph held.length capj) (.tuple #[flv f,.int .i64 e]) (jrow p.bj p.bw 0 ph held.length capj::wrow p.bw p.bd p.ba p.bs::cd'::ca'::cs'::rootsH p.bj b2 b8 b6 b7 sf last n):=by
  intro W' cd' ca' cs' f e h0 h1 h2 h3 h4
  have hro:(rootsOut sts last n).length≤sf.count+1:=by unfold rootsOut;rw[List.length_append];split<;>simp<;>omega
  refine⟨f,e,cd',ca',cs',W',_,rfl,rfl,h0,⟨h1,h2.room,h2.size,h2.n,by have:=h2.acts.2;omega,by have:=h2.big;omega,h2.fault,h3,?_⟩,rfl,?_⟩
  ·rcases h4 with⟨a,b,_,_,c⟩|⟨a,b,c,d⟩
   ·exact .inl ⟨a,rfl,b,c⟩
   ·exact .inr ⟨by omega,b,d,.inl ⟨a,c⟩⟩
  ·rcases h4 with⟨a,b,c1,c2,c⟩|⟨a,rfl,c,d⟩
   ·refine⟨by omega,?_,fun _=>⟨c1,c2⟩⟩
    rw[c.blk,c1,hJW.size];exact nblocks_mono (by omega)
   ·exact⟨Nat.zero_le _,Nat.zero_le _,fun h=>by omega⟩
 unfold jrow rootsH fl4 at hfin⊢
 refine Ct.introD Tryz.func113 rfl Tryz.ntmps113 (nle rfl) fun w0=> ?_;dsimp only[argSlots,Nat.reduceAdd]
 repeat(first|(refine st ?_;intros)|refine G.draw [] (h:= ?_))
 refine R.callX (hct:=hWr) (h:= ?_)
 rintro _ _ (⟨hfit,bx,first,g,cd1,ca1,cs1,W1,cx,cb,rfl,rfl,hW1,hE1,e1,e2,e3,e4,e5⟩|⟨hfull,_⟩)
 rotate_left
 ·exact absurd hbig (by omega)
 dsimp only[List.cons_append,List.nil_append]
 constructor
 ·(·(first|(intro _ _ h;cases h;done)|(repeat(first|exact qok_nil|(apply qok_cons;(·first|(intro hc;exact absurd hc (nmem rfl))|(intro _;apply CellPr.mk;(·repeat(first|exact Has.here|apply Has.there));(first|exact rfl|assumption))|(intro _;apply CellsPr.mk;(·repeat(first|exact Has.here|apply Has.there));(first|exact rfl|assumption))))))))
 have hu1:=hus1 hW1 e2 e3
 have hOp:=OverPut_ct p.bw p.bd p.ba p.bs [] W1 cd1 ca1 cs1 hW1 bx first 5 (sf.count+1) g W.α.gs W.live cx cb e2 (by rw[hE1.size];exact e5) (by rw[hE1.size];exact e4) sf sts Lv (by rw[e1];exact hfo) hsub hok (by simp;omega) (by omega) (by omega) (by rw[hE1.room,hE1.size];omega) (by rw[e1];omega) (by omega)
 have hK1:Keep W.live W W1:=fun x _=>by rw[e1]
 rw[hE1.size] at hOp
 have hflv:flv sf= .agg #[.int .i64 (sf.first:Int),.int .i64 (sf.blocks:Int),.int .i64 (sf.width:Int),.int .i64 (sf.count:Int)]:=rfl
 rw[hflv] at hOp
 repeat(first|(refine st ?_;intros)|refine G.draw [] (h:= ?_))
 refine R.callX (hct:=hOp) (h:= ?_)
 rintro _ _ ⟨cd2,ca2,cs2,W2,cx2,cb2,e,rfl,rfl,hW2,hE2,hK2,hc⟩
 dsimp only[List.cons_append,List.nil_append]
 constructor
 ·(·(first|(intro _ _ h;cases h;done)|(repeat(first|exact qok_nil|(apply qok_cons;(·first|(intro hc;exact absurd hc (nmem rfl))|(intro _;apply CellPr.mk;(·repeat(first|exact Has.here|apply Has.there));(first|exact rfl|assumption))|(intro _;apply CellsPr.mk;(·repeat(first|exact Has.here|apply Has.there));(first|exact rfl|assumption))))))))
 have hE12:=hE1.trans hE2
 rcases hc with⟨rfl,hg2,hl2,hw2⟩|⟨rfl,hf2,hS2⟩
 ·have ha2:=hE12.acts.2
  have hs2:W2.δ.size=W.δ.size:=hE12.size
  have hho:1≤holds W2.δ.size 5:=by rw[hs2];exact holds_pos hs1 (by omega) (by omega)
  have hCl:=fun ps W3 cd3 ca3 cs3 cx3 cb3 (hW3:Wc p.bd p.ba p.bs W3 cd3 ca3 cs3) hw hg hl hac hh=>Close_w p.bw p.bd p.ba p.bs W3 cd3 ca3 cs3 hW3 bx first (nblocks W.δ.size 5 (sf.count+1)) 5 (sf.count+1) g ps cx3 cb3 hw W.α.gs hg W.live hl hac hh
  by_cases hlast:last= -1
  ·have hCl2:=hCl _ W2 cd2 ca2 cs2 cx2 cb2 hW2 hw2 hg2 hl2 (by omega) hho
   have ho:rootsOut sts last n=sts:=by simp[rootsOut,hlast]
   subst hlast
   repeat(first|(refine st ?_;intros)|refine G.draw [] (h:= ?_))
   refine R.call (hct:=hCl2) (h:= ?_)
   rintro _ _ ⟨cd4,ca4,cs4,W4,cx4,cb4,f,e,rfl,rfl,hW4,hE4,hK4,hg4,hx4,hr⟩
   try dsimp only[List.cons_append,List.nil_append]
   have hfv:flv f= .agg #[.int .i64 (f.first:Int),.int .i64 (f.blocks:Int),.int .i64 (f.width:Int),.int .i64 (f.count:Int)]:=rfl
   rw[hfv]
   have hD:=DropAny p.bw p.bd p.ba p.bs W4 cd4 ca4 cs4 hW4 bx first (nblocks W.δ.size 5 (sf.count+1)) 5 (sf.count+1) g W.α.gs W4.live cx4 cb4 (.inr ⟨hg4,.refl _,hx4⟩)
   repeat(first|(refine st ?_;intros)|refine G.draw [] (h:= ?_))
   refine Go.SL.Lv.call (hc:=hD) (h:= ?_)
   rintro _ _ ⟨cd5,ca5,cs5,W5,cx5,cb5,rfl,hW5,hE5,hd5,hg5,hl5⟩
   try dsimp only[List.cons_append,List.nil_append]
   have hE:=((hE12.trans hE4).trans hE5).weak (k':=sf.blocks+sf.count+2) (m':=nblocks W.δ.size 5 (sf.count+1)) (by omega) (by omega)
   have hK:=(hK1.trans hK2).trans hK4
   have hK5:Keep W.live W W5:=fun x hx=>by rw[hd5];exact hK x hx
   (refine Go.SL.Lv.nil (Hr:=[[(p.bj,row [pv p.bw,.int .i64 0,.slice ph held.length capj] 108)],wrow p.bw p.bd p.ba p.bs,cd5,ca5,cs5,[(b2,row [pv p.bj] 77)],[(b8,row [.int .i64 (sf.first:Int),.int .i64 (sf.blocks:Int),.int .i64 (sf.width:Int),.int .i64 (sf.count:Int)] 27)],[(b6,row [.int .i64 (-1)] 2)],[(b7,row [.int .i64 n] 2)]]) Tryz.results113 (hR:= ?_);refine hfin W5 cd5 ca5 cs5 f e hW5 hg5 hE hK5 ?_)
   rw[hs2] at hr
   rcases hr with⟨rfl,hl4,hfw,hfc,hfo4⟩|⟨rfl,rfl,hf4,hl4⟩
   ·exact .inl ⟨rfl,hl5.trans hl4,hfw,by rw[ho];exact hfc,by rw[ho,hd5];exact hfo4⟩
   ·exact .inr ⟨rfl,rfl,fault_keep hE12 hf4,hl5.trans hl4⟩
  ·have hPt:=Put_w p.bw p.bd p.ba p.bs W2 cd2 ca2 cs2 hW2 bx first (nblocks W.δ.size 5 (sf.count+1)) 5 (sf.count+1) g _ cx2 cb2 hw2 W.α.gs hg2 W.live hl2 (by simp;omega) ⟨last,-1,last,-1,n⟩ (hok2 hlast) (by omega) hho
   have htv:tv ⟨last,-1,last,-1,n⟩= .agg #[.int .i64 last,.int .i64 (-1),.int .i64 last,.int .i64 (-1),.int .i64 n]:=rfl
   rw[htv] at hPt
   have ho:rootsOut sts last n=sts++[⟨last,-1,last,-1,n⟩]:=by simp[rootsOut,hlast]
   repeat(first|(refine st ?_;intros)|refine G.draw [] (h:= ?_))
   refine R.call (hct:=hPt) (h:= ?_)
   rintro _ _ ⟨cd3,ca3,cs3,W3,cx3,cb3,e,rfl,rfl,hW3,hE3,hK3,hc3⟩
   try dsimp only[List.cons_append,List.nil_append]
   have hE13:=hE12.trans hE3
   rcases hc3 with⟨rfl,hg3,hl3,hw3⟩|⟨rfl,hf3,hS3⟩
   ·have ha3:=hE13.acts.2
    have hs3:W3.δ.size=W.δ.size:=hE13.size
    have hCl2:=hCl _ W3 cd3 ca3 cs3 cx3 cb3 hW3 hw3 hg3 hl3 (by omega) (by rw[hs3];exact holds_pos hs1 (by omega) (by omega))
    repeat(first|(refine st ?_;intros)|refine G.draw [] (h:= ?_))
    refine R.call (hct:=hCl2) (h:= ?_)
    rintro _ _ ⟨cd4,ca4,cs4,W4,cx4,cb4,f,e,rfl,rfl,hW4,hE4,hK4,hg4,hx4,hr⟩
    try dsimp only[List.cons_append,List.nil_append]
    have hfv:flv f= .agg #[.int .i64 (f.first:Int),.int .i64 (f.blocks:Int),.int .i64 (f.width:Int),.int .i64 (f.count:Int)]:=rfl
    rw[hfv]
    have hD:=DropAny p.bw p.bd p.ba p.bs W4 cd4 ca4 cs4 hW4 bx first (nblocks W.δ.size 5 (sf.count+1)) 5 (sf.count+1) g W.α.gs W4.live cx4 cb4 (.inr ⟨hg4,.refl _,hx4⟩)
    repeat(first|(refine st ?_;intros)|refine G.draw [] (h:= ?_))
    refine Go.SL.Lv.call (hc:=hD) (h:= ?_)
    rintro _ _ ⟨cd5,ca5,cs5,W5,cx5,cb5,rfl,hW5,hE5,hd5,hg5,hl5⟩
    try dsimp only[List.cons_append,List.nil_append]
    have hE:=((hE13.trans hE4).trans hE5).weak (k':=sf.blocks+sf.count+2) (m':=nblocks W.δ.size 5 (sf.count+1)) (by omega) (by omega)
    have hK:=((hK1.trans hK2).trans hK3).trans hK4
    have hK5:Keep W.live W W5:=fun x hx=>by rw[hd5];exact hK x hx
    (refine Go.SL.Lv.nil (Hr:=[[(p.bj,row [pv p.bw,.int .i64 0,.slice ph held.length capj] 108)],wrow p.bw p.bd p.ba p.bs,cd5,ca5,cs5,[(b2,row [pv p.bj] 77)],[(b8,row [.int .i64 (sf.first:Int),.int .i64 (sf.blocks:Int),.int .i64 (sf.width:Int),.int .i64 (sf.count:Int)] 27)],[(b6,row [.int .i64 last] 2)],[(b7,row [.int .i64 n] 2)]]) Tryz.results113 (hR:= ?_);refine hfin W5 cd5 ca5 cs5 f e hW5 hg5 hE hK5 ?_)
    rw[hs3] at hr
    rcases hr with⟨rfl,hl4,hfw,hfc,hfo4⟩|⟨rfl,rfl,hf4,hl4⟩
    ·exact .inl ⟨rfl,hl5.trans hl4,hfw,by rw[ho];exact hfc,by rw[ho,hd5];exact hfo4⟩
    ·exact .inr ⟨rfl,rfl,fault_keep hE13 hf4,hl5.trans hl4⟩
   ·have hD:=DropAny p.bw p.bd p.ba p.bs W3 cd3 ca3 cs3 hW3 bx first (nblocks W.δ.size 5 (sf.count+1)) 5 (sf.count+1) g W.α.gs W.live cx3 cb3 hS3
    repeat(first|(refine st ?_;intros)|refine G.draw [] (h:= ?_))
    refine Go.SL.Lv.call (hc:=hD) (h:= ?_)
    rintro _ _ ⟨cd5,ca5,cs5,W5,cx5,cb5,rfl,hW5,hE5,hd5,hg5,hl5⟩
    try dsimp only[List.cons_append,List.nil_append]
    have hE:=(hE13.trans hE5).weak (k':=sf.blocks+sf.count+2) (m':=nblocks W.δ.size 5 (sf.count+1)) (by omega) (by omega)
    have hK:=(hK1.trans hK2).trans hK3
    have hK5:Keep W.live W W5:=fun x hx=>by rw[hd5];exact hK x hx
    (refine Go.SL.Lv.nil (Hr:=[[(p.bj,row [pv p.bw,.int .i64 0,.slice ph held.length capj] 108)],wrow p.bw p.bd p.ba p.bs,cd5,ca5,cs5,[(b2,row [pv p.bj] 77)],[(b8,row [.int .i64 (sf.first:Int),.int .i64 (sf.blocks:Int),.int .i64 (sf.width:Int),.int .i64 (sf.count:Int)] 27)],[(b6,row [.int .i64 last] 2)],[(b7,row [.int .i64 n] 2)]]) Tryz.results113 (hR:= ?_);exact hfin W5 cd5 ca5 cs5 ⟨0,0,0,0⟩ 6 hW5 hg5 hE hK5 (.inr ⟨rfl,rfl,fault_keep hE12 hf3,hl5⟩))
 ·have hD:=DropAny p.bw p.bd p.ba p.bs W2 cd2 ca2 cs2 hW2 bx first (nblocks W.δ.size 5 (sf.count+1)) 5 (sf.count+1) g W.α.gs W.live cx2 cb2 hS2
  repeat(first|(refine st ?_;intros)|refine G.draw [] (h:= ?_))
  refine Go.SL.Lv.call (hc:=hD) (h:= ?_)
  rintro _ _ ⟨cd5,ca5,cs5,W5,cx5,cb5,rfl,hW5,hE5,hd5,hg5,hl5⟩
  try dsimp only[List.cons_append,List.nil_append]
  have hE:=(hE12.trans hE5).weak (k':=sf.blocks+sf.count+2) (m':=nblocks W.δ.size 5 (sf.count+1)) (by omega) (by omega)
  have hK:=hK1.trans hK2
  have hK5:Keep W.live W W5:=fun x hx=>by rw[hd5];exact hK x hx
  (refine Go.SL.Lv.nil (Hr:=[[(p.bj,row [pv p.bw,.int .i64 0,.slice ph held.length capj] 108)],wrow p.bw p.bd p.ba p.bs,cd5,ca5,cs5,[(b2,row [pv p.bj] 77)],[(b8,row [.int .i64 (sf.first:Int),.int .i64 (sf.blocks:Int),.int .i64 (sf.width:Int),.int .i64 (sf.count:Int)] 27)],[(b6,row [.int .i64 last] 2)],[(b7,row [.int .i64 n] 2)]]) Tryz.results113 (hR:= ?_);exact hfin W5 cd5 ca5 cs5 ⟨0,0,0,0⟩ 6 hW5 hg5 hE hK5 (.inr ⟨rfl,rfl,fault_keep hE1 hf2,hl5⟩))
abbrev o1:T5:=⟨1,0,0,0,0⟩
abbrev o12:T5:=⟨1,2,0,0,0⟩
theorem in0file {p:Jp} {x:Fl×List T5} (h:In0 p x):x.2.length=x.1.count∧(∀t∈x.2,okT x.1.width t)∧x.1.blocks=nblocks p.size x.1.width x.1.count∧1≤x.1.width∧x.1.width≤5:=by
 obtain⟨Lv,h,_⟩:=h
 exact⟨h.len,h.fit,h.blk,h.w1,h.w2⟩
def rootsF (lts:List T5):List T5:=
 rootsOut ((rootM 0 0).all (-1,0) (srt (ltO o1) false (lts.map fun t=>⟨t.c1,0,0,0,0⟩))) ((rootM 0 0).st (-1,0) (srt (ltO o1) false (lts.map fun t=>⟨t.c1,0,0,0,0⟩))).1 ((rootM 0 0).st (-1,0) (srt (ltO o1) false (lts.map fun t=>⟨t.c1,0,0,0,0⟩))).2
theorem in_1:inI64 1:=⟨by decide,by decide⟩
theorem rootM_all (a b a' b':Nat):∀(ts:List T5) (k:Int×Int),(rootM a b).all k ts=(rootM a' b').all k ts
 |[],_=>rfl
 |t::ts,k=>by simp only[Maker.all];rw[show(rootM a b).next k t=(rootM a' b').next k t from rfl,rootM_all a b a' b' ts];rfl
theorem rootM_st (a b a' b':Nat):∀(ts:List T5) (k:Int×Int),(rootM a b).st k ts=(rootM a' b').st k ts
 |[],_=>rfl
 |t::ts,k=>by simp only[Maker.st];rw[show(rootM a b).next k t=(rootM a' b').next k t from rfl,rootM_st a b a' b' ts]
theorem rootM_len (a b:Nat) (k:Int×Int) (t:T5):((rootM a b).outs k t).length≤1:=by
 unfold rootM;dsimp only;split
 ·simp
 ·split<;>simp
theorem rootM_inv (a b:Nat):∀(ts:List T5) (k:Int×Int),(inI64 k.1∧inI64 k.2)→(∀t∈ts,inI64 t.c0)→(rootM a b).oks (fun k _=>inI64 k.1∧inI64 k.2) k ts∧(inI64 ((rootM a b).st k ts).1∧inI64 ((rootM a b).st k ts).2)∧∀t∈(rootM a b).all k ts,okT 5 t
 |[],k,h,_=>⟨trivial,h,by simp[Maker.all]⟩
 |t::ts,k,h,ht=>by
  have hn:inI64 ((rootM a b).next k t).1∧inI64 ((rootM a b).next k t).2:=by
   unfold rootM;dsimp only;split
   ·exact⟨h.1,wrap_in _⟩
   ·exact⟨ht t List.mem_cons_self,in_1⟩
  obtain⟨h1,h2,h3⟩:=rootM_inv a b ts _ hn fun u hu=>ht u (List.mem_cons_of_mem _ hu)
  refine⟨⟨h,fun _=>h1⟩,h2,?_⟩
  simp only[Maker.all,List.mem_append]
  rintro u (hu|hu)
  ·unfold rootM at hu;dsimp only at hu
   split at hu
   ·simp at hu
   ·split at hu
    ·simp at hu
    ·simp only[List.mem_singleton] at hu;subst hu
     exact okT5 h.1 in_m1 h.1 in_m1 h.2
  ·exact h3 u hu
def someF (lts:List T5):List T5:=(rootM 0 0).all (-1,0) (srt (ltO o1) false (lts.map fun t=>⟨t.c1,0,0,0,0⟩))
theorem rootsF_eq (lts:List T5):rootsF lts=rootsOut (someF lts) ((rootM 0 0).st (-1,0) (srt (ltO o1) false (lts.map fun t=>⟨t.c1,0,0,0,0⟩))).1 ((rootM 0 0).st (-1,0) (srt (ltO o1) false (lts.map fun t=>⟨t.c1,0,0,0,0⟩))).2:=rfl
theorem sortT_mono {a b:Nat} (h:a≤b):sortT a≤sortT b:=by
 unfold sortT
 exact Nat.mul_le_mul (by omega) (Nat.add_le_add_left (lgq_mono (by omega)) _)
theorem roots_ct (p:Jp) (hp:p.Ok) (J:Jb) (C:Chunk) (hJ:JobC p J C) (lf:Fl) (lts:List T5) (hl:In0 p (lf,lts)) (N:Nat) (hN:lf.count+1≤N) (hNb:N≤1000) (hroom:J.e=0→J.took+(3*N+sortT N)≤p.b0) (hac:J.acts+35000≤100000000) (hGl:J.G.length≤100):
  Ct Tryz.prog 82 [pv p.bj,flv lf] [C] fun v H'=>∃f f3 C' e',v=flv f∧H'=[C']∧JobC p ⟨e',J.er,(f,rootsF lts)::(f3,someF lts)::J.G,J.acts+35000,J.took+(3*N+sortT N)⟩ C'∧
   (e'=0→J.e=0∧f.width=5∧f.count=(rootsF lts).length)∧f.count≤N∧f.blocks≤N:=by
 obtain⟨hlc,hlfit,hlb,hlw1,hlw5⟩:=in0file hl
 dsimp only at hlc hlfit hlb hlw1 hlw5
 obtain⟨hs8,_⟩:=hp.size
 have hnb:∀{k n:Nat},1≤k→k≤5→n≤N→nblocks p.size k n≤N:=fun h1 h2 h3=>Nat.le_trans (nb_le hs8 h1 h2) h3
 have hlbN:lf.blocks≤N:=by rw[hlb];exact hnb hlw1 hlw5 (by omega)
 have hflv:∀f:Fl,flv f= .agg #[.int .i64 (f.first:Int),.int .i64 (f.blocks:Int),.int .i64 (f.width:Int),.int .i64 (f.count:Int)]:=fun _=>rfl
 have hfl4:∀f:Fl,fl4 f=[.int .i64 (f.first:Int),.int .i64 (f.blocks:Int),.int .i64 (f.width:Int),.int .i64 (f.count:Int)]:=fun _=>rfl
 have hM1:=JMap1 p hp J C hJ (fun t=>⟨t.c1,0,0,0,0⟩) 1 lf.count 5000 N (by omega) (by omega) (by omega) 111 inferInstance (fun t=>inI64 t.c1) roots1t (fun t h=>okT1 h) lf lts (.inr hl) (by omega)
  (fun t ht=>(okT_cols (hlfit t ht)).2.1) (fun _=>by omega) (hnb (by omega) (by omega) (by omega)) (fun h=> .inr (by have:=hroom h;omega)) (by omega) (by omega) (by omega)
 rw[hflv]
 simp only[hfl4] at hM1
 refine Ct.intro Tryz.func82 rfl Tryz.ntmps82 (nle rfl) fun w0=> ?_;dsimp only[argSlots,Nat.reduceAdd]
 repeat(refine st ?_;intros)
 refine R.call (hct:=hM1 _) (h:= ?_)
 rintro _ _ ⟨f1,C1,e1,rfl,rfl,hJ1,hx1,hc1,hb1⟩
 try dsimp only[List.cons_append,List.nil_append]
 have hN1:f1.blocks≤N:=Nat.le_trans hb1 (hnb (by omega) (by omega) (by omega))
 have hS:=JSort p hp _ C1 hJ1 f1 _ J.G o1 rfl false 20000 (sortT N) (fun _=> .refl _) (fun _=>sortT_mono hN1) (fun h=> .inr (by have:=hroom (hx1 h).1;dsimp only;omega)) (fun _=>sortA_small (by omega)) (by dsimp only;omega) (by omega)
 dsimp only at hS
 rw[hflv] at hS⊢
 repeat(refine st ?_;intros)
 refine R.call (hct:=hS) (h:= ?_)
 rintro _ _ ⟨f2,C2,e2,rfl,rfl,hJ2,hx2,hc2,hb2⟩
 try dsimp only[List.cons_append,List.nil_append]
 rw[hflv]
 repeat(refine st ?_;intros)
 rename_i b6 b7 b24
 have hby:∀t∈srt (ltO o1) false (lts.map fun t=>(⟨t.c1,0,0,0,0⟩:T5)),inI64 t.c0:=by
  intro t ht
  obtain⟨u,hu,rfl⟩:=List.mem_map.1 (srt_sub ht)
  exact(okT_cols (hlfit u hu)).2.1
 obtain⟨i1,i2,i3⟩:=rootM_inv b6 b7 _ (-1,0) ⟨in_m1,in_0⟩ hby
 have hs0:(rootM b6 b7).all (-1,0) (srt (ltO o1) false (lts.map fun t=>(⟨t.c1,0,0,0,0⟩:T5)))=someF lts:=rootM_all b6 b7 0 0 _ _
 have hst0:=rootM_st b6 b7 0 0 (srt (ltO o1) false (lts.map fun t=>(⟨t.c1,0,0,0,0⟩:T5))) (-1,0)
 rw[hst0] at i2
 rw[hs0] at i3
 have hM3:=JMake1 p hp _ C2 hJ2 (rootM b6 b7) (-1,0) (fun _ _=>rfl) 5 f2.count 1 5000 N (by omega) (by omega) (by omega) 112 inferInstance [pv b6,pv b7] _ (root_mk b6 b7) (fun k t _=>rootM_len b6 b7 k t) (by omega) f2 _ (.inl List.mem_cons_self) (by omega)
  i1 (fun h=>by rw[hs0];have h1:=(hx2 h).2.2;have h2:=Maker.all_len (n:=1) (rootM_len b6 b7) (srt (ltO o1) false (lts.map fun t=>(⟨t.c1,0,0,0,0⟩:T5))) (-1,0);rw[hs0] at h2;omega) (hnb (by omega) (by omega) (by omega)) (fun h=> .inr (by have:=hroom (hx1 (hx2 h).1).1;dsimp only;omega)) (by omega) (by dsimp only;omega) (by simp only[List.length_cons];omega) b24
 rw[hs0,hst0] at hM3
 simp only[hfl4,rootM_C] at hM3
 refine R.call (hct:=hM3) (h:= ?_)
 rintro _ _ ⟨f3,C3,e3,⟨l',n'⟩,rfl,rfl,hJ3,hx3,hc3,hb3⟩
 try dsimp only[List.cons_append,List.nil_append]
 try dsimp only at hJ3 hx3
 have hF:=fun b=>JFree1 p hp _ C3 hJ3 f2 _ _ (fun _=> .swap _ _ _) b
 simp only[hfl4] at hF
 rw[hflv]
 repeat(refine st ?_;intros)
 refine R.call (hct:=hF _) (h:= ?_)
 rintro _ _ ⟨C4,rfl,rfl,hJ4⟩
 try dsimp only[List.cons_append,List.nil_append]
 try dsimp only at hJ4
 have hR:=fun b2 b8=>JRunK p hp _ C4 hJ4 113 inferInstance [pv b2,pv b8,pv b6,pv b7] (rootsH p.bj b2 b8 b6 b7 f3 l' n') 5000 N none (rootsF lts) (fun f e=>f.count≤f3.count+1∧f.blocks≤nblocks p.size 5 (f3.count+1)∧(e=0→f.width=5∧f.count=(rootsF lts).length)) (fun h3=>by
   obtain⟨h2,hk,hw3,hct3⟩:=hx3 h3
   have hJe:=(hx1 (hx2 h2).1).1
   have h4:=roots3step p hp _ h3 f3 (someF lts) (.inl List.mem_cons_self) (by omega) b2 b8 b6 b7 l' n' i3 (fun _=>by
    simp only[Prod.ext_iff] at hk;rw[hk.1,hk.2];exact okT5 i2.1 in_m1 i2.1 in_m1 i2.2) 5000 N (hnb (by omega) (by omega) (by omega)) (.inr (by have:=hroom hJe;dsimp only;omega)) (by have:=hnb (k:=5) (n:=f2.count) (by omega) (by omega) (by omega);omega) (by dsimp only;omega)
   have h5:rootsOut (someF lts) l' n'=rootsF lts:=by
    simp only[Prod.ext_iff] at hk;rw[rootsF_eq,hk.1,hk.2]
   rw[h5] at h4
   exact h4) (by simp only[List.length_cons];omega)
 simp only[rootsH,hfl4] at hR
 repeat(refine st ?_;intros)
 refine R.call (hct:=hR _ _) (h:= ?_)
 rintro _ _ ⟨f5,C5,e5,rfl,rfl,hJ5,hc⟩
 try dsimp only[List.cons_append,List.nil_append]
 rw[or_none'] at hJ5
 have hfin:(e5=0→J.e=0∧f5.width=5∧f5.count=(rootsF lts).length)∧f5.count≤N∧f5.blocks≤N:=by
  rcases hc with⟨h3,h6,h7,h8⟩|⟨h3,rfl,rfl⟩
  ·exact⟨fun h=>⟨(hx1 (hx2 (hx3 h3).1).1).1,h8 h⟩,by omega,Nat.le_trans h7 (hnb (by omega) (by omega) (by omega))⟩
  ·exact⟨fun h=>absurd h h3,Nat.zero_le _,Nat.zero_le _⟩
 have hJf:JobC p ⟨e5,J.er,(f5,rootsF lts)::(f3,someF lts)::J.G,J.acts+35000,J.took+(3*N+sortT N)⟩ C5:=by
  have e1:J.acts+5000+20000+5000+5000=J.acts+35000:=by omega
  have e2:J.took+N+sortT N+N+N=J.took+(3*N+sortT N):=by omega
  rw[←e1,←e2];exact hJ5
 rw[hflv]
 repeat(refine st ?_;intros)
 (refine Dn.post (Hr:=[C5]) Tryz.results82 (hR:= ?_);exact⟨f5,f3,C5,e5,rfl,rfl,hJf,hfin⟩)
theorem turnM_all (a b a' b':Nat):∀(ts:List T5) (k:Bool×T5),(turnM a b).all k ts=(turnM a' b').all k ts
 |[],_=>rfl
 |t::ts,k=>by simp only[Maker.all];rw[show(turnM a b).next k t=(turnM a' b').next k t from rfl,turnM_all a b a' b' ts];rfl
theorem turnM_len (a b:Nat) (k:Bool×T5) (t:T5):((turnM a b).outs k t).length≤2:=by
 unfold turnM;dsimp only;split<;>simp
theorem turnM_two (a b:Nat):∀(ts:List T5) (k:Bool×T5),((turnM a b).all k ts).length≤ts.length+(if k.1 then 1 else 0)
 |[],_=>by simp[Maker.all]
 |t::ts,(true,d)=>by
  have:=turnM_two a b ts ((turnM a b).next (true,d) t)
  have h1:((turnM a b).next (true,d) t).1=false:=rfl
  have h2:((turnM a b).outs (true,d) t).length=2:=rfl
  rw[h1] at this
  simp only[Maker.all,List.length_append,List.length_cons,h2,if_true,Bool.false_eq_true,if_false] at this⊢
  omega
 |t::ts,(false,d)=>by
  have:=turnM_two a b ts ((turnM a b).next (false,d) t)
  have h1:((turnM a b).next (false,d) t).1=true:=rfl
  have h2:((turnM a b).outs (false,d) t).length=0:=rfl
  rw[h1] at this
  simp only[Maker.all,List.length_append,List.length_cons,h2,if_true,Bool.false_eq_true,if_false] at this⊢
  omega
theorem turnM_inv (a b:Nat):∀(ts:List T5) (k:Bool×T5),okT 5 k.2→(∀t∈ts,okT 5 t)→(turnM a b).oks (fun k t=>okT 5 t∧okT 5 k.2) k ts∧∀t∈(turnM a b).all k ts,okT 5 t
 |[],k,h,_=>⟨trivial,by simp[Maker.all]⟩
 |t::ts,k,h,ht=>by
  have h0:=ht t List.mem_cons_self
  have hd:okT 5 (if t.c4<k.2.c4 then t else k.2):=by split<;>assumption
  have hu:okT 5 (if t.c4<k.2.c4 then k.2 else t):=by split<;>assumption
  have hn:okT 5 ((turnM a b).next k t).2:=by
   unfold turnM;dsimp only;split
   ·exact hd
   ·exact h0
  obtain⟨h1,h2⟩:=turnM_inv a b ts _ hn fun u hu=>ht u (List.mem_cons_of_mem _ hu)
  refine⟨⟨⟨h0,h⟩,fun _=>h1⟩,?_⟩
  simp only[Maker.all,List.mem_append]
  rintro u (hu2|hu2)
  ·unfold turnM at hu2;dsimp only at hu2
   split at hu2
   ·have d:=okT_cols hd;have e:=okT_cols hu
    simp only[List.mem_cons,List.not_mem_nil,or_false] at hu2
    rcases hu2 with rfl|rfl
    ·exact okT5 d.2.2.2.1 d.2.2.2.2 d.2.2.1 d.2.1 (wrap_in _)
    ·exact okT5 e.2.2.2.1 e.2.2.2.2 in_m1 in_m1 in_0
   ·simp at hu2
  ·exact h2 u hu2
def zn (x:Int):Nat:=if x= -1 then 0 else 1
theorem zn_le (x:Int):zn x≤1:=by unfold zn;split<;>omega
theorem rootM_cnt (a b:Nat):∀(ts:List T5) (k:Int×Int),((rootM a b).all k ts).length+zn ((rootM a b).st k ts).1≤ts.length+zn k.1
 |[],k=>by simp[Maker.all,Maker.st]
 |t::ts,k=>by
  have:=rootM_cnt a b ts ((rootM a b).next k t)
  simp only[Maker.all,Maker.st,List.length_append,List.length_cons]
  have h1:((rootM a b).outs k t).length+zn ((rootM a b).next k t).1≤1+zn k.1:=by
   unfold rootM;dsimp only
   have:=zn_le t.c0
   by_cases h1:t.c0=k.1
   ·simp only[if_pos h1,List.length_nil];omega
   ·by_cases h2:k.1= -1
    ·simp only[if_neg h1,if_pos h2,List.length_nil];omega
    ·have h3:zn k.1=1:=by unfold zn;rw[if_neg h2]
     simp only[if_neg h1,if_neg h2,List.length_singleton];omega
  omega
theorem rootsF_len (lts:List T5):(rootsF lts).length≤lts.length:=by
 have h1:=rootM_cnt 0 0 (srt (ltO o1) false (lts.map fun t=>⟨t.c1,0,0,0,0⟩)) (-1,0)
 have h2:=len_srt (lt:=ltO o1) (once:=false) (lts.map fun t=>(⟨t.c1,0,0,0,0⟩:T5))
 rw[List.length_map] at h2
 have h0:zn (-1,(0:Int)).1=0:=rfl
 rw[h0] at h1
 unfold zn at h1
 unfold rootsF rootsOut
 rw[List.length_append]
 split at h1
 ·rename_i h;rw[if_pos h];simp only[List.length_nil];omega
 ·rename_i h;rw[if_neg h];simp only[List.length_singleton];omega
theorem rootsF_ok (lts:List T5) {w:Nat} (h:∀t∈lts,okT w t):∀t∈rootsF lts,okT 5 t:=by
 have hby:∀t∈srt (ltO o1) false (lts.map fun t=>(⟨t.c1,0,0,0,0⟩:T5)),inI64 t.c0:=by
  intro t ht
  obtain⟨u,hu,rfl⟩:=List.mem_map.1 (srt_sub ht)
  exact(okT_cols (h u hu)).2.1
 obtain⟨_,i2,i3⟩:=rootM_inv 0 0 _ (-1,0) ⟨in_m1,in_0⟩ hby
 intro t ht
 unfold rootsF rootsOut at ht
 rcases List.mem_append.1 ht with ht|ht
 ·exact i3 t ht
 ·split at ht
  ·simp at ht
  ·simp only[List.mem_singleton] at ht;subst ht
   exact okT5 i2.1 in_m1 i2.1 in_m1 i2.2
def turnsF (tts:List T5):List T5:=(turnM 0 0).all (false,T5.zero) (srt (ltO o1) false tts)
def visitsF (lts tts:List T5):List T5:=srt (ltO o12) false (rootsF lts++turnsF tts)
theorem ok0:okT 5 T5.zero:=okT5 in_0 in_0 in_0 in_0 in_0
theorem turnsF_ok (tts:List T5) (h:∀t∈tts,okT 5 t):∀t∈turnsF tts,okT 5 t:=(turnM_inv 0 0 _ _ ok0 fun t ht=>h t (srt_sub ht)).2
theorem visitsF_ok (lts tts:List T5) {w:Nat} (hl:∀t∈lts,okT w t) (h:∀t∈tts,okT 5 t):∀t∈visitsF lts tts,okT 5 t:=fun t ht=>by
 rcases List.mem_append.1 (srt_sub ht) with h1|h1
 ·exact rootsF_ok lts hl t h1
 ·exact turnsF_ok tts h t h1
theorem visits_ct (p:Jp) (hp:p.Ok) (J:Jb) (C:Chunk) (hJ:JobC p J C) (lf tf:Fl) (lts tts:List T5) (hl:In0 p (lf,lts)) (ht:In0 p (tf,tts)) (hw:tf.width=5) (N:Nat) (hN:lf.count+tf.count+1≤N) (hNb:N≤1000) (hroom:J.e=0→J.took+(6*N+3*sortT N)≤p.b0) (hac:J.acts+90000≤100000000) (hGl:J.G.length≤50):
  Ct Tryz.prog 47 [pv p.bj,flv lf,flv tf] [C] fun v H'=>∃f rf sf C' e',v=flv f∧H'=[C']∧JobC p ⟨e',J.er,(f,visitsF lts tts)::(rf,rootsF lts)::(sf,someF lts)::J.G,J.acts+90000,J.took+(6*N+3*sortT N)⟩ C'∧
   (e'=0→J.e=0∧f.width=5∧f.count=(visitsF lts tts).length)∧f.count≤N∧f.blocks≤N:=by
 obtain⟨hlc,hlfit,hlb,hlw1,hlw5⟩:=in0file hl
 obtain⟨htc,htfit,htb,htw1,htw5⟩:=in0file ht
 dsimp only at hlc hlfit hlb hlw1 hlw5 htc htfit htb htw1 htw5
 rw[hw] at htfit
 obtain⟨hs8,_⟩:=hp.size
 have hnb:∀{k n:Nat},1≤k→k≤5→n≤N→nblocks p.size k n≤N:=fun h1 h2 h3=>Nat.le_trans (nb_le hs8 h1 h2) h3
 have htbN:tf.blocks≤N:=by rw[htb];exact hnb htw1 htw5 (by omega)
 have hflv:∀f:Fl,flv f= .agg #[.int .i64 (f.first:Int),.int .i64 (f.blocks:Int),.int .i64 (f.width:Int),.int .i64 (f.count:Int)]:=fun _=>rfl
 have hfl4:∀f:Fl,fl4 f=[.int .i64 (f.first:Int),.int .i64 (f.blocks:Int),.int .i64 (f.width:Int),.int .i64 (f.count:Int)]:=fun _=>rfl
 have hM1:=JMap1 p hp J C hJ (fun t=>t) 5 tf.count 5000 N (by omega) (by omega) (by omega) 79 inferInstance (okT 5) visits1t (fun t h=>h) tf tts (.inr ht) (by omega)
  htfit (fun _=>by omega) (hnb (by omega) (by omega) (by omega)) (fun h=> .inr (by have:=hroom h;omega)) (by omega) (by omega) (by omega)
 rw[hflv,hflv]
 simp only[hfl4,map_id_t] at hM1
 refine Ct.intro Tryz.func47 rfl Tryz.ntmps47 (nle rfl) fun w0=> ?_;dsimp only[argSlots,Nat.reduceAdd]
 repeat(first|(refine st ?_;intros)|refine G.drawOrd (id:=6) [0,1,2,3,4,5,6,7,9,8,10,11,12,13] [(8,.eff [2,4,9])] (h:= ?_))
 refine R.call (hct:=hM1 _) (h:= ?_)
 rintro _ _ ⟨f1,C1,e1,rfl,rfl,hJ1,hx1,hc1,hb1⟩
 try dsimp only[List.cons_append,List.nil_append]
 have hN1:f1.blocks≤N:=Nat.le_trans hb1 (hnb (by omega) (by omega) (by omega))
 have hS:=JSort p hp _ C1 hJ1 f1 _ J.G o1 rfl false 20000 (sortT N) (fun _=> .refl _) (fun _=>sortT_mono hN1) (fun h=> .inr (by have:=hroom (hx1 h).1;dsimp only;omega)) (fun _=>sortA_small (by omega)) (by dsimp only;omega) (by omega)
 dsimp only at hS
 rw[hflv] at hS⊢
 repeat(first|(refine st ?_;intros)|refine G.drawOrd (id:=6) [0,1,2,3,4,5,6,7,9,8,10,11,12,13] [(8,.eff [2,4,9])] (h:= ?_))
 refine R.call (hct:=hS) (h:= ?_)
 rintro _ _ ⟨f2,C2,e2,rfl,rfl,hJ2,hx2,hc2,hb2⟩
 try dsimp only[List.cons_append,List.nil_append]
 rw[hflv]
 repeat(first|(refine st ?_;intros)|refine G.drawOrd (id:=6) [0,1,2,3,4,5,6,7,9,8,10,11,12,13] [(8,.eff [2,4,9])] (h:= ?_))
 rename_i b8 b9 b27
 have hsok:∀t∈srt (ltO o1) false tts,okT 5 t:=fun t h=>htfit t (srt_sub h)
 have hta:(turnM b9 b8).all (false,T5.zero) (srt (ltO o1) false tts)=turnsF tts:=turnM_all b9 b8 0 0 _ _
 have htl:=turnM_two b9 b8 (srt (ltO o1) false tts) (false,T5.zero)
 rw[hta] at htl
 simp only[Bool.false_eq_true,if_false,Nat.add_zero] at htl
 have hM3:=JMake1 p hp _ C2 hJ2 (turnM b9 b8) (false,T5.zero) (fun _ _=>rfl) 5 f2.count 2 5000 N (by omega) (by omega) (by omega) 80 inferInstance [pv b9,pv b8] _ (turn_mk b9 b8) (fun k t _=>turnM_len b9 b8 k t) (by omega) f2 _ (.inl List.mem_cons_self) (by omega)
  (turnM_inv b9 b8 _ _ ok0 hsok).1 (fun h=>by rw[hta];have h1:=(hx2 h).2.2;omega) (hnb (by omega) (by omega) (by omega)) (fun h=> .inr (by have:=hroom (hx1 (hx2 h).1).1;dsimp only;omega)) (by omega) (by dsimp only;omega) (by simp only[List.length_cons];omega) b27
 rw[hta] at hM3
 simp only[hfl4,turnM_C] at hM3
 refine R.call (hct:=hM3) (h:= ?_)
 rintro _ _ ⟨f3,C3,e3,⟨half,dn⟩,rfl,rfl,hJ3,hx3,hc3,hb3⟩
 try dsimp only[List.cons_append,List.nil_append]
 try dsimp only at hJ3 hx3
 have hR:=roots_ct p hp _ C3 hJ3 lf lts hl N (by omega) hNb (fun h=>by have:=hroom (hx1 (hx2 (hx3 h).1).1).1;dsimp only;omega) (by dsimp only;omega) (by simp only[List.length_cons];omega)
 rw[hflv] at hR
 have hwr:IntKind.wrap .i64 ((lf.count:Int)+(f3.count:Int))=((lf.count+f3.count:Nat):Int):=by rw[wrap_i64 (by omega)];omega
 rw[hflv]
 repeat(first|(refine st ?_;intros)|refine G.drawOrd (id:=6) [0,1,2,3,4,5,6,7,9,8,10,11,12,13] [(8,.eff [2,4,9])] (h:= ?_))
 refine R.callX (hct:=hR) (h:= ?_)
 rintro _ _ ⟨rf,sf,C4,e4,rfl,rfl,hJ4,hx4,hc4,hb4⟩
 dsimp only[List.cons_append,List.nil_append]
 constructor
 ·(·(first|(intro _ _ h;cases h;done)|(repeat(first|exact qok_nil|(apply qok_cons;(·first|(intro hc;exact absurd hc (nmem rfl))|(intro _;apply CellPr.mk;(·repeat(first|exact Has.here|apply Has.there));(first|exact rfl|assumption))|(intro _;apply CellsPr.mk;(·repeat(first|exact Has.here|apply Has.there));(first|exact rfl|assumption))))))))
 try dsimp only at hJ4 hx4
 rw[hflv]
 have hrl:=rootsF_len lts
 have hM5:=JMap2 p hp _ C4 hJ4 (fun t=>t) 5 (lf.count+f3.count) 5000 N (by omega) (by omega) (by omega) 81 inferInstance (okT 5) visits3t (fun t h=>h) rf f3 _ (turnsF tts) (.inl List.mem_cons_self) (.inl (by simp)) (by omega) (by omega)
  (fun t ht=>by rcases List.mem_append.1 ht with h|h;exact rootsF_ok lts hlfit t h;exact turnsF_ok tts htfit t h) (fun h=>by have:=(hx3 (hx4 h).1).2.2.2;rw[List.length_append];omega) (hnb (by omega) (by omega) (by omega)) (fun h=> .inr (by have:=hroom (hx1 (hx2 (hx3 (hx4 h).1).1).1).1;dsimp only;omega))
  (by have:=Nat.le_trans hb3 (hnb (k:=5) (n:=f2.count) (by omega) (by omega) (by omega));omega) (by dsimp only;omega) (by simp only[List.length_cons];omega)
 simp only[hfl4,map_id_t] at hM5
 repeat(first|(refine st ?_;intros)|refine G.drawOrd (id:=6) [0,1,2,3,4,5,6,7,9,8,10,11,12,13] [(8,.eff [2,4,9])] (h:= ?_))
 refine R.callX (hct:=hM5 _) (h:= ?_)
 rintro _ _ ⟨f5,C5,e5,rfl,rfl,hJ5,hx5,hc5,hb5⟩
 dsimp only[List.cons_append,List.nil_append]
 constructor
 ·(·(first|(intro _ _ h;cases h;done)|(repeat(first|exact qok_nil|(apply qok_cons;(·first|(intro hc;exact absurd hc (nmem rfl))|(intro _;apply CellPr.mk;(·repeat(first|exact Has.here|apply Has.there));(first|exact rfl|assumption))|(intro _;apply CellsPr.mk;(·repeat(first|exact Has.here|apply Has.there));(first|exact rfl|assumption))))))))
 rw[hflv]
 have hF:=fun b=>JFree2 p hp _ C5 hJ5 f2 f3 (srt (ltO o1) false tts) (turnsF tts) ((f5,rootsF lts++turnsF tts)::(rf,rootsF lts)::(sf,someF lts)::J.G) (fun _=>perm_two [(f5,rootsF lts++turnsF tts),(rf,rootsF lts),(sf,someF lts)] _ _ _) b
 simp only[hfl4] at hF
 repeat(first|(refine st ?_;intros)|refine G.drawOrd (id:=6) [0,1,2,3,4,5,6,7,9,8,10,11,12,13] [(8,.eff [2,4,9])] (h:= ?_))
 refine R.call (hct:=hF _) (h:= ?_)
 rintro _ _ ⟨C6,rfl,rfl,hJ6⟩
 try dsimp only[List.cons_append,List.nil_append]
 try dsimp only at hJ6 hx5
 have hN5:f5.blocks≤N:=Nat.le_trans hb5 (hnb (by omega) (by omega) (by omega))
 have hS7:=JSort p hp _ C6 hJ6 f5 _ _ o12 rfl false 20000 (sortT N) (fun _=> .refl _) (fun _=>sortT_mono hN5) (fun h=> .inr (by have:=hroom (hx1 (hx2 (hx3 (hx4 (hx5 h).1).1).1).1).1;dsimp only;omega)) (fun _=>sortA_small (by omega)) (by dsimp only;omega) (by omega)
 dsimp only at hS7
 rw[hflv] at hS7
 repeat(first|(refine st ?_;intros)|refine G.drawOrd (id:=6) [0,1,2,3,4,5,6,7,9,8,10,11,12,13] [(8,.eff [2,4,9])] (h:= ?_))
 refine R.call (hct:=hS7) (h:= ?_)
 rintro _ _ ⟨f7,C7,e7,rfl,rfl,hJ7,hx7,hc7,hb7⟩
 try dsimp only[List.cons_append,List.nil_append]
 rw[hflv]
 repeat(first|(refine st ?_;intros)|refine G.drawOrd (id:=6) [0,1,2,3,4,5,6,7,9,8,10,11,12,13] [(8,.eff [2,4,9])] (h:= ?_))
 have hJf:JobC p ⟨e7,J.er,(f7,visitsF lts tts)::(rf,rootsF lts)::(sf,someF lts)::J.G,J.acts+90000,J.took+(6*N+3*sortT N)⟩ C7:=by
  have e1:J.acts+5000+20000+5000+35000+5000+20000=J.acts+90000:=by omega
  have e2:J.took+N+sortT N+N+(3*N+sortT N)+N+sortT N=J.took+(6*N+3*sortT N):=by omega
  rw[←e1,←e2];exact hJ7
 (refine Dn.post (Hr:=[C7]) Tryz.results47 (hR:= ?_);exact⟨f7,rf,sf,C7,e7,rfl,rfl,hJf,fun h=>⟨(hx1 (hx2 (hx3 (hx4 (hx5 (hx7 h).1).1).1).1).1).1,(hx7 h).2.1.trans (hx5 (hx7 h).1).2.1,(hx7 h).2.2⟩,by omega,by omega⟩)
def LayerR (bw bd ba bs:Nat) (W:Wk) (A T:Nat) (er:Option Nat) (ts:List T5) (wd:Nat) (v:Value) (H':Hp):Prop:=
 ∃f e cd' ca' cs' W',v= .tuple #[flv f,.int .i64 e]∧H'=[wrow bw bd ba bs,cd',ca',cs']∧Wc bd ba bs W' cd' ca' cs'∧Stepped (begP bw bd ba bs 0 W) W W' A T er ts f e∧(e=0→f.width=wd)
def LayerQ (bw bd ba bs:Nat) (W:Wk) (cd cs:Chunk) (A T:Nat) (er:Option Nat) (ts:List T5) (wd:Nat) (v:Value) (H':Hp):Prop:=
 (8*W.δ.size≤W.α.room-W.α.used∧LayerR bw bd ba bs W A T er ts wd v H')∨
 (W.α.room-W.α.used<8*W.δ.size∧v= .tuple #[flv ⟨0,0,0,0⟩,.int .i64 7]∧∃ca' α',H'=[wrow bw bd ba bs,cd,ca',cs]∧Wc bd ba bs {W with α:=α'} cd ca' cs∧α'.gs.Perm W.α.gs∧α'.room=W.α.room)
theorem done_stepped {bw bd ba bs bj:Nat} {W W':Wk} {J:Jb} {f:Fl} {ts:List T5} {G2:List (Fl×List T5)} {A T:Nat} (h:DoneW (begP bw bd ba bs bj W) J [f] W') (hG:J.G=(f,ts)::G2) (hA:J.acts≤W.δ.acts+A) (hT:J.took≤T):
  Stepped (begP bw bd ba bs 0 W) W W' A T J.er ts (if J.e=0 then f else⟨0,0,0,0⟩) J.e:=by
 refine⟨h.gs,h.room,h.size,h.n,Nat.le_trans h.acts hA,?_,?_,fun x hx=>h.keep x hx,?_⟩
 ·have:=h.tk
  have h2:(begP bw bd ba bs bj W).b0=big W.σ.free:=rfl
  omega
 ·intro hf
  exact h.flt (fun h2=>h2 hf)
 ·by_cases he:J.e=0
  ·obtain⟨h1,h2,h3⟩:=h.good he [(f,ts)] G2 (by rw[hG];exact .refl _) rfl
   rw[if_pos he]
   exact .inl ⟨he,h3,h1,h2 _ List.mem_cons_self⟩
  ·obtain⟨h1,h2⟩:=h.bad he
   rw[if_neg he]
   exact .inr ⟨he,rfl,h1,h2⟩
theorem JResult1 (p:Jp) (hp:p.Ok) (J:Jb) (C:Chunk) (hJ:JobC p J C) (f:Fl) (b:Nat):
  Ct Tryz.prog 49 [pv p.bj,.slice (some ⟨b,0,none⟩) 1 1] [C,[(b,row (fl4 f) 27)]] fun v H'=>∃cd ca cs W,v= .int .i64 J.e∧H'=[wrow p.bw p.bd p.ba p.bs,cd,ca,cs,[(b,row (fl4 f) 27)]]∧Wc p.bd p.ba p.bs W cd ca cs∧DoneW p J [f] W:=
 JResult p hp J C hJ [f] (by simp) _ 1 _ (vec1 b f)
theorem jobC_open {p:Jp} {e:Int} {cd ca cs:Chunk}:([jrow p.bj p.bw e none 0 0,wrow p.bw p.bd p.ba p.bs,cd,ca,cs]:Hp).flatten.Perm ([jobC p e cd ca cs none 0 0 []]:Hp).flatten:=by
 unfold jobC;refine permC fun z=> ?_;simp only[List.flatten_cons,List.flatten_nil,List.append_nil,List.count_append];omega
end Go.Proofs.YtlnehgklibbjiaaGreat
