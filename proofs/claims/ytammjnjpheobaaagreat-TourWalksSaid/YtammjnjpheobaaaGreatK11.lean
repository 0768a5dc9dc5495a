/-
  Parts of the proof, put together: CloseW, Rd, Next, Next2. No condition.
-/
import Derived.Test.YtammjnjpheobaaaGreatK10
set_option linter.unusedVariables false
set_option linter.unusedSimpArgs false
set_option linter.unnecessarySimpa false
set_option maxHeartbeats 4000000
namespace Go.Proofs.YtammjnjpheobaaaGreat
open Go.SL Go.Spc Go.Tup
theorem nblocks_mono {s k a b:Nat} (h:a≤b):nblocks s k a≤nblocks s k b:=Nat.div_le_div_right (by omega)
theorem nblocks_dm {s k p:Nat} (hh:1≤holds s k):(p%holds s k=0→nblocks s k p=p/holds s k)∧(p%holds s k≠0→nblocks s k p=p/holds s k+1):=by
 unfold nblocks
 generalize holds s k=h at*
 have e:=Nat.div_add_mod p h
 have h2:=Nat.mod_lt p (show 0<h by omega)
 generalize p/h=q at*
 generalize p%h=r at*
 constructor
 ·intro h0
  have:p+h-1=(h-1)+h*q:=by omega
  rw[this,Nat.add_mul_div_left _ _ (by omega),Nat.div_eq_of_lt (by omega),Nat.zero_add]
 ·intro h0
  have:p+h-1=(r-1)+h*(q+1):=by rw[Nat.mul_succ];omega
  rw[this,Nat.add_mul_div_left _ _ (by omega),Nat.div_eq_of_lt (by omega),Nat.zero_add]
theorem WrOk.last {d:Nat→Option (List Int)} {size k nb bound first:Nat} {ps:List T5} {buf:List Int} (h:WrOk d size k nb bound first ps buf) (hh:1≤holds size k):
  Onto (dkSet d (first+ps.length/holds size k) (sealW size ((first+ps.length/holds size k:Nat):Int) (k:Int) (buf.take ((ps.length%holds size k)*k)))) size k (holds size k) first ps (ps.length/holds size k+1):=by
 have em:=Nat.div_mul_le_self ps.length (holds size k)
 have edm:=Nat.div_add_mod ps.length (holds size k)
 intro j hj
 by_cases hj2:j=ps.length/holds size k
 ·subst hj2
  simp only[dkSet,if_true]
  rw[h.bufw,List.take_of_length_le]
  rw[List.length_drop,Nat.mul_comm]
  have:=Nat.mod_lt ps.length (show 0<holds size k by omega)
  omega
 ·have:¬(first+j=first+ps.length/holds size k):=by omega
  simp only[dkSet,this,if_false]
  exact h.onto j (by omega)
theorem live_split {σ:Sp} {l:List Ext} {f m a:Nat} (h:Live σ ((f,m)::l)) (h0:0<a) (h1:a<m):Live σ ((f+a,m-a)::(f,a)::l):=by
 obtain⟨hf,ha⟩:=List.pairwise_cons.1 h.apart
 have hm:=h.fit _ List.mem_cons_self
 dsimp only at hm hf
 refine⟨?_,?_,?_,?_⟩
 ·intro e he
  simp only[List.mem_cons] at he
  rcases he with rfl|rfl|he
  ·dsimp only;omega
  ·dsimp only;omega
  ·exact h.fit e (List.mem_cons_of_mem _ he)
 ·refine List.pairwise_cons.2 ⟨fun e he=> ?_,List.pairwise_cons.2 ⟨fun e he=> ?_,ha⟩⟩
  ·rcases List.mem_cons.1 he with rfl|he
   ·dsimp only;omega
   ·have:=hf e he;dsimp only;omega
  ·have:=hf e he;dsimp only;omega
 ·intro x hx
  rw[h.free x hx,inF_cons,inF_cons,inF_cons]
  dsimp only
  constructor
  ·rintro hh (c|c|c)
   ·exact hh (.inl (by omega))
   ·exact hh (.inl (by omega))
   ·exact hh (.inr c)
  ·rintro hh (c|c)
   ·by_cases hxa:x<f+a
    ·exact hh (.inr (.inl (by omega)))
    ·exact hh (.inl (by omega))
   ·exact hh (.inr (.inr c))
 ·have:=h.sum
  simp only[total_cons] at this⊢
  omega
def CloseOk (bw bd ba bs bx:Nat) (W:Wk) (Gs:List Gr) (Lv:List Ext) (first nb k bound:Nat) (g:Gr) (ps:List T5) (cb:Chunk) (v:Value) (H':Hp):Prop:=
 ∃(cd ca cs:Chunk) (W':Wk) (f:Fl) (n:Nat),v= .tuple #[flv f,.int .i64 0]∧H'=[wrow bw bd ba bs,cd,ca,cs,[(bx,row (wrCells bw f.first f.blocks k ps.length bound g.bb n f.blocks true) 178)],cb]∧
  Wc bd ba bs W' cd ca cs∧Ev W W' 1 0∧W'.δ.acts=W.δ.acts+(nblocks W.δ.size k ps.length-ps.length/holds W.δ.size k)∧W'.α.gs.Perm Gs∧W'.live=(if f.blocks=0 then Lv else f.ext::Lv)∧
  f.width=k∧f.count=ps.length∧f.blocks=nblocks W.δ.size k ps.length∧Onto W'.δ.disk W.δ.size k (holds W.δ.size k) f.first ps f.blocks∧∀x,¬(first≤x∧x<first+nb)→W'.δ.disk x=W.δ.disk x
theorem Close_walk (bw bd ba bs:Nat) (W:Wk) (cd ca cs:Chunk) (h:Wc bd ba bs W cd ca cs) (bx first nb k bound:Nat) (g:Gr) (Gs:List Gr) (hg:W.α.gs.Perm (g::Gs)) (hgn:g.n=W.δ.size) (Lv:List Ext) (hl:LvOf first nb Lv W.live) (ps:List T5) (buf:List Int)
  (ho:WrOk W.δ.disk W.δ.size k nb bound first ps buf) (hac:W.δ.acts≤1000000000000):
  Ct Tryz.prog 76 [pv bx] [wrow bw bd ba bs,cd,ca,cs,[(bx,row (wrCells bw first nb k ps.length bound g.bb ((ps.length%holds W.δ.size k)*k) (ps.length/holds W.δ.size k) false) 178)],[(g.br,row (wcells buf) 158)]] fun v H'=>
   CloseOk bw bd ba bs bx W Gs Lv first nb k bound g ps [(g.br,row (wcells buf) 158)] v H'∨
   (v= .tuple #[flv ⟨0,0,0,0⟩,.int .i64 6]∧W.δ.fault=0∧WrGone bw bd ba bs bx W Gs Lv first nb k bound g.bb [(g.br,row (wcells buf) 158)] 0 W.δ.failed H'):=by
 obtain⟨⟨hs1,hs2⟩,hbk,hfr⟩:=h.dev.num
 have hk1:=ho.w1
 have hk5:=ho.w2
 have hp:=holds_pos hs1 hk1 hk5
 have hroom:=ho.room hs1
 have hbl:=ho.blen
 obtain⟨nd0,nd1⟩:=nblocks_dm (p:=ps.length) hp
 have hmono:=nblocks_mono (s:=W.δ.size) (k:=k) ho.cnt
 rw[←ho.nbe] at hmono
 have honto:=ho.onto
 have hlast:=ho.last hp
 have hless:W.δ.fault= -1→less W.δ.fault= -1:=fun e=>by unfold less;rw[e];rfl
 have hin:nb≠0→first+nb≤W.δ.blocks:=by
  intro hnb0
  unfold LvOf at hl
  rw[if_neg hnb0] at hl
  rw[h.nn]
  exact(live_free (h.live.perm hl)).1.2
 have hFo:=fun (hn:(ps.length%holds W.δ.size k)*k≤W.δ.size-2) ha hf=>flush_ok bw bd ba bs W cd ca cs h bx first nb k ps.length bound ((ps.length%holds W.δ.size k)*k) (ps.length/holds W.δ.size k) g (hg.mem_iff.2 List.mem_cons_self) hgn buf _ hbl rfl (by rw[List.length_take,hbl];omega) hn ha hk5 hf hac
 have hFf:=fun (hn:(ps.length%holds W.δ.size k)*k≤W.δ.size-2) ha hf=>flush_fault bw bd ba bs W cd ca cs h bx first nb k ps.length bound ((ps.length%holds W.δ.size k)*k) (ps.length/holds W.δ.size k) g Gs hg Lv hl hgn buf _ hbl rfl (by rw[List.length_take,hbl];omega) hn ha hk5 hf
 have hnk:ps.length%holds W.δ.size k≠0→0<(ps.length%holds W.δ.size k)*k:=fun hne=>Nat.mul_pos (Nat.pos_of_ne_zero hne) (by omega)
 have hnk0:ps.length%holds W.δ.size k=0→(ps.length%holds W.δ.size k)*k=0:=fun e=>by rw[e,Nat.zero_mul]
 have hflv:∀f:Fl,flv f= .agg #[.int .i64 (f.first:Int),.int .i64 (f.blocks:Int),.int .i64 (f.width:Int),.int .i64 (f.count:Int)]:=fun _=>rfl
 generalize hn0:(ps.length%holds W.δ.size k)*k=n0 at*
 generalize hq0:ps.length/holds W.δ.size k=q0 at*
 by_cases hr0:ps.length%holds W.δ.size k=0
 ·have hn00:=hnk0 hr0
  have hnb:=nd0 hr0
  subst hn00
  rw[hnb] at hmono
  have hcase:(q0=0∧nb=0)∨(q0=0∧0<nb)∨(0<q0∧q0<nb)∨(0<q0∧q0=nb):=by omega
  rcases hcase with⟨c1,c2⟩|⟨c1,c2⟩|⟨c1,c2⟩|⟨c1,c2⟩
  ·have hl1:=hl
   unfold LvOf at hl1
   rw[if_pos c2] at hl1
   unfold wrCells wrow
   refine Ct.intro Tryz.func76 rfl Tryz.ntmps76 (nle rfl) fun w0=> ?_;dsimp only[argSlots,Nat.reduceAdd]
   repeat(first|(refine st ?_;intros)|refine G.draw [] (h:= ?_))
   have hR:=aRelease ba W.α ca (h.ar.perm (.refl _)) g Gs hg
   refine R.call (hct:=hR) (h:= ?_)
   rintro _ _ ⟨ca',α',rfl,hA',hgs,hro,rfl⟩
   try dsimp only[List.cons_append,List.nil_append]
   repeat(first|(refine st ?_;intros)|refine G.draw [] (h:= ?_))
   (refine Dn.post (Hr:=[[(bw,row [pv bd,pv ba,pv bs] 101)],cd,ca',cs,[(bx,row [pv bw,.int .i64 ((0:Nat):Int),.int .i64 ((q0:Nat):Int),.int .i64 (k:Int),.int .i64 (ps.length:Int),.int .i64 (bound:Int),pv g.bb,.int .i64 ((0:Nat):Int),.int .i64 ((q0:Nat):Int),.bool true] 178)],[(g.br,row (wcells buf) 158)]]) Tryz.results76 (hR:= ?_);left)
   exact⟨cd,ca',cs,⟨W.δ,α',W.σ,Lv⟩,⟨0,q0,k,ps.length⟩,0,rfl,rfl,⟨h.dev,hA',h.sp,h.nn,h.live.perm hl1⟩,⟨rfl,rfl,⟨Nat.le_refl _,Nat.le_succ _⟩,id,hro,Nat.le_refl _⟩,(by rw[hnb,hq0,Nat.sub_self];rfl),hgs,(by rw[if_pos (by dsimp only;omega)]),rfl,rfl,hnb.symm,(fun j hj=>by dsimp only at hj;omega),(fun _ _=>rfl)⟩
  ·have hl1:=hl
   unfold LvOf at hl1
   rw[if_neg (by omega)] at hl1
   have hinn:=hin (by omega)
   unfold wrCells wrow
   refine Ct.intro Tryz.func76 rfl Tryz.ntmps76 (nle rfl) fun w0=> ?_;dsimp only[argSlots,Nat.reduceAdd]
   repeat(first|(refine st ?_;intros)|refine G.draw [] (h:= ?_))
   have hR:=aRelease ba W.α ca (h.ar.perm (.refl _)) g Gs hg
   have hadd:IntKind.wrap .i64 ((first:Int)+((q0:Nat):Int))=((first+q0:Nat):Int):=by rw[wrap_i64 (by omega)];rfl
   have hsub:IntKind.wrap .i64 ((nb:Int)-((q0:Nat):Int))=((nb-q0:Nat):Int):=by rw[wrap_i64 (by omega)];omega
   have hlv:=h.live.perm hl1
   obtain⟨⟨f1,f2⟩,f3⟩:=live_free hlv
   have hGv:=Give_ct bs W.σ cs h.sp (first+q0) (nb-q0) (by omega) (by omega) (fun x x1 x2=>f3 x (by omega) (by omega))
   refine R.call (hct:=hR) (h:= ?_)
   rintro _ _ ⟨ca',α',rfl,hA',hgs,hro,rfl⟩
   try dsimp only[List.cons_append,List.nil_append]
   repeat(first|(refine st ?_;intros)|refine G.draw [] (h:= ?_))
   refine R.call (hct:=hGv) (h:= ?_)
   rintro _ _ ⟨cs',σ',rfl,hS',e1,e3,e4,e5,rfl⟩
   try dsimp only[List.cons_append,List.nil_append]
   repeat(first|(refine st ?_;intros)|refine G.draw [] (h:= ?_))
   (refine Dn.post (Hr:=[[(bw,row [pv bd,pv ba,pv bs] 101)],cd,ca',cs',[(bx,row [pv bw,.int .i64 ((0:Nat):Int),.int .i64 ((q0:Nat):Int),.int .i64 (k:Int),.int .i64 (ps.length:Int),.int .i64 (bound:Int),pv g.bb,.int .i64 ((0:Nat):Int),.int .i64 ((q0:Nat):Int),.bool true] 178)],[(g.br,row (wcells buf) 158)]]) Tryz.results76 (hR:= ?_);left)
   exact⟨cd,ca',cs',⟨W.δ,α',σ',Lv⟩,⟨0,q0,k,ps.length⟩,0,rfl,rfl,⟨h.dev,hA',hS',h.nn.trans e1.symm,live_give (f:=first+q0) (m:=nb-q0) (by rw[show first+q0=first by omega,show nb-q0=nb by omega];exact hlv) e1 e3 e4⟩,⟨rfl,e1,⟨Nat.le_refl _,Nat.le_succ _⟩,id,hro,(by show _≤big σ'.free+0;omega)⟩,(by rw[hnb,hq0,Nat.sub_self];rfl),hgs,(by rw[if_pos (by dsimp only;omega)]),rfl,rfl,hnb.symm,(fun j hj=>by dsimp only at hj;omega),(fun _ _=>rfl)⟩
  ·have hl1:=hl
   unfold LvOf at hl1
   rw[if_neg (by omega)] at hl1
   have hinn:=hin (by omega)
   unfold wrCells wrow
   refine Ct.intro Tryz.func76 rfl Tryz.ntmps76 (nle rfl) fun w0=> ?_;dsimp only[argSlots,Nat.reduceAdd]
   repeat(first|(refine st ?_;intros)|refine G.draw [] (h:= ?_))
   have hR:=aRelease ba W.α ca (h.ar.perm (.refl _)) g Gs hg
   have hadd:IntKind.wrap .i64 ((first:Int)+((q0:Nat):Int))=((first+q0:Nat):Int):=by rw[wrap_i64 (by omega)];rfl
   have hsub:IntKind.wrap .i64 ((nb:Int)-((q0:Nat):Int))=((nb-q0:Nat):Int):=by rw[wrap_i64 (by omega)];omega
   have hlv:=live_split (h.live.perm hl1) (a:=q0) (by omega) (by omega)
   obtain⟨⟨f1,f2⟩,f3⟩:=live_free hlv
   have hGv:=Give_ct bs W.σ cs h.sp (first+q0) (nb-q0) f1 f2 f3
   refine R.call (hct:=hR) (h:= ?_)
   rintro _ _ ⟨ca',α',rfl,hA',hgs,hro,rfl⟩
   try dsimp only[List.cons_append,List.nil_append]
   repeat(first|(refine st ?_;intros)|refine G.draw [] (h:= ?_))
   refine R.call (hct:=hGv) (h:= ?_)
   rintro _ _ ⟨cs',σ',rfl,hS',e1,e3,e4,e5,rfl⟩
   try dsimp only[List.cons_append,List.nil_append]
   repeat(first|(refine st ?_;intros)|refine G.draw [] (h:= ?_))
   (refine Dn.post (Hr:=[[(bw,row [pv bd,pv ba,pv bs] 101)],cd,ca',cs',[(bx,row [pv bw,.int .i64 ((first:Nat):Int),.int .i64 ((q0:Nat):Int),.int .i64 (k:Int),.int .i64 (ps.length:Int),.int .i64 (bound:Int),pv g.bb,.int .i64 ((0:Nat):Int),.int .i64 ((q0:Nat):Int),.bool true] 178)],[(g.br,row (wcells buf) 158)]]) Tryz.results76 (hR:= ?_);left)
   exact⟨cd,ca',cs',⟨W.δ,α',σ',((first,q0)::Lv)⟩,⟨first,q0,k,ps.length⟩,0,rfl,rfl,⟨h.dev,hA',hS',h.nn.trans e1.symm,live_give hlv e1 e3 e4⟩,⟨rfl,e1,⟨Nat.le_refl _,Nat.le_succ _⟩,id,hro,(by show _≤big σ'.free+0;omega)⟩,(by rw[hnb,hq0,Nat.sub_self];rfl),hgs,(by rw[if_neg (by dsimp only;omega)];rfl),rfl,rfl,hnb.symm,honto,(fun _ _=>rfl)⟩
  ·have hl1:=hl
   unfold LvOf at hl1
   rw[if_neg (by omega)] at hl1
   have hinn:=hin (by omega)
   unfold wrCells wrow
   refine Ct.intro Tryz.func76 rfl Tryz.ntmps76 (nle rfl) fun w0=> ?_;dsimp only[argSlots,Nat.reduceAdd]
   repeat(first|(refine st ?_;intros)|refine G.draw [] (h:= ?_))
   have hR:=aRelease ba W.α ca (h.ar.perm (.refl _)) g Gs hg
   refine R.call (hct:=hR) (h:= ?_)
   rintro _ _ ⟨ca',α',rfl,hA',hgs,hro,rfl⟩
   try dsimp only[List.cons_append,List.nil_append]
   repeat(first|(refine st ?_;intros)|refine G.draw [] (h:= ?_))
   (refine Dn.post (Hr:=[[(bw,row [pv bd,pv ba,pv bs] 101)],cd,ca',cs,[(bx,row [pv bw,.int .i64 ((first:Nat):Int),.int .i64 ((q0:Nat):Int),.int .i64 (k:Int),.int .i64 (ps.length:Int),.int .i64 (bound:Int),pv g.bb,.int .i64 ((0:Nat):Int),.int .i64 ((q0:Nat):Int),.bool true] 178)],[(g.br,row (wcells buf) 158)]]) Tryz.results76 (hR:= ?_);left)
   exact⟨cd,ca',cs,⟨W.δ,α',W.σ,((first,q0)::Lv)⟩,⟨first,q0,k,ps.length⟩,0,rfl,rfl,⟨h.dev,hA',h.sp,h.nn,(by rw[show q0=nb by omega];exact h.live.perm hl1)⟩,⟨rfl,rfl,⟨Nat.le_refl _,Nat.le_succ _⟩,id,hro,Nat.le_refl _⟩,(by rw[hnb,hq0,Nat.sub_self];rfl),hgs,(by rw[if_neg (by dsimp only;omega)];rfl),rfl,rfl,hnb.symm,honto,(fun _ _=>rfl)⟩
 ·have hn01:=hnk hr0
  have hnb:=nd1 hr0
  rw[hnb] at hmono
  have hinn:=hin (by omega)
  by_cases hf:W.δ.fault=0
  ·have hFf:=hFf (by omega) (by omega) hf
   unfold wrCells wrow at*
   refine Ct.intro Tryz.func76 rfl Tryz.ntmps76 (nle rfl) fun w0=> ?_;dsimp only[argSlots,Nat.reduceAdd]
   repeat(first|(refine st ?_;intros)|refine G.draw [] (h:= ?_))
   refine R.call (hct:=hFf) (h:= ?_)
   rintro _ _ ⟨rfl,cd2,ca2,cs2,W',cnt',n',a',rfl,hgone⟩
   try dsimp only[List.cons_append,List.nil_append]
   unfold wrow wrCells
   repeat(first|(refine st ?_;intros)|refine G.draw [] (h:= ?_))
   (refine Dn.post (Hr:=[[(bw,row [pv bd,pv ba,pv bs] 101)],cd2,ca2,cs2,[(bx,row [pv bw,.int .i64 (first:Int),.int .i64 (nb:Int),.int .i64 (k:Int),.int .i64 (cnt':Int),.int .i64 (bound:Int),pv g.bb,.int .i64 (n':Int),.int .i64 (a':Int),.bool true] 178)],[(g.br,row (wcells buf) 158)]]) Tryz.results76 (hR:= ?_);
    exact .inr ⟨rfl,hf,cd2,ca2,cs2,W',cnt',n',a',rfl,hgone⟩)
  ·have hFo:=hFo (by omega) (by omega) hf
   have hl1:=hl
   unfold LvOf at hl1
   rw[if_neg (by omega)] at hl1
   have hcase:q0+1<nb∨q0+1=nb:=by omega
   rcases hcase with c2|c2
   ·unfold wrCells wrow at*
    refine Ct.intro Tryz.func76 rfl Tryz.ntmps76 (nle rfl) fun w0=> ?_;dsimp only[argSlots,Nat.reduceAdd]
    repeat(first|(refine st ?_;intros)|refine G.draw [] (h:= ?_))
    refine R.call (hct:=hFo) (h:= ?_)
    rintro _ _ ⟨rfl,cd2,ca2,rfl,hp2,hd2⟩
    try dsimp only[List.cons_append,List.nil_append]
    unfold wrow wrCells
    repeat(first|(refine st ?_;intros)|refine G.draw [] (h:= ?_))
    have hR:=aRelease ba W.α ca2 (h.ar.perm hp2) g Gs hg
    have hadd:IntKind.wrap .i64 ((first:Int)+(((q0+1):Nat):Int))=((first+(q0+1):Nat):Int):=by rw[wrap_i64 (by omega)];rfl
    have hsub:IntKind.wrap .i64 ((nb:Int)-(((q0+1):Nat):Int))=((nb-(q0+1):Nat):Int):=by rw[wrap_i64 (by omega)];omega
    have hlv:=live_split (h.live.perm hl1) (a:=(q0+1)) (by omega) (by omega)
    obtain⟨⟨f1,f2⟩,f3⟩:=live_free hlv
    have hGv:=Give_ct bs W.σ cs h.sp (first+(q0+1)) (nb-(q0+1)) f1 f2 f3
    refine R.call (hct:=hR) (h:= ?_)
    rintro _ _ ⟨ca',α',rfl,hA',hgs,hro,rfl⟩
    try dsimp only[List.cons_append,List.nil_append]
    repeat(first|(refine st ?_;intros)|refine G.draw [] (h:= ?_))
    refine R.call (hct:=hGv) (h:= ?_)
    rintro _ _ ⟨cs',σ',rfl,hS',e1,e3,e4,e5,rfl⟩
    try dsimp only[List.cons_append,List.nil_append]
    repeat(first|(refine st ?_;intros)|refine G.draw [] (h:= ?_))
    (refine Dn.post (Hr:=[[(bw,row [pv bd,pv ba,pv bs] 101)],cd2,ca',cs',[(bx,row [pv bw,.int .i64 ((first:Nat):Int),.int .i64 (((q0+1):Nat):Int),.int .i64 (k:Int),.int .i64 (ps.length:Int),.int .i64 (bound:Int),pv g.bb,.int .i64 ((0:Nat):Int),.int .i64 (((q0+1):Nat):Int),.bool true] 178)],[(g.br,row (wcells buf) 158)]]) Tryz.results76 (hR:= ?_);left)
    exact⟨cd2,ca',cs',⟨(W.δ.wrote (first+q0) (sealW W.δ.size ((first+q0:Nat):Int) (k:Int) (buf.take n0))),α',σ',((first,(q0+1))::Lv)⟩,⟨first,(q0+1),k,ps.length⟩,0,rfl,rfl,⟨hd2,hA',hS',h.nn.trans e1.symm,live_give hlv e1 e3 e4⟩,⟨rfl,e1,⟨Nat.le_succ _,Nat.le_refl _⟩,hless,hro,(by show _≤big σ'.free+0;omega)⟩,(by rw[hnb,hq0,Nat.add_sub_cancel_left];rfl),hgs,(by rw[if_neg (by dsimp only;omega)];rfl),rfl,rfl,hnb.symm,hlast,(fun x hx=>by simp only[Dv.wrote,dkSet];rw[if_neg (by omega)])⟩
   ·unfold wrCells wrow at*
    refine Ct.intro Tryz.func76 rfl Tryz.ntmps76 (nle rfl) fun w0=> ?_;dsimp only[argSlots,Nat.reduceAdd]
    repeat(first|(refine st ?_;intros)|refine G.draw [] (h:= ?_))
    refine R.call (hct:=hFo) (h:= ?_)
    rintro _ _ ⟨rfl,cd2,ca2,rfl,hp2,hd2⟩
    try dsimp only[List.cons_append,List.nil_append]
    unfold wrow wrCells
    repeat(first|(refine st ?_;intros)|refine G.draw [] (h:= ?_))
    have hR:=aRelease ba W.α ca2 (h.ar.perm hp2) g Gs hg
    refine R.call (hct:=hR) (h:= ?_)
    rintro _ _ ⟨ca',α',rfl,hA',hgs,hro,rfl⟩
    try dsimp only[List.cons_append,List.nil_append]
    repeat(first|(refine st ?_;intros)|refine G.draw [] (h:= ?_))
    (refine Dn.post (Hr:=[[(bw,row [pv bd,pv ba,pv bs] 101)],cd2,ca',cs,[(bx,row [pv bw,.int .i64 ((first:Nat):Int),.int .i64 (((q0+1):Nat):Int),.int .i64 (k:Int),.int .i64 (ps.length:Int),.int .i64 (bound:Int),pv g.bb,.int .i64 ((0:Nat):Int),.int .i64 (((q0+1):Nat):Int),.bool true] 178)],[(g.br,row (wcells buf) 158)]]) Tryz.results76 (hR:= ?_);left)
    exact⟨cd2,ca',cs,⟨(W.δ.wrote (first+q0) (sealW W.δ.size ((first+q0:Nat):Int) (k:Int) (buf.take n0))),α',W.σ,((first,(q0+1))::Lv)⟩,⟨first,(q0+1),k,ps.length⟩,0,rfl,rfl,⟨hd2,hA',h.sp,h.nn,(by rw[show(q0+1)=nb by omega];exact h.live.perm hl1)⟩,⟨rfl,rfl,⟨Nat.le_succ _,Nat.le_refl _⟩,hless,hro,Nat.le_refl _⟩,(by rw[hnb,hq0,Nat.add_sub_cancel_left];rfl),hgs,(by rw[if_neg (by dsimp only;omega)];rfl),rfl,rfl,hnb.symm,hlast,(fun x hx=>by simp only[Dv.wrote,dkSet];rw[if_neg (by omega)])⟩
def rdCells (bw:Nat) (f:Fl) (bb n at_ block count:Nat) (closed:Bool):List Value:=
 [pv bw,.int .i64 (f.first:Int),.int .i64 (f.blocks:Int),.int .i64 (f.width:Int),.int .i64 (f.count:Int),pv bb,.int .i64 (n:Int),.int .i64 (at_:Int),.int .i64 (block:Int),.int .i64 (count:Int),.bool closed]
theorem Read_room (bw bd ba bs:Nat) (W:Wk) (cd ca cs:Chunk) (h:Wc bd ba bs W cd ca cs) (f:Fl) (h1:1≤f.width) (h2:f.width≤5) (hc:f.count≤100000000) (hb:f.blocks=nblocks W.δ.size f.width f.count) (hr:W.α.room-W.α.used<W.δ.size):
  CtQ Tryz.prog 53 [pv bw,flv f] [wrow bw bd ba bs,cd,ca,cs] (.tuple #[.pointer none,.int .i64 7]):=by
 have hH:=Holds_ct bw bd ba bs W.δ cd h.dev f.width h1 h2
 have hB:=blocks_ct bw bd ba bs W.δ cd h.dev f.width f.count h1 h2 hc
 obtain⟨hs,_⟩:=h.dev.num
 have hp:=holds_pos hs.1 h1 h2
 have hS:=Size_ct bd W.δ cd h.dev
 have hn:=h.ar.num
 have hF:=aFull ba W.α ca h.ar (W.δ.size:Int) (by omega) (by omega)
 rw[←hb] at hB
 generalize holds W.δ.size f.width=hk at*
 unfold wrow at hH hB⊢
 unfold flv
 refine Ct.intro Tryz.func53 rfl Tryz.ntmps53 (nle rfl) fun w0=> ?_;dsimp only[argSlots,Nat.reduceAdd]
 repeat(first|(refine st ?_;intros)|refine G.draw (id:=1) [(3,.quiet),(23,.quiet)] (h:= ?_)|refine G.draw (id:=3) [(8,.quiet),(9,.quiet)] (h:= ?_)|(refine cq hH ?_)|(refine cq hS ?_)|(refine cq hB ?_)|(refine cq hF ?_))
 (refine Dn.post (Hr:=[[(bw,row [pv bd,pv ba,pv bs] 101)],cd,ca,cs]) Tryz.results53 (hR:= ?_);exact⟨rfl,rfl⟩)
theorem Read_arg (bw bd ba bs:Nat) (W:Wk) (cd ca cs:Chunk) (h:Wc bd ba bs W cd ca cs) (f:Fl) (h1:1≤f.width) (h2:f.width≤5) (hc:f.count≤100000000) (hb:f.blocks≠nblocks W.δ.size f.width f.count):
  CtQ Tryz.prog 53 [pv bw,flv f] [wrow bw bd ba bs,cd,ca,cs] (.tuple #[.pointer none,.int .i64 1]):=by
 have hH:=Holds_ct bw bd ba bs W.δ cd h.dev f.width h1 h2
 have hB:=blocks_ct bw bd ba bs W.δ cd h.dev f.width f.count h1 h2 hc
 obtain⟨hs,_⟩:=h.dev.num
 have hp:=holds_pos hs.1 h1 h2
 generalize nblocks W.δ.size f.width f.count=nb at*
 generalize holds W.δ.size f.width=hk at*
 unfold wrow at hH hB⊢
 unfold flv
 refine Ct.intro Tryz.func53 rfl Tryz.ntmps53 (nle rfl) fun w0=> ?_;dsimp only[argSlots,Nat.reduceAdd]
 repeat(first|(refine st ?_;intros)|refine G.draw (id:=1) [(3,.quiet),(23,.quiet)] (h:= ?_)|refine G.draw (id:=3) [(8,.eff [3])] (h:= ?_)|(refine cq hH ?_)|(refine cq hB ?_))
 (refine Dn.post (Hr:=[[(bw,row [pv bd,pv ba,pv bs] 101)],cd,ca,cs]) Tryz.results53 (hR:= ?_);exact⟨rfl,rfl⟩)
def RdMade (bw bd ba bs:Nat) (W:Wk) (f:Fl) (cd cs:Chunk) (v:Value) (H':Hp):Prop:=
 ∃(bx:Nat) (g:Gr) (ca:Chunk) (α':Ar),v= .tuple #[pv bx,.int .i64 0]∧
  H'=[wrow bw bd ba bs,cd,ca,cs,[(bx,row (rdCells bw f g.bb 0 0 0 0 false) 155)],[(g.br,row (wcells (List.replicate W.δ.size 0)) 158)]]∧
  IsAr ba α' ca∧g.n=W.δ.size∧α'.gs.Perm (g::W.α.gs)∧α'.room=W.α.room
theorem Read_make (bw bd ba bs:Nat) (W:Wk) (cd ca cs:Chunk) (h:Wc bd ba bs W cd ca cs) (f:Fl) (h1:1≤f.width) (h2:f.width≤5) (hc:f.count≤100000000) (hb:f.blocks=nblocks W.δ.size f.width f.count) (hr:W.δ.size≤W.α.room-W.α.used):
  Ct Tryz.prog 53 [pv bw,flv f] [wrow bw bd ba bs,cd,ca,cs] (RdMade bw bd ba bs W f cd cs):=by
 have hH:=Holds_ct bw bd ba bs W.δ cd h.dev f.width h1 h2
 have hB:=blocks_ct bw bd ba bs W.δ cd h.dev f.width f.count h1 h2 hc
 obtain⟨hs,_⟩:=h.dev.num
 have hp:=holds_pos hs.1 h1 h2
 have hS:=Size_ct bd W.δ cd h.dev
 have hn:=h.ar.num
 have hG:=aGrant ba W.α ca h.ar W.δ.size (by omega)
 rw[←hb] at hB
 generalize holds W.δ.size f.width=hk at*
 unfold wrow at hH hB⊢
 unfold flv
 refine Ct.intro Tryz.func53 rfl Tryz.ntmps53 (nle rfl) fun w0=> ?_;dsimp only[argSlots,Nat.reduceAdd]
 repeat(first|(refine st ?_;intros)|refine G.draw (id:=1) [(3,.quiet),(23,.quiet)] (h:= ?_)|refine G.draw (id:=3) [(8,.quiet)] (h:= ?_)|(refine cq hH ?_)|(refine cq hS ?_)|(refine cq hB ?_))
 refine R.call (hct:=hG) (h:= ?_)
 rintro _ _ ⟨g,ca',α',hgn,rfl,hA',hgs,hro,rfl⟩
 try dsimp only[List.cons_append,List.nil_append]
 repeat(first|(refine st ?_;intros)|refine G.draw (id:=1) [(3,.quiet),(23,.quiet)] (h:= ?_)|refine G.draw (id:=3) [(8,.quiet)] (h:= ?_)|(refine cq hH ?_)|(refine cq hS ?_)|(refine cq hB ?_))
 rename_i bx
 (refine Dn.post (Hr:=[[(bw,row [pv bd,pv ba,pv bs] 101)],cd,ca',cs,[(bx,row (rdCells bw f g.bb 0 0 0 0 false) 155)],[(g.br,row (wcells (List.replicate W.δ.size 0)) 158)]]) Tryz.results53 (hR:= ?_);
  exact⟨bx,g,ca',α',rfl,rfl,hA',hgn,hgs,hro⟩)
theorem RClose_nil:CtQ Tryz.prog 54 [.pointer none] [] (.tuple #[]):=by
 refine Ct.intro Tryz.func54 rfl Tryz.ntmps54 (nle rfl) fun w0=> ?_;dsimp only[argSlots,Nat.reduceAdd]
 repeat(first|(refine st ?_;intros)|refine G.draw [] (h:= ?_))
 (refine Dn.postEnd (Hr:=[]) Tryz.results54 (hR:= ?_);exact⟨rfl,rfl⟩)
theorem RClose_closedB (bw:Nat) (f:Fl) (bb n a kb pos bx:Nat):Cb Tryz.prog 54 [pv bx] [[(bx,row (rdCells bw f bb n a kb pos true) 155)]] (fun v' H'=>v'= .tuple #[]∧H'=[[(bx,row (rdCells bw f bb n a kb pos true) 155)]]):=by
 unfold rdCells
 refine Cb.intro Tryz.func54 rfl Tryz.ntmps54 (nle rfl) fun w0=> ?_;dsimp only[argSlots,Nat.reduceAdd]
 repeat(first|(refine st ?_;intros)|refine G.draw [] (h:= ?_))
 (refine Dn.postEnd (Hr:=[[(bx,row [pv bw,.int .i64 (f.first:Int),.int .i64 (f.blocks:Int),.int .i64 (f.width:Int),.int .i64 (f.count:Int),pv bb,.int .i64 (n:Int),.int .i64 (a:Int),.int .i64 (kb:Int),.int .i64 (pos:Int),.bool true] 155)]]) Tryz.results54 (hR:= ?_);exact⟨rfl,rfl⟩)
theorem RClose_cb (bw bd ba bs:Nat) (α:Ar) (ca:Chunk) (h:IsAr ba α ca) (f:Fl) (n a kb pos bx:Nat) (g:Gr) (Gs:List Gr) (hg:α.gs.Perm (g::Gs)):
  Cb Tryz.prog 54 [pv bx] [wrow bw bd ba bs,ca,[(bx,row (rdCells bw f g.bb n a kb pos false) 155)]] fun v H'=>
   ∃(ca':Chunk) (α':Ar),v= .tuple #[]∧IsAr ba α' ca'∧α'.gs.Perm Gs∧α'.room=α.room∧H'=[wrow bw bd ba bs,ca',[(bx,row (rdCells bw f g.bb n a kb pos true) 155)]]:=by
 have hR:=aRelease ba α ca h g Gs hg
 unfold rdCells wrow
 refine Cb.intro Tryz.func54 rfl Tryz.ntmps54 (nle rfl) fun w0=> ?_;dsimp only[argSlots,Nat.reduceAdd]
 repeat(first|(refine st ?_;intros)|refine G.draw [] (h:= ?_))
 refine R.call (hct:=hR) (h:= ?_)
 rintro _ _ ⟨ca',α',rfl,hA',hgs,hro,rfl⟩
 try dsimp only[List.cons_append,List.nil_append]
 repeat(first|(refine st ?_;intros)|refine G.draw [] (h:= ?_))
 (refine Dn.postEnd (Hr:=[[(bw,row [pv bd,pv ba,pv bs] 101)],ca',[(bx,row [pv bw,.int .i64 (f.first:Int),.int .i64 (f.blocks:Int),.int .i64 (f.width:Int),.int .i64 (f.count:Int),pv g.bb,.int .i64 (n:Int),.int .i64 (a:Int),.int .i64 (kb:Int),.int .i64 (pos:Int),.bool true] 155)]]) Tryz.results54 (hR:= ?_);
  exact⟨ca',α',rfl,hA',hgs,hro,rfl⟩)
theorem RClose_ct (bw bd ba bs:Nat) (α:Ar) (ca:Chunk) (h:IsAr ba α ca) (f:Fl) (n a kb pos bx:Nat) (g:Gr) (Gs:List Gr) (hg:α.gs.Perm (g::Gs)):
  Ct Tryz.prog 54 [pv bx] [wrow bw bd ba bs,ca,[(bx,row (rdCells bw f g.bb n a kb pos false) 155)]] fun v H'=>
   ∃(ca':Chunk) (α':Ar),v= .tuple #[]∧IsAr ba α' ca'∧α'.gs.Perm Gs∧α'.room=α.room∧H'=[wrow bw bd ba bs,ca',[(bx,row (rdCells bw f g.bb n a kb pos true) 155)]]:=(RClose_cb bw bd ba bs α ca h f n a kb pos bx g Gs hg).1
theorem load_ok (bw bd ba bs:Nat) (δ:Dv) (cd c1:Chunk) (h:IsDev bd δ cd) (bx:Nat) (f:Fl) (n a kb pos:Nat) (g:Gr) (hgn:g.n=δ.size) (buf pw:List Int) (hbl:buf.length=δ.size) (m:Nat) (hm:m=min (f.count-pos) (holds δ.size f.width)) (hm1:1≤m)
  (hw1:1≤f.width) (hw5:f.width≤5) (hpos:pos≤f.count) (hcnt:f.count≤100000000) (hpl:pw.length=m*f.width) (hb:f.first+kb<δ.blocks) (hdk:δ.disk (f.first+kb)=some (sealW δ.size ((f.first+kb:Nat):Int) (f.width:Int) pw)) (hf:δ.fault≠0) (hac:δ.acts≤1000000000000):
  Ct Tryz.prog 101 [pv bx] [wrow bw bd ba bs,cd,c1,[g.obj],[(bx,row (rdCells bw f g.bb n a kb pos false) 155)],[(g.br,row (wcells buf) 158)]] fun v H'=>
   ∃cd',v= .int .i64 0∧IsDev bd δ.acted cd'∧H'=[wrow bw bd ba bs,cd',c1,[g.obj],[(bx,row (rdCells bw f g.bb (m*f.width) 0 (kb+1) pos false) 155)],[(g.br,row (wcells (bput buf 0 pw)) 158)]]:=by
 obtain⟨⟨hs1,hs2⟩,hbk,hfr⟩:=h.num
 have hp:=holds_pos hs1 hw1 hw5
 have hmul:m*f.width≤δ.size-2:=by
  have h1:m*f.width≤holds δ.size f.width*f.width:=Nat.mul_le_mul_right _ (by omega)
  exact Nat.le_trans h1 holds_mul
 have hmw:1≤m*f.width:=Nat.mul_pos hm1 hw1
 have hRd:=Read_ok bd δ cd h (f.first+kb) hb hf hac _ hdk
 have hGet:=fun bl cap rest hcap=>Get_ct δ.size (f.first+kb) f.width pw bl cap rest 158 ⟨hs1,hs2⟩ hcap (by omega) (m*f.width) hpl.symm hmw hmul
 have hsl:(sealW δ.size ((f.first+kb:Nat):Int) (f.width:Int) pw).length=δ.size:=sealW_length _ _ _ _ (by omega)
 have hadd:IntKind.wrap .i64 ((f.first:Int)+(kb:Int))=((f.first+kb:Nat):Int):=by rw[←Int.natCast_add];exact wrap_i64 (by omega)
 have hh256:holds δ.size f.width≤256:=Nat.le_trans (Nat.div_le_self _ _) (by omega)
 have hmin:(min ((f.count:Int)-(pos:Int)) ((holds δ.size f.width:Nat):Int))=(m:Int):=by omega
 have hwant:IntKind.wrap .i64 ((min ((f.count:Int)-(pos:Int)) ((holds δ.size f.width:Nat):Int))*(f.width:Int))=((m*f.width:Nat):Int):=by
  rw[hmin,←Int.natCast_mul];exact wrap_i64 (by omega)
 have hcp:Nat.min (m*f.width) δ.size=m*f.width:=Nat.min_eq_left (by omega)
 have hsetL:setL (wcells buf) 0 (wcells pw)=wcells (bput buf 0 pw):=by
  rw[setL_eq _ _ _ (by simp[hbl];omega)]
  simp[bput,wcells,List.map_drop]
 have hpa:=wcells_all pw
 have hpwl:(wcells pw).length=m*f.width:=by rw[wcells_length,hpl]
 have hlt:0+m*f.width≤(wcells buf).length:=by rw[wcells_length,hbl];omega
 have hobj:([g.obj]:Chunk)=[(g.bb,row [.slice (some ⟨g.br,0,none⟩) δ.size δ.size] 161)]:=by unfold Gr.obj;rw[hgn]
 rw[hobj]
 generalize sealW δ.size ((f.first+kb:Nat):Int) (f.width:Int) pw=sw at*
 unfold rdCells wrow
 refine Ct.intro Tryz.func101 rfl Tryz.ntmps101 (nle rfl) fun w0=> ?_;dsimp only[argSlots,Nat.reduceAdd]
 repeat(first|(refine st ?_;intros)|refine G.draw [] (h:= ?_)|refine G.draw (id:=5) [(19,.quiet)] (h:= ?_)|(refine cq hH ?_))
 refine R.call (hct:=hRd) (h:= ?_)
 rintro _ _ ⟨cd',p,cap',c2,rfl,hV,hD',rfl⟩
 try dsimp only[List.cons_append,List.nil_append]
 obtain⟨_,h0|⟨bl,rest,rfl,rfl,hrl,hmc,hcm⟩⟩:=hV
 ·omega
 have hH:CtQ Tryz.prog 97 [pv bw,.int .i64 (f.width:Int)] [[(bw,row [pv bd,pv ba,pv bs] 101)],cd'] (.int .i64 ((holds δ.size f.width:Nat):Int)):=Holds_ct bw bd ba bs δ.acted cd' hD' f.width hw1 hw5
 repeat(first|(refine st ?_;intros)|refine G.draw [] (h:= ?_)|refine G.draw (id:=5) [(19,.quiet)] (h:= ?_)|(refine cq hH ?_))
 refine R.call (hct:=hGet bl cap' rest (by omega)) (h:= ?_)
 rintro _ _ ⟨p2,cap2,c3,rfl,hV2,rfl⟩
 try dsimp only[List.cons_append,List.nil_append]
 obtain⟨_,h0|⟨b2,rest2,rfl,rfl,hrl2,hmc2,hcm2⟩⟩:=hV2
 ·omega
 have hdp:((wcells pw++rest2).drop 0).take (m*f.width)=wcells pw:=take_at0 hpwl
 repeat(first|(refine st ?_;intros)|refine G.draw [] (h:= ?_)|refine G.draw (id:=5) [(19,.quiet)] (h:= ?_)|(refine cq hH ?_))
 (refine Dn.post (Hr:=[[(bw,row [pv bd,pv ba,pv bs] 101)],cd',c1,[(g.bb,row [.slice (some ⟨g.br,0,none⟩) δ.size δ.size] 161)],[(bx,row [pv bw,.int .i64 (f.first:Int),.int .i64 (f.blocks:Int),.int .i64 (f.width:Int),.int .i64 (f.count:Int),pv g.bb,.int .i64 ((m*f.width:Nat):Int),.int .i64 ((0:Nat):Int),.int .i64 ((kb+1:Nat):Int),.int .i64 (pos:Int),.bool false] 155)],[(g.br,row (wcells (bput buf 0 pw)) 158)]]) Tryz.results101 (hR:= ?_);
  exact⟨cd',rfl,hD',rfl⟩)
structure RdB (size k count kb:Nat) (ts:List T5) (pos:Nat) (buf:List Int) (n a:Nat):Prop where
 posc:pos≤count
 tsl:ts.length=count
 na:a+(min count (kb*holds size k)-pos)*k=n
 ns:n≤size-2
 bl:buf.length=size
 bw:(buf.drop a).take ((min count (kb*holds size k)-pos)*k)=words k ((ts.drop pos).take (min count (kb*holds size k)-pos))
def RdOk (size k count:Nat) (ts:List T5) (pos:Nat) (buf:List Int) (n a:Nat):Prop:=RdB size k count (nblocks size k pos) ts pos buf n a
theorem nblocks_zero {s k:Nat} (h:1≤holds s k):nblocks s k 0=0:=by
 unfold nblocks;rw[Nat.zero_add,Nat.div_eq_of_lt (by omega)]
theorem RdOk.start {size k count:Nat} {ts:List T5} (hs:1≤holds size k) (ht:ts.length=count):RdOk size k count ts 0 (List.replicate size 0) 0 0:=by
 unfold RdOk
 rw[nblocks_zero hs]
 exact⟨Nat.zero_le _,ht,by simp,Nat.zero_le _,by simp,by simp⟩
theorem nblocks_in {s k pos:Nat} (hh:1≤holds s k) (hlt:pos<nblocks s k pos*holds s k):nblocks s k (pos+1)=nblocks s k pos:=by
 have h1:nblocks s k pos≤nblocks s k (pos+1):=nblocks_mono (by omega)
 refine Nat.le_antisymm ?_ h1
 generalize nblocks s k pos=q at hlt
 unfold nblocks
 generalize holds s k=h at*
 have h2:pos+1+h-1<(q+1)*h:=by rw[Nat.succ_mul];omega
 have:=(Nat.div_lt_iff_lt_mul (by omega)).2 h2
 omega
theorem nblocks_at {s k pos q:Nat} (hh:1≤holds s k) (he:pos=q*holds s k):nblocks s k (pos+1)=q+1:=by
 unfold nblocks
 generalize holds s k=h at*
 have:pos+1+h-1=(q+1)*h:=by rw[Nat.succ_mul];omega
 rw[this,Nat.mul_div_cancel _ (by omega)]
theorem nblocks_ge {s k pos:Nat} (hh:1≤holds s k):pos≤nblocks s k pos*holds s k:=by
 unfold nblocks
 generalize holds s k=h at*
 have e:=Nat.div_add_mod (pos+h-1) h
 have h2:=Nat.mod_lt (pos+h-1) (show 0<h by omega)
 rw[Nat.mul_comm] at e
 omega
theorem RdB.get {size k count kb:Nat} {ts:List T5} {pos:Nat} {buf:List Int} {n a:Nat} (h:RdB size k count kb ts pos buf n a) (hk:k≤5) (hlt:pos<min count (kb*holds size k)) {t:T5} (ht:ts[pos]? =some t) (i:Nat) (hi:i<k):buf[a+i]? =some (wd (t.col i)):=by
 have hm:i<(min count (kb*holds size k)-pos)*k:=Nat.lt_of_lt_of_le hi (Nat.le_mul_of_pos_left k (by omega))
 have h1:=congrArg (·[i]?) h.bw
 simp only[List.getElem?_take,hm,if_true,List.getElem?_drop] at h1
 rw[h1]
 have hlen:pos<ts.length:=(List.getElem?_eq_some_iff.1 ht).1
 have e:ts.drop pos=t::ts.drop (pos+1):=by rw[List.drop_eq_getElem_cons hlen,(List.getElem?_eq_some_iff.1 ht).2]
 obtain⟨q,hq⟩:∃q,min count (kb*holds size k)-pos=q+1:=⟨min count (kb*holds size k)-pos-1,by omega⟩
 rw[e,hq,List.take_succ_cons]
 simp only[words,List.flatMap_cons]
 rw[List.getElem?_append_left (by rw[tw_length t hk];exact hi)]
 exact tw_get t k i hi hk
theorem RdB.step {size k count kb:Nat} {ts:List T5} {pos:Nat} {buf:List Int} {n a:Nat} (h:RdB size k count kb ts pos buf n a) (hk:k≤5) (hlt:pos<min count (kb*holds size k)):RdB size k count kb ts (pos+1) buf n (a+k):=by
 obtain⟨q,hq⟩:∃q,min count (kb*holds size k)-pos=q+1:=⟨min count (kb*holds size k)-pos-1,by omega⟩
 have hq2:min count (kb*holds size k)-(pos+1)=q:=by omega
 refine⟨by omega,h.tsl,?_,h.ns,h.bl,?_⟩
 ·rw[hq2];have:=h.na;rw[hq,Nat.succ_mul] at this;omega
 ·rw[hq2]
  have h1:=h.bw
  rw[hq] at h1
  have hlen:pos<ts.length:=by have:=h.tsl;omega
  have e:ts.drop pos=ts[pos]::ts.drop (pos+1):=List.drop_eq_getElem_cons hlen
  rw[e,List.take_succ_cons] at h1
  simp only[words,List.flatMap_cons] at h1⊢
  have h2:=congrArg (List.drop k) h1
  rw[List.drop_left' (tw_length _ hk),List.drop_take,List.drop_drop] at h2
  rw[←h2,Nat.succ_mul,Nat.add_sub_cancel]
theorem RdB.load {size k count kb:Nat} {ts:List T5} {pos:Nat} {buf:List Int} {n a m:Nat} (h:RdB size k count kb ts pos buf n a) (hk:k≤5) (he:pos=kb*holds size k) (hm:m=min (count-pos) (holds size k)):
  RdB size k count (kb+1) ts pos (bput buf 0 (words k ((ts.drop (kb*holds size k)).take (holds size k)))) (m*k) 0∧(words k ((ts.drop (kb*holds size k)).take (holds size k))).length=m*k:=by
 have hl:((ts.drop (kb*holds size k)).take (holds size k)).length=m:=by rw[List.length_take,List.length_drop,h.tsl,←he,hm,Nat.min_comm]
 have hwl:(words k ((ts.drop (kb*holds size k)).take (holds size k))).length=m*k:=by rw[words_length hk,hl]
 have hmk:m*k≤size-2:=Nat.le_trans (Nat.mul_le_mul_right _ (by omega)) holds_mul
 have hmm:min count ((kb+1)*holds size k)-pos=m:=by rw[Nat.succ_mul];have:=h.posc;omega
 refine⟨⟨h.posc,h.tsl,by rw[hmm];omega,hmk,by rw[bput_length (by rw[hwl,h.bl];omega),h.bl],?_⟩,hwl⟩
 rw[hmm]
 unfold bput
 rw[List.take_zero,List.nil_append,List.drop_zero,List.take_append_of_le_length (by omega),List.take_of_length_le (by omega),he]
 congr 1
 rw[List.take_eq_take_iff]
 simp only[List.length_drop,h.tsl]
 omega
theorem load_fault (bw bd ba bs:Nat) (δ:Dv) (cd:Chunk) (h:IsDev bd δ cd) (bx:Nat) (f:Fl) (n a kb pos bb:Nat) (hb:f.first+kb<δ.blocks) (hf:δ.fault=0):
  Ct Tryz.prog 101 [pv bx] [wrow bw bd ba bs,cd,[(bx,row (rdCells bw f bb n a kb pos false) 155)]] fun v H'=>
   ∃cd',v= .int .i64 6∧IsDev bd δ.failed cd'∧H'=[wrow bw bd ba bs,cd',[(bx,row (rdCells bw f bb n a kb pos false) 155)]]:=by
 obtain⟨⟨hs1,hs2⟩,hbk,hfr⟩:=h.num
 have hRd:=Read_fault bd δ cd h (f.first+kb) hb hf
 have hadd:IntKind.wrap .i64 ((f.first:Int)+(kb:Int))=((f.first+kb:Nat):Int):=by rw[←Int.natCast_add];exact wrap_i64 (by omega)
 unfold rdCells wrow
 refine Ct.intro Tryz.func101 rfl Tryz.ntmps101 (nle rfl) fun w0=> ?_;dsimp only[argSlots,Nat.reduceAdd]
 repeat(first|(refine st ?_;intros)|refine G.draw [] (h:= ?_)|refine G.drawOrd (id:=5) [0,1,2,3,4,5,6,7,8,9,10,11,12,13,14,15,16,17,18,21,22,23,24,25,19,20,26,27] [(19,.eff [4,8,25])] (h:= ?_))
 refine R.call (hct:=hRd) (h:= ?_)
 rintro _ _ ⟨cd',rfl,hD',rfl⟩
 try dsimp only[List.cons_append,List.nil_append]
 repeat(first|(refine st ?_;intros)|refine G.draw [] (h:= ?_)|refine G.drawOrd (id:=5) [0,1,2,3,4,5,6,7,8,9,10,11,12,13,14,15,16,17,18,21,22,23,24,25,19,20,26,27] [(19,.eff [4,8,25])] (h:= ?_))
 (refine Dn.post (Hr:=[[(bw,row [pv bd,pv ba,pv bs] 101)],cd',[(bx,row [pv bw,.int .i64 (f.first:Int),.int .i64 (f.blocks:Int),.int .i64 (f.width:Int),.int .i64 (f.count:Int),pv bb,.int .i64 (n:Int),.int .i64 (a:Int),.int .i64 (kb:Int),.int .i64 (pos:Int),.bool false] 155)]]) Tryz.results101 (hR:= ?_);
  exact⟨cd',rfl,hD',rfl⟩)
def T5.zero:T5:=⟨0,0,0,0,0⟩
theorem Next_end (bw bx:Nat) (f:Fl) (bb n a kb:Nat):CtQ Tryz.prog 55 [pv bx] [[(bx,row (rdCells bw f bb n a kb f.count false) 155)]] (.tuple #[tv T5.zero,.bool false,.int .i64 0]):=by
 unfold rdCells
 refine Ct.intro Tryz.func55 rfl Tryz.ntmps55 (nle rfl) fun w0=> ?_;dsimp only[argSlots,Nat.reduceAdd]
 repeat(first|(refine st ?_;intros)|refine G.draw [] (h:= ?_))
 (refine Dn.post (Hr:=[[(bx,row [pv bw,.int .i64 (f.first:Int),.int .i64 (f.blocks:Int),.int .i64 (f.width:Int),.int .i64 (f.count:Int),pv bb,.int .i64 (n:Int),.int .i64 (a:Int),.int .i64 (kb:Int),.int .i64 (f.count:Int),.bool false] 155)]]) Tryz.results55 (hR:= ?_);exact⟨rfl,rfl⟩)
def tpart (t:T5) (i:Nat):List Value:=(tcells t).take i++List.replicate (5-i) (.int .i64 0)
theorem tpart_set (t:T5) (i:Nat) (h:i<5):(tpart t i).set i (.int .i64 (t.col i))=tpart t (i+1):=by
 match i,h with
 |0,_=>rfl
 |1,_=>rfl
 |2,_=>rfl
 |3,_=>rfl
 |4,_=>rfl
theorem tpart_all (t:T5) (k:Nat) (h:k≤5) (ht:okT k t):tpart t k=tcells t:=by
 obtain⟨_,h2⟩:=ht
 match k,h,h2 with
 |0,_,h2=>
  have:=h2 0 (by omega);have:=h2 1 (by omega);have:=h2 2 (by omega);have:=h2 3 (by omega);have:=h2 4 (by omega)
  simp_all [tpart,tcells,T5.col]
 |1,_,h2=>
  have:=h2 1 (by omega);have:=h2 2 (by omega);have:=h2 3 (by omega);have:=h2 4 (by omega)
  simp_all [tpart,tcells,T5.col]
 |2,_,h2=>
  have:=h2 2 (by omega);have:=h2 3 (by omega);have:=h2 4 (by omega)
  simp_all [tpart,tcells,T5.col]
 |3,_,h2=>
  have:=h2 3 (by omega);have:=h2 4 (by omega)
  simp_all [tpart,tcells,T5.col]
 |4,_,h2=>
  have:=h2 4 (by omega)
  simp_all [tpart,tcells,T5.col]
 |5,_,_=>rfl
theorem tpart_zero (t:T5):tpart t 0=[.int .i64 0,.int .i64 0,.int .i64 0,.int .i64 0,.int .i64 0]:=rfl
theorem tpart_length (t:T5) (i:Nat) (h:i≤5):(tpart t i).length=5:=by simp[tpart,tcells];omega
theorem okT_col {k:Nat} {t:T5} (h:okT k t) (i:Nat) (hi:i<5):inI64 (t.col i):=by
 obtain⟨h1,_⟩:=h
 apply h1
 match i,hi with
 |0,_=>simp[T5.toList,T5.col]
 |1,_=>simp[T5.toList,T5.col]
 |2,_=>simp[T5.toList,T5.col]
 |3,_=>simp[T5.toList,T5.col]
 |4,_=>simp[T5.toList,T5.col]
def NextOk (bw bd ba bs bx:Nat) (W:Wk) (ca cs:Chunk) (f:Fl) (ts:List T5) (g:Gr) (pos:Nat) (t:T5) (v:Value) (H':Hp):Prop:=
 ∃(cd ca':Chunk) (δ':Dv) (buf':List Int) (n a:Nat),v= .tuple #[tv t,.bool true,.int .i64 0]∧
  H'=[wrow bw bd ba bs,cd,ca',cs,[(bx,row (rdCells bw f g.bb n a (nblocks W.δ.size f.width (pos+1)) (pos+1) false) 155)],[(g.br,row (wcells buf') 158)]]∧ca'.Perm ca∧
  IsDev bd δ' cd∧δ'.size=W.δ.size∧δ'.blocks=W.δ.blocks∧(W.δ.fault= -1→δ'.fault= -1)∧δ'.acts=W.δ.acts+(nblocks W.δ.size f.width (pos+1)-nblocks W.δ.size f.width pos)∧δ'.disk=W.δ.disk∧
  RdOk W.δ.size f.width f.count ts (pos+1) buf' n a
def NextNo (bw bd ba bs bx:Nat) (W:Wk) (Gs:List Gr) (cs:Chunk) (f:Fl) (g:Gr) (cb:Chunk) (v:Value) (H':Hp):Prop:=
 v= .tuple #[tv T5.zero,.bool false,.int .i64 6]∧W.δ.fault=0∧∃(cd ca:Chunk) (α':Ar) (n a kb pos:Nat),H'=[wrow bw bd ba bs,cd,ca,cs,[(bx,row (rdCells bw f g.bb n a kb pos true) 155)],cb]∧
  IsDev bd W.δ.failed cd∧IsAr ba α' ca∧α'.gs.Perm Gs∧α'.room=W.α.room
theorem Next_walk (bw bd ba bs:Nat) (W:Wk) (cd ca cs:Chunk) (h:Wc bd ba bs W cd ca cs) (bx:Nat) (f:Fl) (ts:List T5) (Lv:List Ext) (hfo:FileOk W.δ.disk W.δ.size Lv f ts) (hsub:∀e∈Lv,e∈W.live) (g:Gr) (Gs:List Gr) (hg:W.α.gs.Perm (g::Gs)) (hgn:g.n=W.δ.size)
  (pos n a:Nat) (buf:List Int) (ho:RdOk W.δ.size f.width f.count ts pos buf n a) (hlt:pos<f.count) (t:T5) (ht:ts[pos]? =some t) (hac:W.δ.acts≤1000000000000):
  Ct Tryz.prog 55 [pv bx] [wrow bw bd ba bs,cd,ca,cs,[(bx,row (rdCells bw f g.bb n a (nblocks W.δ.size f.width pos) pos false) 155)],[(g.br,row (wcells buf) 158)]] fun v H'=>
   NextOk bw bd ba bs bx W ca cs f ts g pos t v H'∨NextNo bw bd ba bs bx W Gs cs f g [(g.br,row (wcells buf) 158)] v H':=by
 obtain⟨⟨hs1,hs2⟩,hbk,hfr⟩:=h.dev.num
 obtain⟨c1,hc1⟩:=h.ar.open_ (hg.mem_iff.2 List.mem_cons_self)
 have hk1:=hfo.w1
 have hk5:=hfo.w2
 have hcnt:=hfo.cnt
 have hp:=holds_pos hs1 hk1 hk5
 have hobj:([g.obj]:Chunk)=[(g.bb,row [.slice (some ⟨g.br,0,none⟩) W.δ.size W.δ.size] 161)]:=by unfold Gr.obj;rw[hgn]
 have hokt:okT f.width t:=hfo.fit t (List.mem_of_getElem? ht)
 have hge:=nblocks_ge (s:=W.δ.size) (k:=f.width) (pos:=pos) hp
 have hless:W.δ.fault= -1→less W.δ.fault= -1:=fun e=>by unfold less;rw[e];rfl
 have hblk:f.first+nblocks W.δ.size f.width pos<W.δ.blocks∨f.blocks≤nblocks W.δ.size f.width pos:=by
  by_cases hb:f.blocks≤nblocks W.δ.size f.width pos
  ·exact .inr hb
  ·have:=h.live.fit _ (hsub _ (hfo.live (by omega)))
   simp only[Fl.ext] at this
   left;rw[h.nn];omega
 have hback:∀i,i<f.width→IntKind.wrap .i64 (wd (t.col i))=t.col i:=fun i hi=>wrap_back (okT_col hokt i (by omega))
 generalize hkb:nblocks W.δ.size f.width pos=kb at*
 have hpres:(([wrow bw bd ba bs,cd,ca,cs,[(bx,row (rdCells bw f g.bb n a kb pos false) 155)],[(g.br,row (wcells buf) 158)]]:Hp).flatten).Perm
   (([wrow bw bd ba bs,cd,c1,[g.obj],cs,[(bx,row (rdCells bw f g.bb n a kb pos false) 155)],[(g.br,row (wcells buf) 158)]]:Hp).flatten):=by
  simp only[List.flatten_cons,List.flatten_nil,List.append_nil,List.append_assoc]
  refine List.Perm.append_left _ (List.Perm.append_left _ ?_)
  rw[←List.append_assoc c1]
  exact List.Perm.append_right _ hc1
 unfold RdOk at ho
 rw[hkb] at ho
 have htz:=tpart_zero t
 have htp:=tpart_length t
 have htset:=tpart_set t
 have htall:=tpart_all t f.width hk5 hokt
 by_cases hfull:pos<min f.count (kb*holds W.δ.size f.width)
 ·
  have hstep:=ho.step hk5 hfull
  have hget:=ho.get hk5 hfull ht
  have hna:=ho.na
  have hns:=ho.ns
  have hbl:=ho.bl
  have hmk:f.width≤(min f.count (kb*holds W.δ.size f.width)-pos)*f.width:=Nat.le_mul_of_pos_left _ (by omega)
  have hnb1:nblocks W.δ.size f.width (pos+1)=kb:=by rw[←hkb];exact nblocks_in hp (by rw[hkb];omega)
  refine Ct.convP (H2:=[wrow bw bd ba bs,cd,c1,[g.obj],cs,[(bx,row (rdCells bw f g.bb n a kb pos false) 155)],[(g.br,row (wcells buf) 158)]])
   (R2:=fun v H'=>v= .tuple #[tv t,.bool true,.int .i64 0]∧H'=[wrow bw bd ba bs,cd,c1,[g.obj],cs,[(bx,row (rdCells bw f g.bb n (a+f.width) kb (pos+1) false) 155)],[(g.br,row (wcells buf) 158)]]) ?_ hpres ?_
  ·rw[hobj]
   unfold rdCells wrow
   have hne:¬((a:Int)=(n:Int)):=by omega
   refine Ct.intro Tryz.func55 rfl Tryz.ntmps55 (nle rfl) fun w0=> ?_;dsimp only[argSlots,Nat.reduceAdd]
   repeat(first|(refine st ?_;intros)|refine G.draw [] (h:= ?_))
   rename_i b2 b5
   refine G.loop (X:=Nat) (fun i=>i≤f.width) (fun i=>[(52,.int .i64 (i:Int)),(51,.int .i64 (f.width:Int)),(0,pv bx),(5,.pointer (some ⟨b5,0,none⟩)),(2,.pointer (some ⟨b2,0,none⟩))])
    (fun i=>[[(b2,row (tpart t 0) 49)],[(b5,row (tpart t i) 49)],[(bw,row [pv bd,pv ba,pv bs] 101)],cd,c1,[(g.bb,row [.slice (some ⟨g.br,0,none⟩) W.δ.size W.δ.size] 161)],cs,
     [(bx,row [pv bw,.int .i64 (f.first:Int),.int .i64 (f.blocks:Int),.int .i64 (f.width:Int),.int .i64 (f.count:Int),pv g.bb,.int .i64 ((n:Nat):Int),.int .i64 ((a:Nat):Int),.int .i64 ((kb:Nat):Int),.int .i64 (pos:Int),.bool false] 155)],[(g.br,row (wcells buf) 158)]])
    (fun i=>f.width-i) 0 (by omega) (body:= ?_)
   intro i hi
   by_cases hik:i<f.width
   ·have hgi:(wcells buf)[a+i]? =some (.int .u64 (wd (t.col i))):=by
     unfold wcells;rw[List.getElem?_map,hget i hik];rfl
    have hbi:=hback i hik
    have hti:=htset i (by omega)
    have htl:=htp i (by omega)
    have hai:(((a:Nat):Int)+(i:Int)).toNat=a+i:=by omega
    repeat(first|(refine st ?_;intros)|refine G.draw [] (h:= ?_))
    exact Dn.round (i+1) (by omega) (by omega)
   ·have hki:f.width=i:=by omega
    subst hki
    rw[htall,htz]
    unfold tcells
    repeat(first|(refine st ?_;intros)|refine G.draw [] (h:= ?_))
    (refine Dn.post (Hr:=[[(bw,row [pv bd,pv ba,pv bs] 101)],cd,c1,[(g.bb,row [.slice (some ⟨g.br,0,none⟩) W.δ.size W.δ.size] 161)],cs,[(bx,row [pv bw,.int .i64 (f.first:Int),.int .i64 (f.blocks:Int),.int .i64 (f.width:Int),.int .i64 (f.count:Int),pv g.bb,.int .i64 ((n:Nat):Int),.int .i64 ((a+f.width:Nat):Int),.int .i64 ((kb:Nat):Int),.int .i64 ((pos+1:Nat):Int),.bool false] 155)],[(g.br,row (wcells buf) 158)]]) Tryz.results55 (hR:= ?_);
     exact⟨rfl,rfl⟩)
  ·rintro v H' ⟨rfl,rfl⟩
   refine⟨_,.inl ⟨cd,c1++[g.obj],W.δ,buf,n,a+f.width,rfl,rfl,hc1.symm,h.dev,rfl,rfl,id,?_,rfl,?_⟩,?_⟩
   ·rw[hnb1,hkb];omega
   ·unfold RdOk;rw[hnb1];exact hstep
   ·rw[hnb1];simp
 ·have hposk:pos=kb*holds W.δ.size f.width:=by omega
  have hkbb:kb<f.blocks:=by
   have h1:nblocks W.δ.size f.width (pos+1)=kb+1:=nblocks_at hp hposk
   have h2:=nblocks_mono (s:=W.δ.size) (k:=f.width) (show pos+1≤f.count by omega)
   rw[hfo.blk];omega
  have hbx:f.first+kb<W.δ.blocks:=by omega
  have hdk:=hfo.onto kb hkbb
  have hnb1:nblocks W.δ.size f.width (pos+1)=kb+1:=nblocks_at hp hposk
  have hna:a=n:=by
   have:=ho.na
   rw[show min f.count (kb*holds W.δ.size f.width)-pos=0 by omega] at this
   omega
  subst hna
  obtain⟨m,hm⟩:∃m,m=min (f.count-pos) (holds W.δ.size f.width):=⟨_,rfl⟩
  obtain⟨hmid,hpl⟩:=ho.load hk5 hposk hm
  by_cases hf:W.δ.fault=0
  ·have hLf:=load_fault bw bd ba bs W.δ cd h.dev bx f a a kb pos g.bb hbx hf
   have hRc:=RClose_ct bw bd ba bs W.α ca h.ar f a a kb pos bx g Gs hg
   refine Ct.mono (R:=fun v H'=>NextNo bw bd ba bs bx W Gs cs f g [(g.br,row (wcells buf) 158)] v H') ?_ (fun _ _ h=> .inr h)
   unfold rdCells wrow at*
   refine Ct.intro Tryz.func55 rfl Tryz.ntmps55 (nle rfl) fun w0=> ?_;dsimp only[argSlots,Nat.reduceAdd]
   repeat(first|(refine st ?_;intros)|refine G.draw [] (h:= ?_))
   refine R.call (hct:=hLf) (h:= ?_)
   rintro _ _ ⟨cd',rfl,hD',rfl⟩
   try dsimp only[List.cons_append,List.nil_append]
   repeat(first|(refine st ?_;intros)|refine G.draw [] (h:= ?_))
   refine R.call (hct:=hRc) (h:= ?_)
   rintro _ _ ⟨ca',α',rfl,hA',hgs,hro,rfl⟩
   try dsimp only[List.cons_append,List.nil_append]
   repeat(first|(refine st ?_;intros)|refine G.draw [] (h:= ?_))
   (refine Dn.post (Hr:=[[(bw,row [pv bd,pv ba,pv bs] 101)],cd',ca',cs,[(bx,row [pv bw,.int .i64 (f.first:Int),.int .i64 (f.blocks:Int),.int .i64 (f.width:Int),.int .i64 (f.count:Int),pv g.bb,.int .i64 (a:Int),.int .i64 (a:Int),.int .i64 (kb:Int),.int .i64 (pos:Int),.bool true] 155)],[(g.br,row (wcells buf) 158)]]) Tryz.results55 (hR:= ?_);
    exact⟨rfl,hf,cd',ca',α',a,a,kb,pos,rfl,hD',hA',hgs,hro⟩)
  ·have hLo:=load_ok bw bd ba bs W.δ cd c1 h.dev bx f a a kb pos g hgn buf _ ho.bl m hm (by omega) hk1 hk5 ho.posc hcnt hpl hbx hdk hf hac
   have hlt2:pos<min f.count ((kb+1)*holds W.δ.size f.width):=by rw[Nat.succ_mul];omega
   generalize hbuf:bput buf 0 (words f.width ((ts.drop (kb*holds W.δ.size f.width)).take (holds W.δ.size f.width)))=buf' at*
   have hstep:=hmid.step hk5 hlt2
   have hget:=hmid.get hk5 hlt2 ht
   have hns:=hmid.ns
   have hbl:=hmid.bl
   have hmk:f.width≤m*f.width:=Nat.le_mul_of_pos_left _ (by omega)
   refine Ct.convP (H2:=[wrow bw bd ba bs,cd,c1,[g.obj],cs,[(bx,row (rdCells bw f g.bb a a kb pos false) 155)],[(g.br,row (wcells buf) 158)]])
    (R2:=fun v H'=>v= .tuple #[tv t,.bool true,.int .i64 0]∧∃cd',IsDev bd W.δ.acted cd'∧H'=[wrow bw bd ba bs,cd',c1,[g.obj],cs,[(bx,row (rdCells bw f g.bb (m*f.width) (0+f.width) (kb+1) (pos+1) false) 155)],[(g.br,row (wcells buf') 158)]]) ?_ hpres ?_
   ·rw[hobj] at*
    unfold rdCells wrow at*
    refine Ct.intro Tryz.func55 rfl Tryz.ntmps55 (nle rfl) fun w0=> ?_;dsimp only[argSlots,Nat.reduceAdd]
    repeat(first|(refine st ?_;intros)|refine G.draw [] (h:= ?_))
    refine R.call (hct:=hLo) (h:= ?_)
    rintro _ _ ⟨cd',rfl,hD',rfl⟩
    try dsimp only[List.cons_append,List.nil_append]
    repeat(first|(refine st ?_;intros)|refine G.draw [] (h:= ?_))
    rename_i b2 b5
    refine G.loop (X:=Nat) (fun i=>i≤f.width) (fun i=>[(52,.int .i64 (i:Int)),(51,.int .i64 (f.width:Int)),(0,pv bx),(5,.pointer (some ⟨b5,0,none⟩)),(2,.pointer (some ⟨b2,0,none⟩))])
     (fun i=>[[(b2,row (tpart t 0) 49)],[(b5,row (tpart t i) 49)],[(bw,row [pv bd,pv ba,pv bs] 101)],cd',c1,[(g.bb,row [.slice (some ⟨g.br,0,none⟩) W.δ.size W.δ.size] 161)],cs,
      [(bx,row [pv bw,.int .i64 (f.first:Int),.int .i64 (f.blocks:Int),.int .i64 (f.width:Int),.int .i64 (f.count:Int),pv g.bb,.int .i64 ((m*f.width:Nat):Int),.int .i64 ((0:Nat):Int),.int .i64 ((kb+1:Nat):Int),.int .i64 (pos:Int),.bool false] 155)],[(g.br,row (wcells buf') 158)]])
     (fun i=>f.width-i) 0 (by omega) (body:= ?_)
    intro i hi
    by_cases hik:i<f.width
    ·have hgi:(wcells buf')[0+i]? =some (.int .u64 (wd (t.col i))):=by
      unfold wcells;rw[List.getElem?_map,hget i hik];rfl
     have hbi:=hback i hik
     have hti:=htset i (by omega)
     have htl:=htp i (by omega)
     have hai:(((0:Nat):Int)+(i:Int)).toNat=0+i:=by omega
     repeat(first|(refine st ?_;intros)|refine G.draw [] (h:= ?_))
     exact Dn.round (i+1) (by omega) (by omega)
    ·have hki:f.width=i:=by omega
     subst hki
     rw[htall,htz]
     unfold tcells
     repeat(first|(refine st ?_;intros)|refine G.draw [] (h:= ?_))
     (refine Dn.post (Hr:=[[(bw,row [pv bd,pv ba,pv bs] 101)],cd',c1,[(g.bb,row [.slice (some ⟨g.br,0,none⟩) W.δ.size W.δ.size] 161)],cs,[(bx,row [pv bw,.int .i64 (f.first:Int),.int .i64 (f.blocks:Int),.int .i64 (f.width:Int),.int .i64 (f.count:Int),pv g.bb,.int .i64 ((m*f.width:Nat):Int),.int .i64 ((0+f.width:Nat):Int),.int .i64 ((kb+1:Nat):Int),.int .i64 ((pos+1:Nat):Int),.bool false] 155)],[(g.br,row (wcells buf') 158)]]) Tryz.results55 (hR:= ?_);
      exact⟨rfl,cd',hD',rfl⟩)
   ·rintro v H' ⟨rfl,cd',hD',rfl⟩
    refine⟨_,.inl ⟨cd',c1++[g.obj],W.δ.acted,buf',m*f.width,0+f.width,rfl,rfl,hc1.symm,hD',rfl,rfl,hless,?_,rfl,?_⟩,?_⟩
    ·rw[hnb1,hkb,Nat.add_sub_cancel_left];rfl
    ·unfold RdOk;rw[hnb1];exact hstep
    ·rw[hnb1];simp
end Go.Proofs.YtammjnjpheobaaaGreat
