/-
  Parts of the proof, put together (5). No condition.
-/
import Derived.Test.YtammjnjpheobaaaGreatL4
set_option linter.unusedVariables false
set_option linter.unusedSimpArgs false
set_option linter.unnecessarySimpa false
set_option maxHeartbeats 4000000
open Go.IntKind renaming wrap→AH
open Go.Proofs.Tryz renaming prog→AC
open Int renaming natCast_add→CY
open List renaming cons_append→AA,nil_append→AB,getElem?_eq_getElem→AE,length_append→AF,mem_cons_self→AI,getElem?_eq_some_iff→AK,mem_cons→AM,getD_eq_getElem?_getD→AN,append_assoc→AR,take_of_length_le→A4,flatMap_cons→A6,getElem?_append_left→A7,pairwise_cons→BH,length_take→BK,drop_eq_getElem_cons→BM,take_add_one→BN,getElem?_map→BP,take_append_drop→BT,replicate→BW,perm_middle→B0,getElem_mem→B4,length_drop→CE,take_length→D9
open List.Perm renaming append_left→BJ,append_right→CZ
open Nat renaming reduceAdd→AD,le_refl→AG,zero_le→AS,mul_le_mul_right→A5,le_trans→BA,succ_mul→BD,zero_add→BR,div_le_div_right→BY,div_le_self→CU,sub_self→DF,le_mul_of_pos_left→DR,mul_comm→EC
open Option.some renaming injEq→A9
namespace Go.Proofs.YtammjnjpheobaaaGreat
open Go.SL Go.Spc Go.Tup
theorem aAk {s k a b:Nat} (h:a≤b):aAb s k a≤aAb s k b:=BY (by omega)
theorem bAy {s k p:Nat} (hh:1≤aAf s k):(p%aAf s k=0→aAb s k p=p/aAf s k)∧(p%aAf s k≠0→aAb s k p=p/aAf s k+1):=by
 unfold aAb
 generalize aAf s k=h at*
 have e:=Nat.div_add_mod p h
 have h2:=Nat.mod_lt p (show 0<h by omega)
 generalize p/h=q at*
 generalize p%h=r at*
 constructor
 ·intro h0
  have:p+h-1=(h-1)+h*q:=by omega
  rw[this,Nat.add_mul_div_left _ _ (by omega),Nat.div_eq_of_lt (by omega),BR]
 ·intro h0
  have:p+h-1=(r-1)+h*(q+1):=by rw[Nat.mul_succ];omega
  rw[this,Nat.add_mul_div_left _ _ (by omega),Nat.div_eq_of_lt (by omega),BR]
theorem aWe.last {d:Nat→Option (List Int)} {size k nb bound first:Nat} {ps:List T5} {buf:List Int} (h:aWe d size k nb bound first ps buf) (hh:1≤aAf size k):
  bMe (aHz d (first+ps.length/aAf size k) (aDd size ((first+ps.length/aAf size k:Nat):Int) (k:Int) (buf.take ((ps.length%aAf size k)*k)))) size k (aAf size k) first ps (ps.length/aAf size k+1):=by
 have em:=Nat.div_mul_le_self ps.length (aAf size k)
 have edm:=Nat.div_add_mod ps.length (aAf size k)
 intro j hj
 by_cases hj2:j=ps.length/aAf size k
 ·subst hj2
  simp only[aHz,if_true]
  rw[h.bufw,A4]
  rw[CE,EC]
  have:=Nat.mod_lt ps.length (show 0<aAf size k by omega)
  omega
 ·have:¬(first+j=first+ps.length/aAf size k):=by omega
  simp only[aHz,this,if_false]
  exact h.onto j (by omega)
theorem aQg {σ:Sp} {l:List Ext} {f m a:Nat} (h:aTw σ ((f,m)::l)) (h0:0<a) (h1:a<m):aTw σ ((f+a,m-a)::(f,a)::l):=by
 obtain⟨hf,ha⟩:=BH.1 h.apart
 have hm:=h.fit _ AI
 dsimp only at hm hf
 refine⟨?_,?_,?_,?_⟩
 ·intro e he
  simp only[AM] at he
  rcases he with rfl|rfl|he
  ·dsimp only;omega
  ·dsimp only;omega
  ·exact h.fit e (List.mem_cons_of_mem _ he)
 ·refine BH.2 ⟨fun e he=> ?_,BH.2 ⟨fun e he=> ?_,ha⟩⟩
  ·rcases AM.1 he with rfl|he
   ·dsimp only;omega
   ·have:=hf e he;dsimp only;omega
  ·have:=hf e he;dsimp only;omega
 ·intro x hx
  rw[h.free x hx,aDk,aDk,aDk]
  dsimp only
  constructor
  ·rintro hh (c|c|c)
   ·exact hh (.inl (by omega))
   ·exact hh (.inl (by omega))
   ·exact hh (.inr c)
  ·rintro hh (c|c)
   ·by_cases hxa:x<f+a
    ·exact hh (.inr (.inl (by omega)))
    ·exact hh (.inl (by omega))
   ·exact hh (.inr (.inr c))
 ·have:=h.sum
  simp only[aJa] at this⊢
  omega
def bMg (bw bd ba bs bx:Nat) (W:Wk) (Gs:List Gr) (Lv:List Ext) (first nb k bound:Nat) (g:Gr) (ps:List T5) (cb:aAc) (v:Value) (H':Hp):Prop:=
 ∃(cd ca cs:aAc) (W':Wk) (f:Fl) (n:Nat),v= .tuple #[flv f,.int .i64 0]∧H'=[aAh bw bd ba bs,cd,ca,cs,[(bx,row (aAu bw f.first f.blocks k ps.length bound g.bb n f.blocks true) 178)],cb]∧
  Wc bd ba bs W' cd ca cs∧Ev W W' 1 0∧W'.δ.acts=W.δ.acts+(aAb W.δ.size k ps.length-ps.length/aAf W.δ.size k)∧W'.α.gs.Perm Gs∧W'.live=(if f.blocks=0 then Lv else f.ext::Lv)∧
  f.width=k∧f.count=ps.length∧f.blocks=aAb W.δ.size k ps.length∧bMe W'.δ.disk W.δ.size k (aAf W.δ.size k) f.first ps f.blocks∧∀x,¬(first≤x∧x<first+nb)→W'.δ.disk x=W.δ.disk x
theorem bAz (bw bd ba bs:Nat) (W:Wk) (cd ca cs:aAc) (h:Wc bd ba bs W cd ca cs) (bx first nb k bound:Nat) (g:Gr) (Gs:List Gr) (hg:W.α.gs.Perm (g::Gs)) (hgn:g.n=W.δ.size) (Lv:List Ext) (hl:aDm first nb Lv W.live) (ps:List T5) (buf:List Int)
  (ho:aWe W.δ.disk W.δ.size k nb bound first ps buf) (hac:W.δ.acts≤1000000000000):
  Ct AC 76 [pv bx] [aAh bw bd ba bs,cd,ca,cs,[(bx,row (aAu bw first nb k ps.length bound g.bb ((ps.length%aAf W.δ.size k)*k) (ps.length/aAf W.δ.size k) false) 178)],[(g.br,row (aAg buf) 158)]] fun v H'=>
   bMg bw bd ba bs bx W Gs Lv first nb k bound g ps [(g.br,row (aAg buf) 158)] v H'∨
   (v= .tuple #[flv ⟨0,0,0,0⟩,.int .i64 6]∧W.δ.fault=0∧aNy bw bd ba bs bx W Gs Lv first nb k bound g.bb [(g.br,row (aAg buf) 158)] 0 W.δ.failed H'):=by
 obtain⟨⟨hs1,hs2⟩,hbk,hfr⟩:=h.dev.num
 have hk1:=ho.w1
 have hk5:=ho.w2
 have hp:=aAj hs1 hk1 hk5
 have hroom:=ho.room hs1
 have hbl:=ho.blen
 obtain⟨nd0,nd1⟩:=bAy (p:=ps.length) hp
 have hmono:=aAk (s:=W.δ.size) (k:=k) ho.cnt
 rw[←ho.nbe] at hmono
 have honto:=ho.onto
 have hlast:=ho.last hp
 have hless:W.δ.fault= -1→aTs W.δ.fault= -1:=fun e=>by unfold aTs;rw[e];rfl
 have hin:nb≠0→first+nb≤W.δ.blocks:=by
  intro hnb0
  unfold aDm at hl
  rw[if_neg hnb0] at hl
  rw[h.nn]
  exact(aFu (h.live.perm hl)).1.2
 have hFo:=fun (hn:(ps.length%aAf W.δ.size k)*k≤W.δ.size-2) ha hf=>aZa bw bd ba bs W cd ca cs h bx first nb k ps.length bound ((ps.length%aAf W.δ.size k)*k) (ps.length/aAf W.δ.size k) g (hg.mem_iff.2 AI) hgn buf _ hbl rfl (by rw[BK,hbl];omega) hn ha hk5 hf hac
 have hFf:=fun (hn:(ps.length%aAf W.δ.size k)*k≤W.δ.size-2) ha hf=>aNz bw bd ba bs W cd ca cs h bx first nb k ps.length bound ((ps.length%aAf W.δ.size k)*k) (ps.length/aAf W.δ.size k) g Gs hg Lv hl hgn buf _ hbl rfl (by rw[BK,hbl];omega) hn ha hk5 hf
 have hnk:ps.length%aAf W.δ.size k≠0→0<(ps.length%aAf W.δ.size k)*k:=fun hne=>Nat.mul_pos (Nat.pos_of_ne_zero hne) (by omega)
 have hnk0:ps.length%aAf W.δ.size k=0→(ps.length%aAf W.δ.size k)*k=0:=fun e=>by rw[e,Nat.zero_mul]
 have hflv:∀f:Fl,flv f= .agg #[.int .i64 (f.first:Int),.int .i64 (f.blocks:Int),.int .i64 (f.width:Int),.int .i64 (f.count:Int)]:=fun _=>rfl
 generalize hn0:(ps.length%aAf W.δ.size k)*k=n0 at*
 generalize hq0:ps.length/aAf W.δ.size k=q0 at*
 by_cases hr0:ps.length%aAf W.δ.size k=0
 ·have hn00:=hnk0 hr0
  have hnb:=nd0 hr0
  subst hn00
  rw[hnb] at hmono
  have hcase:(q0=0∧nb=0)∨(q0=0∧0<nb)∨(0<q0∧q0<nb)∨(0<q0∧q0=nb):=by omega
  rcases hcase with⟨c1,c2⟩|⟨c1,c2⟩|⟨c1,c2⟩|⟨c1,c2⟩
  ·have hl1:=hl
   unfold aDm at hl1
   rw[if_pos c2] at hl1
   unfold aAu aAh
   refine Ct.intro Tryz.func76 rfl Tryz.ntmps76 (nle rfl) fun w0=> ?_;dsimp only[aAa,AD]
   repeat(first|(refine st ?_;intros)|refine G.draw [] (h:= ?_))
   have hR:=aFj ba W.α ca (h.ar.perm (.refl _)) g Gs hg
   refine R.call (hct:=hR) (h:= ?_)
   rintro _ _ ⟨ca',α',rfl,hA',hgs,hro,rfl⟩
   try dsimp only[AA,AB]
   repeat(first|(refine st ?_;intros)|refine G.draw [] (h:= ?_))
   (refine Dn.post (Hr:=[[(bw,row [pv bd,pv ba,pv bs] 101)],cd,ca',cs,[(bx,row [pv bw,.int .i64 ((0:Nat):Int),.int .i64 ((q0:Nat):Int),.int .i64 (k:Int),.int .i64 (ps.length:Int),.int .i64 (bound:Int),pv g.bb,.int .i64 ((0:Nat):Int),.int .i64 ((q0:Nat):Int),.bool true] 178)],[(g.br,row (aAg buf) 158)]]) Tryz.results76 (hR:= ?_);left)
   exact⟨cd,ca',cs,⟨W.δ,α',W.σ,Lv⟩,⟨0,q0,k,ps.length⟩,0,rfl,rfl,⟨h.dev,hA',h.sp,h.nn,h.live.perm hl1⟩,⟨rfl,rfl,⟨AG _,Nat.le_succ _⟩,id,hro,AG _⟩,(by rw[hnb,hq0,DF];rfl),hgs,(by rw[if_pos (by dsimp only;omega)]),rfl,rfl,hnb.symm,(fun j hj=>by dsimp only at hj;omega),(fun _ _=>rfl)⟩
  ·have hl1:=hl
   unfold aDm at hl1
   rw[if_neg (by omega)] at hl1
   have hinn:=hin (by omega)
   unfold aAu aAh
   refine Ct.intro Tryz.func76 rfl Tryz.ntmps76 (nle rfl) fun w0=> ?_;dsimp only[aAa,AD]
   repeat(first|(refine st ?_;intros)|refine G.draw [] (h:= ?_))
   have hR:=aFj ba W.α ca (h.ar.perm (.refl _)) g Gs hg
   have hadd:AH .i64 ((first:Int)+((q0:Nat):Int))=((first+q0:Nat):Int):=by rw[aAd (by omega)];rfl
   have hsub:AH .i64 ((nb:Int)-((q0:Nat):Int))=((nb-q0:Nat):Int):=by rw[aAd (by omega)];omega
   have hlv:=h.live.perm hl1
   obtain⟨⟨f1,f2⟩,f3⟩:=aFu hlv
   have hGv:=aNt bs W.σ cs h.sp (first+q0) (nb-q0) (by omega) (by omega) (fun x x1 x2=>f3 x (by omega) (by omega))
   refine R.call (hct:=hR) (h:= ?_)
   rintro _ _ ⟨ca',α',rfl,hA',hgs,hro,rfl⟩
   try dsimp only[AA,AB]
   repeat(first|(refine st ?_;intros)|refine G.draw [] (h:= ?_))
   refine R.call (hct:=hGv) (h:= ?_)
   rintro _ _ ⟨cs',σ',rfl,hS',e1,e3,e4,e5,rfl⟩
   try dsimp only[AA,AB]
   repeat(first|(refine st ?_;intros)|refine G.draw [] (h:= ?_))
   (refine Dn.post (Hr:=[[(bw,row [pv bd,pv ba,pv bs] 101)],cd,ca',cs',[(bx,row [pv bw,.int .i64 ((0:Nat):Int),.int .i64 ((q0:Nat):Int),.int .i64 (k:Int),.int .i64 (ps.length:Int),.int .i64 (bound:Int),pv g.bb,.int .i64 ((0:Nat):Int),.int .i64 ((q0:Nat):Int),.bool true] 178)],[(g.br,row (aAg buf) 158)]]) Tryz.results76 (hR:= ?_);left)
   exact⟨cd,ca',cs',⟨W.δ,α',σ',Lv⟩,⟨0,q0,k,ps.length⟩,0,rfl,rfl,⟨h.dev,hA',hS',h.nn.trans e1.symm,aIi (f:=first+q0) (m:=nb-q0) (by rw[show first+q0=first by omega,show nb-q0=nb by omega];exact hlv) e1 e3 e4⟩,⟨rfl,e1,⟨AG _,Nat.le_succ _⟩,id,hro,(by show _≤big σ'.free+0;omega)⟩,(by rw[hnb,hq0,DF];rfl),hgs,(by rw[if_pos (by dsimp only;omega)]),rfl,rfl,hnb.symm,(fun j hj=>by dsimp only at hj;omega),(fun _ _=>rfl)⟩
  ·have hl1:=hl
   unfold aDm at hl1
   rw[if_neg (by omega)] at hl1
   have hinn:=hin (by omega)
   unfold aAu aAh
   refine Ct.intro Tryz.func76 rfl Tryz.ntmps76 (nle rfl) fun w0=> ?_;dsimp only[aAa,AD]
   repeat(first|(refine st ?_;intros)|refine G.draw [] (h:= ?_))
   have hR:=aFj ba W.α ca (h.ar.perm (.refl _)) g Gs hg
   have hadd:AH .i64 ((first:Int)+((q0:Nat):Int))=((first+q0:Nat):Int):=by rw[aAd (by omega)];rfl
   have hsub:AH .i64 ((nb:Int)-((q0:Nat):Int))=((nb-q0:Nat):Int):=by rw[aAd (by omega)];omega
   have hlv:=aQg (h.live.perm hl1) (a:=q0) (by omega) (by omega)
   obtain⟨⟨f1,f2⟩,f3⟩:=aFu hlv
   have hGv:=aNt bs W.σ cs h.sp (first+q0) (nb-q0) f1 f2 f3
   refine R.call (hct:=hR) (h:= ?_)
   rintro _ _ ⟨ca',α',rfl,hA',hgs,hro,rfl⟩
   try dsimp only[AA,AB]
   repeat(first|(refine st ?_;intros)|refine G.draw [] (h:= ?_))
   refine R.call (hct:=hGv) (h:= ?_)
   rintro _ _ ⟨cs',σ',rfl,hS',e1,e3,e4,e5,rfl⟩
   try dsimp only[AA,AB]
   repeat(first|(refine st ?_;intros)|refine G.draw [] (h:= ?_))
   (refine Dn.post (Hr:=[[(bw,row [pv bd,pv ba,pv bs] 101)],cd,ca',cs',[(bx,row [pv bw,.int .i64 ((first:Nat):Int),.int .i64 ((q0:Nat):Int),.int .i64 (k:Int),.int .i64 (ps.length:Int),.int .i64 (bound:Int),pv g.bb,.int .i64 ((0:Nat):Int),.int .i64 ((q0:Nat):Int),.bool true] 178)],[(g.br,row (aAg buf) 158)]]) Tryz.results76 (hR:= ?_);left)
   exact⟨cd,ca',cs',⟨W.δ,α',σ',((first,q0)::Lv)⟩,⟨first,q0,k,ps.length⟩,0,rfl,rfl,⟨h.dev,hA',hS',h.nn.trans e1.symm,aIi hlv e1 e3 e4⟩,⟨rfl,e1,⟨AG _,Nat.le_succ _⟩,id,hro,(by show _≤big σ'.free+0;omega)⟩,(by rw[hnb,hq0,DF];rfl),hgs,(by rw[if_neg (by dsimp only;omega)];rfl),rfl,rfl,hnb.symm,honto,(fun _ _=>rfl)⟩
  ·have hl1:=hl
   unfold aDm at hl1
   rw[if_neg (by omega)] at hl1
   have hinn:=hin (by omega)
   unfold aAu aAh
   refine Ct.intro Tryz.func76 rfl Tryz.ntmps76 (nle rfl) fun w0=> ?_;dsimp only[aAa,AD]
   repeat(first|(refine st ?_;intros)|refine G.draw [] (h:= ?_))
   have hR:=aFj ba W.α ca (h.ar.perm (.refl _)) g Gs hg
   refine R.call (hct:=hR) (h:= ?_)
   rintro _ _ ⟨ca',α',rfl,hA',hgs,hro,rfl⟩
   try dsimp only[AA,AB]
   repeat(first|(refine st ?_;intros)|refine G.draw [] (h:= ?_))
   (refine Dn.post (Hr:=[[(bw,row [pv bd,pv ba,pv bs] 101)],cd,ca',cs,[(bx,row [pv bw,.int .i64 ((first:Nat):Int),.int .i64 ((q0:Nat):Int),.int .i64 (k:Int),.int .i64 (ps.length:Int),.int .i64 (bound:Int),pv g.bb,.int .i64 ((0:Nat):Int),.int .i64 ((q0:Nat):Int),.bool true] 178)],[(g.br,row (aAg buf) 158)]]) Tryz.results76 (hR:= ?_);left)
   exact⟨cd,ca',cs,⟨W.δ,α',W.σ,((first,q0)::Lv)⟩,⟨first,q0,k,ps.length⟩,0,rfl,rfl,⟨h.dev,hA',h.sp,h.nn,(by rw[show q0=nb by omega];exact h.live.perm hl1)⟩,⟨rfl,rfl,⟨AG _,Nat.le_succ _⟩,id,hro,AG _⟩,(by rw[hnb,hq0,DF];rfl),hgs,(by rw[if_neg (by dsimp only;omega)];rfl),rfl,rfl,hnb.symm,honto,(fun _ _=>rfl)⟩
 ·have hn01:=hnk hr0
  have hnb:=nd1 hr0
  rw[hnb] at hmono
  have hinn:=hin (by omega)
  by_cases hf:W.δ.fault=0
  ·have hFf:=hFf (by omega) (by omega) hf
   unfold aAu aAh at*
   refine Ct.intro Tryz.func76 rfl Tryz.ntmps76 (nle rfl) fun w0=> ?_;dsimp only[aAa,AD]
   repeat(first|(refine st ?_;intros)|refine G.draw [] (h:= ?_))
   refine R.call (hct:=hFf) (h:= ?_)
   rintro _ _ ⟨rfl,cd2,ca2,cs2,W',cnt',n',a',rfl,hgone⟩
   try dsimp only[AA,AB]
   unfold aAh aAu
   repeat(first|(refine st ?_;intros)|refine G.draw [] (h:= ?_))
   (refine Dn.post (Hr:=[[(bw,row [pv bd,pv ba,pv bs] 101)],cd2,ca2,cs2,[(bx,row [pv bw,.int .i64 (first:Int),.int .i64 (nb:Int),.int .i64 (k:Int),.int .i64 (cnt':Int),.int .i64 (bound:Int),pv g.bb,.int .i64 (n':Int),.int .i64 (a':Int),.bool true] 178)],[(g.br,row (aAg buf) 158)]]) Tryz.results76 (hR:= ?_);
    exact .inr ⟨rfl,hf,cd2,ca2,cs2,W',cnt',n',a',rfl,hgone⟩)
  ·have hFo:=hFo (by omega) (by omega) hf
   have hl1:=hl
   unfold aDm at hl1
   rw[if_neg (by omega)] at hl1
   have hcase:q0+1<nb∨q0+1=nb:=by omega
   rcases hcase with c2|c2
   ·unfold aAu aAh at*
    refine Ct.intro Tryz.func76 rfl Tryz.ntmps76 (nle rfl) fun w0=> ?_;dsimp only[aAa,AD]
    repeat(first|(refine st ?_;intros)|refine G.draw [] (h:= ?_))
    refine R.call (hct:=hFo) (h:= ?_)
    rintro _ _ ⟨rfl,cd2,ca2,rfl,hp2,hd2⟩
    try dsimp only[AA,AB]
    unfold aAh aAu
    repeat(first|(refine st ?_;intros)|refine G.draw [] (h:= ?_))
    have hR:=aFj ba W.α ca2 (h.ar.perm hp2) g Gs hg
    have hadd:AH .i64 ((first:Int)+(((q0+1):Nat):Int))=((first+(q0+1):Nat):Int):=by rw[aAd (by omega)];rfl
    have hsub:AH .i64 ((nb:Int)-(((q0+1):Nat):Int))=((nb-(q0+1):Nat):Int):=by rw[aAd (by omega)];omega
    have hlv:=aQg (h.live.perm hl1) (a:=(q0+1)) (by omega) (by omega)
    obtain⟨⟨f1,f2⟩,f3⟩:=aFu hlv
    have hGv:=aNt bs W.σ cs h.sp (first+(q0+1)) (nb-(q0+1)) f1 f2 f3
    refine R.call (hct:=hR) (h:= ?_)
    rintro _ _ ⟨ca',α',rfl,hA',hgs,hro,rfl⟩
    try dsimp only[AA,AB]
    repeat(first|(refine st ?_;intros)|refine G.draw [] (h:= ?_))
    refine R.call (hct:=hGv) (h:= ?_)
    rintro _ _ ⟨cs',σ',rfl,hS',e1,e3,e4,e5,rfl⟩
    try dsimp only[AA,AB]
    repeat(first|(refine st ?_;intros)|refine G.draw [] (h:= ?_))
    (refine Dn.post (Hr:=[[(bw,row [pv bd,pv ba,pv bs] 101)],cd2,ca',cs',[(bx,row [pv bw,.int .i64 ((first:Nat):Int),.int .i64 (((q0+1):Nat):Int),.int .i64 (k:Int),.int .i64 (ps.length:Int),.int .i64 (bound:Int),pv g.bb,.int .i64 ((0:Nat):Int),.int .i64 (((q0+1):Nat):Int),.bool true] 178)],[(g.br,row (aAg buf) 158)]]) Tryz.results76 (hR:= ?_);left)
    exact⟨cd2,ca',cs',⟨(W.δ.wrote (first+q0) (aDd W.δ.size ((first+q0:Nat):Int) (k:Int) (buf.take n0))),α',σ',((first,(q0+1))::Lv)⟩,⟨first,(q0+1),k,ps.length⟩,0,rfl,rfl,⟨hd2,hA',hS',h.nn.trans e1.symm,aIi hlv e1 e3 e4⟩,⟨rfl,e1,⟨Nat.le_succ _,AG _⟩,hless,hro,(by show _≤big σ'.free+0;omega)⟩,(by rw[hnb,hq0,Nat.add_sub_cancel_left];rfl),hgs,(by rw[if_neg (by dsimp only;omega)];rfl),rfl,rfl,hnb.symm,hlast,(fun x hx=>by simp only[Dv.wrote,aHz];rw[if_neg (by omega)])⟩
   ·unfold aAu aAh at*
    refine Ct.intro Tryz.func76 rfl Tryz.ntmps76 (nle rfl) fun w0=> ?_;dsimp only[aAa,AD]
    repeat(first|(refine st ?_;intros)|refine G.draw [] (h:= ?_))
    refine R.call (hct:=hFo) (h:= ?_)
    rintro _ _ ⟨rfl,cd2,ca2,rfl,hp2,hd2⟩
    try dsimp only[AA,AB]
    unfold aAh aAu
    repeat(first|(refine st ?_;intros)|refine G.draw [] (h:= ?_))
    have hR:=aFj ba W.α ca2 (h.ar.perm hp2) g Gs hg
    refine R.call (hct:=hR) (h:= ?_)
    rintro _ _ ⟨ca',α',rfl,hA',hgs,hro,rfl⟩
    try dsimp only[AA,AB]
    repeat(first|(refine st ?_;intros)|refine G.draw [] (h:= ?_))
    (refine Dn.post (Hr:=[[(bw,row [pv bd,pv ba,pv bs] 101)],cd2,ca',cs,[(bx,row [pv bw,.int .i64 ((first:Nat):Int),.int .i64 (((q0+1):Nat):Int),.int .i64 (k:Int),.int .i64 (ps.length:Int),.int .i64 (bound:Int),pv g.bb,.int .i64 ((0:Nat):Int),.int .i64 (((q0+1):Nat):Int),.bool true] 178)],[(g.br,row (aAg buf) 158)]]) Tryz.results76 (hR:= ?_);left)
    exact⟨cd2,ca',cs,⟨(W.δ.wrote (first+q0) (aDd W.δ.size ((first+q0:Nat):Int) (k:Int) (buf.take n0))),α',W.σ,((first,(q0+1))::Lv)⟩,⟨first,(q0+1),k,ps.length⟩,0,rfl,rfl,⟨hd2,hA',h.sp,h.nn,(by rw[show(q0+1)=nb by omega];exact h.live.perm hl1)⟩,⟨rfl,rfl,⟨Nat.le_succ _,AG _⟩,hless,hro,AG _⟩,(by rw[hnb,hq0,Nat.add_sub_cancel_left];rfl),hgs,(by rw[if_neg (by dsimp only;omega)];rfl),rfl,rfl,hnb.symm,hlast,(fun x hx=>by simp only[Dv.wrote,aHz];rw[if_neg (by omega)])⟩
def aBc (bw:Nat) (f:Fl) (bb n at_ block count:Nat) (closed:Bool):List Value:=
 [pv bw,.int .i64 (f.first:Int),.int .i64 (f.blocks:Int),.int .i64 (f.width:Int),.int .i64 (f.count:Int),pv bb,.int .i64 (n:Int),.int .i64 (at_:Int),.int .i64 (block:Int),.int .i64 (count:Int),.bool closed]
theorem bDo (bw bd ba bs:Nat) (W:Wk) (cd ca cs:aAc) (h:Wc bd ba bs W cd ca cs) (f:Fl) (h1:1≤f.width) (h2:f.width≤5) (hc:f.count≤100000000) (hb:f.blocks=aAb W.δ.size f.width f.count) (hr:W.α.room-W.α.used<W.δ.size):
  CtQ AC 53 [pv bw,flv f] [aAh bw bd ba bs,cd,ca,cs] (.tuple #[.pointer none,.int .i64 7]):=by
 have hH:=aHl bw bd ba bs W.δ cd h.dev f.width h1 h2
 have hB:=aNx bw bd ba bs W.δ cd h.dev f.width f.count h1 h2 hc
 obtain⟨hs,_⟩:=h.dev.num
 have hp:=aAj hs.1 h1 h2
 have hS:=aGh bd W.δ cd h.dev
 have hn:=h.ar.num
 have hF:=aFull ba W.α ca h.ar (W.δ.size:Int) (by omega) (by omega)
 rw[←hb] at hB
 generalize aAf W.δ.size f.width=hk at*
 unfold aAh at hH hB⊢
 unfold flv
 refine Ct.intro Tryz.func53 rfl Tryz.ntmps53 (nle rfl) fun w0=> ?_;dsimp only[aAa,AD]
 repeat(first|(refine st ?_;intros)|refine G.draw (id:=1) [(3,.quiet),(23,.quiet)] (h:= ?_)|refine G.draw (id:=3) [(8,.quiet),(9,.quiet)] (h:= ?_)|(refine cq hH ?_)|(refine cq hS ?_)|(refine cq hB ?_)|(refine cq hF ?_))
 (refine Dn.post (Hr:=[[(bw,row [pv bd,pv ba,pv bs] 101)],cd,ca,cs]) Tryz.results53 (hR:= ?_);exact⟨rfl,rfl⟩)
def RdMade (bw bd ba bs:Nat) (W:Wk) (f:Fl) (cd cs:aAc) (v:Value) (H':Hp):Prop:=
 ∃(bx:Nat) (g:Gr) (ca:aAc) (α':Ar),v= .tuple #[pv bx,.int .i64 0]∧
  H'=[aAh bw bd ba bs,cd,ca,cs,[(bx,row (aBc bw f g.bb 0 0 0 0 false) 155)],[(g.br,row (aAg (BW W.δ.size 0)) 158)]]∧
  aKm ba α' ca∧g.n=W.δ.size∧α'.gs.Perm (g::W.α.gs)∧α'.room=W.α.room
theorem bDp (bw bd ba bs:Nat) (W:Wk) (cd ca cs:aAc) (h:Wc bd ba bs W cd ca cs) (f:Fl) (h1:1≤f.width) (h2:f.width≤5) (hc:f.count≤100000000) (hb:f.blocks=aAb W.δ.size f.width f.count) (hr:W.δ.size≤W.α.room-W.α.used):
  Ct AC 53 [pv bw,flv f] [aAh bw bd ba bs,cd,ca,cs] (RdMade bw bd ba bs W f cd cs):=by
 have hH:=aHl bw bd ba bs W.δ cd h.dev f.width h1 h2
 have hB:=aNx bw bd ba bs W.δ cd h.dev f.width f.count h1 h2 hc
 obtain⟨hs,_⟩:=h.dev.num
 have hp:=aAj hs.1 h1 h2
 have hS:=aGh bd W.δ cd h.dev
 have hn:=h.ar.num
 have hG:=bDi ba W.α ca h.ar W.δ.size (by omega)
 rw[←hb] at hB
 generalize aAf W.δ.size f.width=hk at*
 unfold aAh at hH hB⊢
 unfold flv
 refine Ct.intro Tryz.func53 rfl Tryz.ntmps53 (nle rfl) fun w0=> ?_;dsimp only[aAa,AD]
 repeat(first|(refine st ?_;intros)|refine G.draw (id:=1) [(3,.quiet),(23,.quiet)] (h:= ?_)|refine G.draw (id:=3) [(8,.quiet)] (h:= ?_)|(refine cq hH ?_)|(refine cq hS ?_)|(refine cq hB ?_))
 refine R.call (hct:=hG) (h:= ?_)
 rintro _ _ ⟨g,ca',α',hgn,rfl,hA',hgs,hro,rfl⟩
 try dsimp only[AA,AB]
 repeat(first|(refine st ?_;intros)|refine G.draw (id:=1) [(3,.quiet),(23,.quiet)] (h:= ?_)|refine G.draw (id:=3) [(8,.quiet)] (h:= ?_)|(refine cq hH ?_)|(refine cq hS ?_)|(refine cq hB ?_))
 rename_i bx
 (refine Dn.post (Hr:=[[(bw,row [pv bd,pv ba,pv bs] 101)],cd,ca',cs,[(bx,row (aBc bw f g.bb 0 0 0 0 false) 155)],[(g.br,row (aAg (BW W.δ.size 0)) 158)]]) Tryz.results53 (hR:= ?_);
  exact⟨bx,g,ca',α',rfl,rfl,hA',hgn,hgs,hro⟩)
theorem bBa:CtQ AC 54 [.pointer none] [] (.tuple #[]):=by
 refine Ct.intro Tryz.func54 rfl Tryz.ntmps54 (nle rfl) fun w0=> ?_;dsimp only[aAa,AD]
 repeat(first|(refine st ?_;intros)|refine G.draw [] (h:= ?_))
 (refine Dn.postEnd (Hr:=[]) Tryz.results54 (hR:= ?_);exact⟨rfl,rfl⟩)
theorem aPo (bw:Nat) (f:Fl) (bb n a kb pos bx:Nat):Cb AC 54 [pv bx] [[(bx,row (aBc bw f bb n a kb pos true) 155)]] (fun v' H'=>v'= .tuple #[]∧H'=[[(bx,row (aBc bw f bb n a kb pos true) 155)]]):=by
 unfold aBc
 refine Cb.intro Tryz.func54 rfl Tryz.ntmps54 (nle rfl) fun w0=> ?_;dsimp only[aAa,AD]
 repeat(first|(refine st ?_;intros)|refine G.draw [] (h:= ?_))
 (refine Dn.postEnd (Hr:=[[(bx,row [pv bw,.int .i64 (f.first:Int),.int .i64 (f.blocks:Int),.int .i64 (f.width:Int),.int .i64 (f.count:Int),pv bb,.int .i64 (n:Int),.int .i64 (a:Int),.int .i64 (kb:Int),.int .i64 (pos:Int),.bool true] 155)]]) Tryz.results54 (hR:= ?_);exact⟨rfl,rfl⟩)
theorem aUd (bw bd ba bs:Nat) (α:Ar) (ca:aAc) (h:aKm ba α ca) (f:Fl) (n a kb pos bx:Nat) (g:Gr) (Gs:List Gr) (hg:α.gs.Perm (g::Gs)):
  Cb AC 54 [pv bx] [aAh bw bd ba bs,ca,[(bx,row (aBc bw f g.bb n a kb pos false) 155)]] fun v H'=>
   ∃(ca':aAc) (α':Ar),v= .tuple #[]∧aKm ba α' ca'∧α'.gs.Perm Gs∧α'.room=α.room∧H'=[aAh bw bd ba bs,ca',[(bx,row (aBc bw f g.bb n a kb pos true) 155)]]:=by
 have hR:=aFj ba α ca h g Gs hg
 unfold aBc aAh
 refine Cb.intro Tryz.func54 rfl Tryz.ntmps54 (nle rfl) fun w0=> ?_;dsimp only[aAa,AD]
 repeat(first|(refine st ?_;intros)|refine G.draw [] (h:= ?_))
 refine R.call (hct:=hR) (h:= ?_)
 rintro _ _ ⟨ca',α',rfl,hA',hgs,hro,rfl⟩
 try dsimp only[AA,AB]
 repeat(first|(refine st ?_;intros)|refine G.draw [] (h:= ?_))
 (refine Dn.postEnd (Hr:=[[(bw,row [pv bd,pv ba,pv bs] 101)],ca',[(bx,row [pv bw,.int .i64 (f.first:Int),.int .i64 (f.blocks:Int),.int .i64 (f.width:Int),.int .i64 (f.count:Int),pv g.bb,.int .i64 (n:Int),.int .i64 (a:Int),.int .i64 (kb:Int),.int .i64 (pos:Int),.bool true] 155)]]) Tryz.results54 (hR:= ?_);
  exact⟨ca',α',rfl,hA',hgs,hro,rfl⟩)
theorem bDq (bw bd ba bs:Nat) (α:Ar) (ca:aAc) (h:aKm ba α ca) (f:Fl) (n a kb pos bx:Nat) (g:Gr) (Gs:List Gr) (hg:α.gs.Perm (g::Gs)):
  Ct AC 54 [pv bx] [aAh bw bd ba bs,ca,[(bx,row (aBc bw f g.bb n a kb pos false) 155)]] fun v H'=>
   ∃(ca':aAc) (α':Ar),v= .tuple #[]∧aKm ba α' ca'∧α'.gs.Perm Gs∧α'.room=α.room∧H'=[aAh bw bd ba bs,ca',[(bx,row (aBc bw f g.bb n a kb pos true) 155)]]:=(aUd bw bd ba bs α ca h f n a kb pos bx g Gs hg).1
theorem bMh (bw bd ba bs:Nat) (δ:Dv) (cd c1:aAc) (h:aDt bd δ cd) (bx:Nat) (f:Fl) (n a kb pos:Nat) (g:Gr) (hgn:g.n=δ.size) (buf pw:List Int) (hbl:buf.length=δ.size) (m:Nat) (hm:m=min (f.count-pos) (aAf δ.size f.width)) (hm1:1≤m)
  (hw1:1≤f.width) (hw5:f.width≤5) (hpos:pos≤f.count) (hcnt:f.count≤100000000) (hpl:pw.length=m*f.width) (hb:f.first+kb<δ.blocks) (hdk:δ.disk (f.first+kb)=some (aDd δ.size ((f.first+kb:Nat):Int) (f.width:Int) pw)) (hf:δ.fault≠0) (hac:δ.acts≤1000000000000):
  Ct AC 101 [pv bx] [aAh bw bd ba bs,cd,c1,[g.obj],[(bx,row (aBc bw f g.bb n a kb pos false) 155)],[(g.br,row (aAg buf) 158)]] fun v H'=>
   ∃cd',v= .int .i64 0∧aDt bd δ.acted cd'∧H'=[aAh bw bd ba bs,cd',c1,[g.obj],[(bx,row (aBc bw f g.bb (m*f.width) 0 (kb+1) pos false) 155)],[(g.br,row (aAg (aOa buf 0 pw)) 158)]]:=by
 obtain⟨⟨hs1,hs2⟩,hbk,hfr⟩:=h.num
 have hp:=aAj hs1 hw1 hw5
 have hmul:m*f.width≤δ.size-2:=by
  have h1:m*f.width≤aAf δ.size f.width*f.width:=A5 _ (by omega)
  exact BA h1 aNw
 have hmw:1≤m*f.width:=Nat.mul_pos hm1 hw1
 have hRd:=bMb bd δ cd h (f.first+kb) hb hf hac _ hdk
 have hGet:=fun bl cap rest hcap=>Get_ct δ.size (f.first+kb) f.width pw bl cap rest 158 ⟨hs1,hs2⟩ hcap (by omega) (m*f.width) hpl.symm hmw hmul
 have hsl:(aDd δ.size ((f.first+kb:Nat):Int) (f.width:Int) pw).length=δ.size:=aIh _ _ _ _ (by omega)
 have hadd:AH .i64 ((f.first:Int)+(kb:Int))=((f.first+kb:Nat):Int):=by rw[←CY];exact aAd (by omega)
 have hh256:aAf δ.size f.width≤256:=BA (CU _ _) (by omega)
 have hmin:(min ((f.count:Int)-(pos:Int)) ((aAf δ.size f.width:Nat):Int))=(m:Int):=by omega
 have hwant:AH .i64 ((min ((f.count:Int)-(pos:Int)) ((aAf δ.size f.width:Nat):Int))*(f.width:Int))=((m*f.width:Nat):Int):=by
  rw[hmin,←Int.natCast_mul];exact aAd (by omega)
 have hcp:Nat.min (m*f.width) δ.size=m*f.width:=Nat.min_eq_left (by omega)
 have hsetL:aFi (aAg buf) 0 (aAg pw)=aAg (aOa buf 0 pw):=by
  rw[aFs _ _ _ (by simp[hbl];omega)]
  simp[aOa,aAg,List.map_drop]
 have hpa:=aLk pw
 have hpwl:(aAg pw).length=m*f.width:=by rw[aBt,hpl]
 have hlt:0+m*f.width≤(aAg buf).length:=by rw[aBt,hbl];omega
 have hobj:([g.obj]:aAc)=[(g.bb,row [.slice (some ⟨g.br,0,none⟩) δ.size δ.size] 161)]:=by unfold Gr.obj;rw[hgn]
 rw[hobj]
 generalize aDd δ.size ((f.first+kb:Nat):Int) (f.width:Int) pw=sw at*
 unfold aBc aAh
 refine Ct.intro Tryz.func101 rfl Tryz.ntmps101 (nle rfl) fun w0=> ?_;dsimp only[aAa,AD]
 repeat(first|(refine st ?_;intros)|refine G.draw [] (h:= ?_)|refine G.draw (id:=5) [(19,.quiet)] (h:= ?_)|(refine cq hH ?_))
 refine R.call (hct:=hRd) (h:= ?_)
 rintro _ _ ⟨cd',p,cap',c2,rfl,hV,hD',rfl⟩
 try dsimp only[AA,AB]
 obtain⟨_,h0|⟨bl,rest,rfl,rfl,hrl,hmc,hcm⟩⟩:=hV
 ·omega
 have hH:CtQ AC 97 [pv bw,.int .i64 (f.width:Int)] [[(bw,row [pv bd,pv ba,pv bs] 101)],cd'] (.int .i64 ((aAf δ.size f.width:Nat):Int)):=aHl bw bd ba bs δ.acted cd' hD' f.width hw1 hw5
 repeat(first|(refine st ?_;intros)|refine G.draw [] (h:= ?_)|refine G.draw (id:=5) [(19,.quiet)] (h:= ?_)|(refine cq hH ?_))
 refine R.call (hct:=hGet bl cap' rest (by omega)) (h:= ?_)
 rintro _ _ ⟨p2,cap2,c3,rfl,hV2,rfl⟩
 try dsimp only[AA,AB]
 obtain⟨_,h0|⟨b2,rest2,rfl,rfl,hrl2,hmc2,hcm2⟩⟩:=hV2
 ·omega
 have hdp:((aAg pw++rest2).drop 0).take (m*f.width)=aAg pw:=aMv hpwl
 repeat(first|(refine st ?_;intros)|refine G.draw [] (h:= ?_)|refine G.draw (id:=5) [(19,.quiet)] (h:= ?_)|(refine cq hH ?_))
 (refine Dn.post (Hr:=[[(bw,row [pv bd,pv ba,pv bs] 101)],cd',c1,[(g.bb,row [.slice (some ⟨g.br,0,none⟩) δ.size δ.size] 161)],[(bx,row [pv bw,.int .i64 (f.first:Int),.int .i64 (f.blocks:Int),.int .i64 (f.width:Int),.int .i64 (f.count:Int),pv g.bb,.int .i64 ((m*f.width:Nat):Int),.int .i64 ((0:Nat):Int),.int .i64 ((kb+1:Nat):Int),.int .i64 (pos:Int),.bool false] 155)],[(g.br,row (aAg (aOa buf 0 pw)) 158)]]) Tryz.results101 (hR:= ?_);
  exact⟨cd',rfl,hD',rfl⟩)
structure RdB (size k count kb:Nat) (ts:List T5) (pos:Nat) (buf:List Int) (n a:Nat):Prop where
 posc:pos≤count
 tsl:ts.length=count
 na:a+(min count (kb*aAf size k)-pos)*k=n
 ns:n≤size-2
 bl:buf.length=size
 bw:(buf.drop a).take ((min count (kb*aAf size k)-pos)*k)=aBo k ((ts.drop pos).take (min count (kb*aAf size k)-pos))
def bHm (size k count:Nat) (ts:List T5) (pos:Nat) (buf:List Int) (n a:Nat):Prop:=RdB size k count (aAb size k pos) ts pos buf n a
theorem aEc {s k:Nat} (h:1≤aAf s k):aAb s k 0=0:=by
 unfold aAb;rw[BR,Nat.div_eq_of_lt (by omega)]
theorem bHm.start {size k count:Nat} {ts:List T5} (hs:1≤aAf size k) (ht:ts.length=count):bHm size k count ts 0 (BW size 0) 0 0:=by
 unfold bHm
 rw[aEc hs]
 exact⟨AS _,ht,by simp,AS _,by simp,by simp⟩
theorem bBb {s k pos:Nat} (hh:1≤aAf s k) (hlt:pos<aAb s k pos*aAf s k):aAb s k (pos+1)=aAb s k pos:=by
 have h1:aAb s k pos≤aAb s k (pos+1):=aAk (by omega)
 refine Nat.le_antisymm ?_ h1
 generalize aAb s k pos=q at hlt
 unfold aAb
 generalize aAf s k=h at*
 have h2:pos+1+h-1<(q+1)*h:=by rw[BD];omega
 have:=(Nat.div_lt_iff_lt_mul (by omega)).2 h2
 omega
theorem aQh {s k pos q:Nat} (hh:1≤aAf s k) (he:pos=q*aAf s k):aAb s k (pos+1)=q+1:=by
 unfold aAb
 generalize aAf s k=h at*
 have:pos+1+h-1=(q+1)*h:=by rw[BD];omega
 rw[this,Nat.mul_div_cancel _ (by omega)]
theorem bBc {s k pos:Nat} (hh:1≤aAf s k):pos≤aAb s k pos*aAf s k:=by
 unfold aAb
 generalize aAf s k=h at*
 have e:=Nat.div_add_mod (pos+h-1) h
 have h2:=Nat.mod_lt (pos+h-1) (show 0<h by omega)
 rw[EC] at e
 omega
theorem RdB.get {size k count kb:Nat} {ts:List T5} {pos:Nat} {buf:List Int} {n a:Nat} (h:RdB size k count kb ts pos buf n a) (hk:k≤5) (hlt:pos<min count (kb*aAf size k)) {t:T5} (ht:ts[pos]? =some t) (i:Nat) (hi:i<k):buf[a+i]? =some (wd (t.col i)):=by
 have hm:i<(min count (kb*aAf size k)-pos)*k:=Nat.lt_of_lt_of_le hi (DR k (by omega))
 have h1:=congrArg (·[i]?) h.bw
 simp only[List.getElem?_take,hm,if_true,List.getElem?_drop] at h1
 rw[h1]
 have hlen:pos<ts.length:=(AK.1 ht).1
 have e:ts.drop pos=t::ts.drop (pos+1):=by rw[BM hlen,(AK.1 ht).2]
 obtain⟨q,hq⟩:∃q,min count (kb*aAf size k)-pos=q+1:=⟨min count (kb*aAf size k)-pos-1,by omega⟩
 rw[e,hq,List.take_succ_cons]
 simp only[aBo,A6]
 rw[A7 (by rw[aCn t hk];exact hi)]
 exact aZc t k i hi hk
theorem RdB.step {size k count kb:Nat} {ts:List T5} {pos:Nat} {buf:List Int} {n a:Nat} (h:RdB size k count kb ts pos buf n a) (hk:k≤5) (hlt:pos<min count (kb*aAf size k)):RdB size k count kb ts (pos+1) buf n (a+k):=by
 obtain⟨q,hq⟩:∃q,min count (kb*aAf size k)-pos=q+1:=⟨min count (kb*aAf size k)-pos-1,by omega⟩
 have hq2:min count (kb*aAf size k)-(pos+1)=q:=by omega
 refine⟨by omega,h.tsl,?_,h.ns,h.bl,?_⟩
 ·rw[hq2];have:=h.na;rw[hq,BD] at this;omega
 ·rw[hq2]
  have h1:=h.bw
  rw[hq] at h1
  have hlen:pos<ts.length:=by have:=h.tsl;omega
  have e:ts.drop pos=ts[pos]::ts.drop (pos+1):=BM hlen
  rw[e,List.take_succ_cons] at h1
  simp only[aBo,A6] at h1⊢
  have h2:=congrArg (List.drop k) h1
  rw[List.drop_left' (aCn _ hk),List.drop_take,List.drop_drop] at h2
  rw[←h2,BD,Nat.add_sub_cancel]
theorem RdB.load {size k count kb:Nat} {ts:List T5} {pos:Nat} {buf:List Int} {n a m:Nat} (h:RdB size k count kb ts pos buf n a) (hk:k≤5) (he:pos=kb*aAf size k) (hm:m=min (count-pos) (aAf size k)):
  RdB size k count (kb+1) ts pos (aOa buf 0 (aBo k ((ts.drop (kb*aAf size k)).take (aAf size k)))) (m*k) 0∧(aBo k ((ts.drop (kb*aAf size k)).take (aAf size k))).length=m*k:=by
 have hl:((ts.drop (kb*aAf size k)).take (aAf size k)).length=m:=by rw[BK,CE,h.tsl,←he,hm,Nat.min_comm]
 have hwl:(aBo k ((ts.drop (kb*aAf size k)).take (aAf size k))).length=m*k:=by rw[aCf hk,hl]
 have hmk:m*k≤size-2:=BA (A5 _ (by omega)) aNw
 have hmm:min count ((kb+1)*aAf size k)-pos=m:=by rw[BD];have:=h.posc;omega
 refine⟨⟨h.posc,h.tsl,by rw[hmm];omega,hmk,by rw[aFv (by rw[hwl,h.bl];omega),h.bl],?_⟩,hwl⟩
 rw[hmm]
 unfold aOa
 rw[List.take_zero,AB,List.drop_zero,List.take_append_of_le_length (by omega),A4 (by omega),he]
 congr 1
 rw[List.take_eq_take_iff]
 simp only[CE,h.tsl]
 omega
theorem bBd (bw bd ba bs:Nat) (δ:Dv) (cd:aAc) (h:aDt bd δ cd) (bx:Nat) (f:Fl) (n a kb pos bb:Nat) (hb:f.first+kb<δ.blocks) (hf:δ.fault=0):
  Ct AC 101 [pv bx] [aAh bw bd ba bs,cd,[(bx,row (aBc bw f bb n a kb pos false) 155)]] fun v H'=>
   ∃cd',v= .int .i64 6∧aDt bd δ.failed cd'∧H'=[aAh bw bd ba bs,cd',[(bx,row (aBc bw f bb n a kb pos false) 155)]]:=by
 obtain⟨⟨hs1,hs2⟩,hbk,hfr⟩:=h.num
 have hRd:=bAu bd δ cd h (f.first+kb) hb hf
 have hadd:AH .i64 ((f.first:Int)+(kb:Int))=((f.first+kb:Nat):Int):=by rw[←CY];exact aAd (by omega)
 unfold aBc aAh
 refine Ct.intro Tryz.func101 rfl Tryz.ntmps101 (nle rfl) fun w0=> ?_;dsimp only[aAa,AD]
 repeat(first|(refine st ?_;intros)|refine G.draw [] (h:= ?_)|refine G.drawOrd (id:=5) [0,1,2,3,4,5,6,7,8,9,10,11,12,13,14,15,16,17,18,21,22,23,24,25,19,20,26,27] [(19,.eff [4,8,25])] (h:= ?_))
 refine R.call (hct:=hRd) (h:= ?_)
 rintro _ _ ⟨cd',rfl,hD',rfl⟩
 try dsimp only[AA,AB]
 repeat(first|(refine st ?_;intros)|refine G.draw [] (h:= ?_)|refine G.drawOrd (id:=5) [0,1,2,3,4,5,6,7,8,9,10,11,12,13,14,15,16,17,18,21,22,23,24,25,19,20,26,27] [(19,.eff [4,8,25])] (h:= ?_))
 (refine Dn.post (Hr:=[[(bw,row [pv bd,pv ba,pv bs] 101)],cd',[(bx,row [pv bw,.int .i64 (f.first:Int),.int .i64 (f.blocks:Int),.int .i64 (f.width:Int),.int .i64 (f.count:Int),pv bb,.int .i64 (n:Int),.int .i64 (a:Int),.int .i64 (kb:Int),.int .i64 (pos:Int),.bool false] 155)]]) Tryz.results101 (hR:= ?_);
  exact⟨cd',rfl,hD',rfl⟩)
def T5.zero:T5:=⟨0,0,0,0,0⟩
theorem bIc (bw bx:Nat) (f:Fl) (bb n a kb:Nat):CtQ AC 55 [pv bx] [[(bx,row (aBc bw f bb n a kb f.count false) 155)]] (.tuple #[tv T5.zero,.bool false,.int .i64 0]):=by
 unfold aBc
 refine Ct.intro Tryz.func55 rfl Tryz.ntmps55 (nle rfl) fun w0=> ?_;dsimp only[aAa,AD]
 repeat(first|(refine st ?_;intros)|refine G.draw [] (h:= ?_))
 (refine Dn.post (Hr:=[[(bx,row [pv bw,.int .i64 (f.first:Int),.int .i64 (f.blocks:Int),.int .i64 (f.width:Int),.int .i64 (f.count:Int),pv bb,.int .i64 (n:Int),.int .i64 (a:Int),.int .i64 (kb:Int),.int .i64 (f.count:Int),.bool false] 155)]]) Tryz.results55 (hR:= ?_);exact⟨rfl,rfl⟩)
def aIj (t:T5) (i:Nat):List Value:=(aAl t).take i++BW (5-i) (.int .i64 0)
theorem aUe (t:T5) (i:Nat) (h:i<5):(aIj t i).set i (.int .i64 (t.col i))=aIj t (i+1):=by
 match i,h with
 |0,_=>rfl
 |1,_=>rfl
 |2,_=>rfl
 |3,_=>rfl
 |4,_=>rfl
theorem aUf (t:T5) (k:Nat) (h:k≤5) (ht:okT k t):aIj t k=aAl t:=by
 obtain⟨_,h2⟩:=ht
 match k,h,h2 with
 |0,_,h2=>
  have:=h2 0 (by omega);have:=h2 1 (by omega);have:=h2 2 (by omega);have:=h2 3 (by omega);have:=h2 4 (by omega)
  simp_all [aIj,aAl,T5.col]
 |1,_,h2=>
  have:=h2 1 (by omega);have:=h2 2 (by omega);have:=h2 3 (by omega);have:=h2 4 (by omega)
  simp_all [aIj,aAl,T5.col]
 |2,_,h2=>
  have:=h2 2 (by omega);have:=h2 3 (by omega);have:=h2 4 (by omega)
  simp_all [aIj,aAl,T5.col]
 |3,_,h2=>
  have:=h2 3 (by omega);have:=h2 4 (by omega)
  simp_all [aIj,aAl,T5.col]
 |4,_,h2=>
  have:=h2 4 (by omega)
  simp_all [aIj,aAl,T5.col]
 |5,_,_=>rfl
theorem aQi (t:T5):aIj t 0=[.int .i64 0,.int .i64 0,.int .i64 0,.int .i64 0,.int .i64 0]:=rfl
theorem aMk (t:T5) (i:Nat) (h:i≤5):(aIj t i).length=5:=by simp[aIj,aAl];omega
theorem bDr {k:Nat} {t:T5} (h:okT k t) (i:Nat) (hi:i<5):aBa (t.col i):=by
 obtain⟨h1,_⟩:=h
 apply h1
 match i,hi with
 |0,_=>simp[T5.toList,T5.col]
 |1,_=>simp[T5.toList,T5.col]
 |2,_=>simp[T5.toList,T5.col]
 |3,_=>simp[T5.toList,T5.col]
 |4,_=>simp[T5.toList,T5.col]
def NextOk (bw bd ba bs bx:Nat) (W:Wk) (ca cs:aAc) (f:Fl) (ts:List T5) (g:Gr) (pos:Nat) (t:T5) (v:Value) (H':Hp):Prop:=
 ∃(cd ca':aAc) (δ':Dv) (buf':List Int) (n a:Nat),v= .tuple #[tv t,.bool true,.int .i64 0]∧
  H'=[aAh bw bd ba bs,cd,ca',cs,[(bx,row (aBc bw f g.bb n a (aAb W.δ.size f.width (pos+1)) (pos+1) false) 155)],[(g.br,row (aAg buf') 158)]]∧ca'.Perm ca∧
  aDt bd δ' cd∧δ'.size=W.δ.size∧δ'.blocks=W.δ.blocks∧(W.δ.fault= -1→δ'.fault= -1)∧δ'.acts=W.δ.acts+(aAb W.δ.size f.width (pos+1)-aAb W.δ.size f.width pos)∧δ'.disk=W.δ.disk∧
  bHm W.δ.size f.width f.count ts (pos+1) buf' n a
def bKm (bw bd ba bs bx:Nat) (W:Wk) (Gs:List Gr) (cs:aAc) (f:Fl) (g:Gr) (cb:aAc) (v:Value) (H':Hp):Prop:=
 v= .tuple #[tv T5.zero,.bool false,.int .i64 6]∧W.δ.fault=0∧∃(cd ca:aAc) (α':Ar) (n a kb pos:Nat),H'=[aAh bw bd ba bs,cd,ca,cs,[(bx,row (aBc bw f g.bb n a kb pos true) 155)],cb]∧
  aDt bd W.δ.failed cd∧aKm ba α' ca∧α'.gs.Perm Gs∧α'.room=W.α.room
theorem bDs (bw bd ba bs:Nat) (W:Wk) (cd ca cs:aAc) (h:Wc bd ba bs W cd ca cs) (bx:Nat) (f:Fl) (ts:List T5) (Lv:List Ext) (hfo:aAq W.δ.disk W.δ.size Lv f ts) (hsub:∀e∈Lv,e∈W.live) (g:Gr) (Gs:List Gr) (hg:W.α.gs.Perm (g::Gs)) (hgn:g.n=W.δ.size)
  (pos n a:Nat) (buf:List Int) (ho:bHm W.δ.size f.width f.count ts pos buf n a) (hlt:pos<f.count) (t:T5) (ht:ts[pos]? =some t) (hac:W.δ.acts≤1000000000000):
  Ct AC 55 [pv bx] [aAh bw bd ba bs,cd,ca,cs,[(bx,row (aBc bw f g.bb n a (aAb W.δ.size f.width pos) pos false) 155)],[(g.br,row (aAg buf) 158)]] fun v H'=>
   NextOk bw bd ba bs bx W ca cs f ts g pos t v H'∨bKm bw bd ba bs bx W Gs cs f g [(g.br,row (aAg buf) 158)] v H':=by
 obtain⟨⟨hs1,hs2⟩,hbk,hfr⟩:=h.dev.num
 obtain⟨c1,hc1⟩:=h.ar.open_ (hg.mem_iff.2 AI)
 have hk1:=hfo.w1
 have hk5:=hfo.w2
 have hcnt:=hfo.cnt
 have hp:=aAj hs1 hk1 hk5
 have hobj:([g.obj]:aAc)=[(g.bb,row [.slice (some ⟨g.br,0,none⟩) W.δ.size W.δ.size] 161)]:=by unfold Gr.obj;rw[hgn]
 have hokt:okT f.width t:=hfo.fit t (List.mem_of_getElem? ht)
 have hge:=bBc (s:=W.δ.size) (k:=f.width) (pos:=pos) hp
 have hless:W.δ.fault= -1→aTs W.δ.fault= -1:=fun e=>by unfold aTs;rw[e];rfl
 have hblk:f.first+aAb W.δ.size f.width pos<W.δ.blocks∨f.blocks≤aAb W.δ.size f.width pos:=by
  by_cases hb:f.blocks≤aAb W.δ.size f.width pos
  ·exact .inr hb
  ·have:=h.live.fit _ (hsub _ (hfo.live (by omega)))
   simp only[Fl.ext] at this
   left;rw[h.nn];omega
 have hback:∀i,i<f.width→AH .i64 (wd (t.col i))=t.col i:=fun i hi=>aTv (bDr hokt i (by omega))
 generalize hkb:aAb W.δ.size f.width pos=kb at*
 have hpres:(([aAh bw bd ba bs,cd,ca,cs,[(bx,row (aBc bw f g.bb n a kb pos false) 155)],[(g.br,row (aAg buf) 158)]]:Hp).flatten).Perm
   (([aAh bw bd ba bs,cd,c1,[g.obj],cs,[(bx,row (aBc bw f g.bb n a kb pos false) 155)],[(g.br,row (aAg buf) 158)]]:Hp).flatten):=by
  simp only[List.flatten_cons,List.flatten_nil,List.append_nil,AR]
  refine BJ _ (BJ _ ?_)
  rw[←AR c1]
  exact CZ _ hc1
 unfold bHm at ho
 rw[hkb] at ho
 have htz:=aQi t
 have htp:=aMk t
 have htset:=aUe t
 have htall:=aUf t f.width hk5 hokt
 by_cases hfull:pos<min f.count (kb*aAf W.δ.size f.width)
 ·
  have hstep:=ho.step hk5 hfull
  have hget:=ho.get hk5 hfull ht
  have hna:=ho.na
  have hns:=ho.ns
  have hbl:=ho.bl
  have hmk:f.width≤(min f.count (kb*aAf W.δ.size f.width)-pos)*f.width:=DR _ (by omega)
  have hnb1:aAb W.δ.size f.width (pos+1)=kb:=by rw[←hkb];exact bBb hp (by rw[hkb];omega)
  refine Ct.convP (H2:=[aAh bw bd ba bs,cd,c1,[g.obj],cs,[(bx,row (aBc bw f g.bb n a kb pos false) 155)],[(g.br,row (aAg buf) 158)]])
   (R2:=fun v H'=>v= .tuple #[tv t,.bool true,.int .i64 0]∧H'=[aAh bw bd ba bs,cd,c1,[g.obj],cs,[(bx,row (aBc bw f g.bb n (a+f.width) kb (pos+1) false) 155)],[(g.br,row (aAg buf) 158)]]) ?_ hpres ?_
  ·rw[hobj]
   unfold aBc aAh
   have hne:¬((a:Int)=(n:Int)):=by omega
   refine Ct.intro Tryz.func55 rfl Tryz.ntmps55 (nle rfl) fun w0=> ?_;dsimp only[aAa,AD]
   repeat(first|(refine st ?_;intros)|refine G.draw [] (h:= ?_))
   rename_i b2 b5
   refine G.loop (X:=Nat) (fun i=>i≤f.width) (fun i=>[(52,.int .i64 (i:Int)),(51,.int .i64 (f.width:Int)),(0,pv bx),(5,.pointer (some ⟨b5,0,none⟩)),(2,.pointer (some ⟨b2,0,none⟩))])
    (fun i=>[[(b2,row (aIj t 0) 49)],[(b5,row (aIj t i) 49)],[(bw,row [pv bd,pv ba,pv bs] 101)],cd,c1,[(g.bb,row [.slice (some ⟨g.br,0,none⟩) W.δ.size W.δ.size] 161)],cs,
     [(bx,row [pv bw,.int .i64 (f.first:Int),.int .i64 (f.blocks:Int),.int .i64 (f.width:Int),.int .i64 (f.count:Int),pv g.bb,.int .i64 ((n:Nat):Int),.int .i64 ((a:Nat):Int),.int .i64 ((kb:Nat):Int),.int .i64 (pos:Int),.bool false] 155)],[(g.br,row (aAg buf) 158)]])
    (fun i=>f.width-i) 0 (by omega) (body:= ?_)
   intro i hi
   by_cases hik:i<f.width
   ·have hgi:(aAg buf)[a+i]? =some (.int .u64 (wd (t.col i))):=by
     unfold aAg;rw[BP,hget i hik];rfl
    have hbi:=hback i hik
    have hti:=htset i (by omega)
    have htl:=htp i (by omega)
    have hai:(((a:Nat):Int)+(i:Int)).toNat=a+i:=by omega
    repeat(first|(refine st ?_;intros)|refine G.draw [] (h:= ?_))
    exact Dn.round (i+1) (by omega) (by omega)
   ·have hki:f.width=i:=by omega
    subst hki
    rw[htall,htz]
    unfold aAl
    repeat(first|(refine st ?_;intros)|refine G.draw [] (h:= ?_))
    (refine Dn.post (Hr:=[[(bw,row [pv bd,pv ba,pv bs] 101)],cd,c1,[(g.bb,row [.slice (some ⟨g.br,0,none⟩) W.δ.size W.δ.size] 161)],cs,[(bx,row [pv bw,.int .i64 (f.first:Int),.int .i64 (f.blocks:Int),.int .i64 (f.width:Int),.int .i64 (f.count:Int),pv g.bb,.int .i64 ((n:Nat):Int),.int .i64 ((a+f.width:Nat):Int),.int .i64 ((kb:Nat):Int),.int .i64 ((pos+1:Nat):Int),.bool false] 155)],[(g.br,row (aAg buf) 158)]]) Tryz.results55 (hR:= ?_);
     exact⟨rfl,rfl⟩)
  ·rintro v H' ⟨rfl,rfl⟩
   refine⟨_,.inl ⟨cd,c1++[g.obj],W.δ,buf,n,a+f.width,rfl,rfl,hc1.symm,h.dev,rfl,rfl,id,?_,rfl,?_⟩,?_⟩
   ·rw[hnb1,hkb];omega
   ·unfold bHm;rw[hnb1];exact hstep
   ·rw[hnb1];simp
 ·have hposk:pos=kb*aAf W.δ.size f.width:=by omega
  have hkbb:kb<f.blocks:=by
   have h1:aAb W.δ.size f.width (pos+1)=kb+1:=aQh hp hposk
   have h2:=aAk (s:=W.δ.size) (k:=f.width) (show pos+1≤f.count by omega)
   rw[hfo.blk];omega
  have hbx:f.first+kb<W.δ.blocks:=by omega
  have hdk:=hfo.onto kb hkbb
  have hnb1:aAb W.δ.size f.width (pos+1)=kb+1:=aQh hp hposk
  have hna:a=n:=by
   have:=ho.na
   rw[show min f.count (kb*aAf W.δ.size f.width)-pos=0 by omega] at this
   omega
  subst hna
  obtain⟨m,hm⟩:∃m,m=min (f.count-pos) (aAf W.δ.size f.width):=⟨_,rfl⟩
  obtain⟨hmid,hpl⟩:=ho.load hk5 hposk hm
  by_cases hf:W.δ.fault=0
  ·have hLf:=bBd bw bd ba bs W.δ cd h.dev bx f a a kb pos g.bb hbx hf
   have hRc:=bDq bw bd ba bs W.α ca h.ar f a a kb pos bx g Gs hg
   refine Ct.mono (R:=fun v H'=>bKm bw bd ba bs bx W Gs cs f g [(g.br,row (aAg buf) 158)] v H') ?_ (fun _ _ h=> .inr h)
   unfold aBc aAh at*
   refine Ct.intro Tryz.func55 rfl Tryz.ntmps55 (nle rfl) fun w0=> ?_;dsimp only[aAa,AD]
   repeat(first|(refine st ?_;intros)|refine G.draw [] (h:= ?_))
   refine R.call (hct:=hLf) (h:= ?_)
   rintro _ _ ⟨cd',rfl,hD',rfl⟩
   try dsimp only[AA,AB]
   repeat(first|(refine st ?_;intros)|refine G.draw [] (h:= ?_))
   refine R.call (hct:=hRc) (h:= ?_)
   rintro _ _ ⟨ca',α',rfl,hA',hgs,hro,rfl⟩
   try dsimp only[AA,AB]
   repeat(first|(refine st ?_;intros)|refine G.draw [] (h:= ?_))
   (refine Dn.post (Hr:=[[(bw,row [pv bd,pv ba,pv bs] 101)],cd',ca',cs,[(bx,row [pv bw,.int .i64 (f.first:Int),.int .i64 (f.blocks:Int),.int .i64 (f.width:Int),.int .i64 (f.count:Int),pv g.bb,.int .i64 (a:Int),.int .i64 (a:Int),.int .i64 (kb:Int),.int .i64 (pos:Int),.bool true] 155)],[(g.br,row (aAg buf) 158)]]) Tryz.results55 (hR:= ?_);
    exact⟨rfl,hf,cd',ca',α',a,a,kb,pos,rfl,hD',hA',hgs,hro⟩)
  ·have hLo:=bMh bw bd ba bs W.δ cd c1 h.dev bx f a a kb pos g hgn buf _ ho.bl m hm (by omega) hk1 hk5 ho.posc hcnt hpl hbx hdk hf hac
   have hlt2:pos<min f.count ((kb+1)*aAf W.δ.size f.width):=by rw[BD];omega
   generalize hbuf:aOa buf 0 (aBo f.width ((ts.drop (kb*aAf W.δ.size f.width)).take (aAf W.δ.size f.width)))=buf' at*
   have hstep:=hmid.step hk5 hlt2
   have hget:=hmid.get hk5 hlt2 ht
   have hns:=hmid.ns
   have hbl:=hmid.bl
   have hmk:f.width≤m*f.width:=DR _ (by omega)
   refine Ct.convP (H2:=[aAh bw bd ba bs,cd,c1,[g.obj],cs,[(bx,row (aBc bw f g.bb a a kb pos false) 155)],[(g.br,row (aAg buf) 158)]])
    (R2:=fun v H'=>v= .tuple #[tv t,.bool true,.int .i64 0]∧∃cd',aDt bd W.δ.acted cd'∧H'=[aAh bw bd ba bs,cd',c1,[g.obj],cs,[(bx,row (aBc bw f g.bb (m*f.width) (0+f.width) (kb+1) (pos+1) false) 155)],[(g.br,row (aAg buf') 158)]]) ?_ hpres ?_
   ·rw[hobj] at*
    unfold aBc aAh at*
    refine Ct.intro Tryz.func55 rfl Tryz.ntmps55 (nle rfl) fun w0=> ?_;dsimp only[aAa,AD]
    repeat(first|(refine st ?_;intros)|refine G.draw [] (h:= ?_))
    refine R.call (hct:=hLo) (h:= ?_)
    rintro _ _ ⟨cd',rfl,hD',rfl⟩
    try dsimp only[AA,AB]
    repeat(first|(refine st ?_;intros)|refine G.draw [] (h:= ?_))
    rename_i b2 b5
    refine G.loop (X:=Nat) (fun i=>i≤f.width) (fun i=>[(52,.int .i64 (i:Int)),(51,.int .i64 (f.width:Int)),(0,pv bx),(5,.pointer (some ⟨b5,0,none⟩)),(2,.pointer (some ⟨b2,0,none⟩))])
     (fun i=>[[(b2,row (aIj t 0) 49)],[(b5,row (aIj t i) 49)],[(bw,row [pv bd,pv ba,pv bs] 101)],cd',c1,[(g.bb,row [.slice (some ⟨g.br,0,none⟩) W.δ.size W.δ.size] 161)],cs,
      [(bx,row [pv bw,.int .i64 (f.first:Int),.int .i64 (f.blocks:Int),.int .i64 (f.width:Int),.int .i64 (f.count:Int),pv g.bb,.int .i64 ((m*f.width:Nat):Int),.int .i64 ((0:Nat):Int),.int .i64 ((kb+1:Nat):Int),.int .i64 (pos:Int),.bool false] 155)],[(g.br,row (aAg buf') 158)]])
     (fun i=>f.width-i) 0 (by omega) (body:= ?_)
    intro i hi
    by_cases hik:i<f.width
    ·have hgi:(aAg buf')[0+i]? =some (.int .u64 (wd (t.col i))):=by
      unfold aAg;rw[BP,hget i hik];rfl
     have hbi:=hback i hik
     have hti:=htset i (by omega)
     have htl:=htp i (by omega)
     have hai:(((0:Nat):Int)+(i:Int)).toNat=0+i:=by omega
     repeat(first|(refine st ?_;intros)|refine G.draw [] (h:= ?_))
     exact Dn.round (i+1) (by omega) (by omega)
    ·have hki:f.width=i:=by omega
     subst hki
     rw[htall,htz]
     unfold aAl
     repeat(first|(refine st ?_;intros)|refine G.draw [] (h:= ?_))
     (refine Dn.post (Hr:=[[(bw,row [pv bd,pv ba,pv bs] 101)],cd',c1,[(g.bb,row [.slice (some ⟨g.br,0,none⟩) W.δ.size W.δ.size] 161)],cs,[(bx,row [pv bw,.int .i64 (f.first:Int),.int .i64 (f.blocks:Int),.int .i64 (f.width:Int),.int .i64 (f.count:Int),pv g.bb,.int .i64 ((m*f.width:Nat):Int),.int .i64 ((0+f.width:Nat):Int),.int .i64 ((kb+1:Nat):Int),.int .i64 ((pos+1:Nat):Int),.bool false] 155)],[(g.br,row (aAg buf') 158)]]) Tryz.results55 (hR:= ?_);
      exact⟨rfl,cd',hD',rfl⟩)
   ·rintro v H' ⟨rfl,cd',hD',rfl⟩
    refine⟨_,.inl ⟨cd',c1++[g.obj],W.δ.acted,buf',m*f.width,0+f.width,rfl,rfl,hc1.symm,hD',rfl,rfl,hless,?_,rfl,?_⟩,?_⟩
    ·rw[hnb1,hkb,Nat.add_sub_cancel_left];rfl
    ·unfold bHm;rw[hnb1];exact hstep
    ·rw[hnb1];simp
def aIa (bw bx:Nat) (W:Wk) (first nb k bound:Nat) (g:Gr) (ps:List T5) (cx cb:aAc):Prop:=
 g.n=W.δ.size∧∃buf,cx=[(bx,row (aAu bw first nb k ps.length bound g.bb ((ps.length%aAf W.δ.size k)*k) (ps.length/aAf W.δ.size k) false) 178)]∧cb=[(g.br,row (aAg buf) 158)]∧
  aWe W.δ.disk W.δ.size k nb bound first ps buf
def aDy (bx:Nat) (cx:aAc):Prop:=∃bw first nb k cnt bound bb n a,cx=[(bx,row (aAu bw first nb k cnt bound bb n a true) 178)]
def aGo (bw bx:Nat) (W:Wk) (f:Fl) (ts:List T5) (g:Gr) (pos:Nat) (cx cb:aAc):Prop:=
 g.n=W.δ.size∧∃buf n a,cx=[(bx,row (aBc bw f g.bb n a (aAb W.δ.size f.width pos) pos false) 155)]∧cb=[(g.br,row (aAg buf) 158)]∧bHm W.δ.size f.width f.count ts pos buf n a
def aDf (bx:Nat) (cx:aAc):Prop:=∃bw f bb n a kb pos,cx=[(bx,row (aBc bw f bb n a kb pos true) 155)]
def aBr (Lv:List Ext) (W W':Wk):Prop:=∀x,inF Lv x→W'.δ.disk x=W.δ.disk x
theorem aBr.refl (Lv:List Ext) (W:Wk):aBr Lv W W:=fun _ _=>rfl
theorem aBr.trans {Lv:List Ext} {W W1 W2:Wk} (h:aBr Lv W W1) (h2:aBr Lv W1 W2):aBr Lv W W2:=fun x hx=>(h2 x hx).trans (h x hx)
theorem aBr.sub {Lv Lv':List Ext} {W W1:Wk} (h:aBr Lv W W1) (hs:∀e∈Lv',e∈Lv):aBr Lv' W W1:=fun x ⟨e,he,h2⟩=>h x ⟨e,hs e he,h2⟩
theorem aZd {σ:Sp} {live Lv:List Ext} {first nb:Nat} (hv:aTw σ live) (hl:aDm first nb Lv live) {d d':Nat→Option (List Int)} (h:∀x,¬(first≤x∧x<first+nb)→d' x=d x):∀x,inF Lv x→d' x=d x:=by
 intro x hx
 apply h
 rintro⟨h1,h2⟩
 unfold aDm at hl
 by_cases h0:nb=0
 ·omega
 ·rw[if_neg h0] at hl
  exact(hv.perm hl).other (e:=(first,nb)) h1 h2 hx
theorem aGo.move {bw bx:Nat} {W W':Wk} {f:Fl} {ts:List T5} {g:Gr} {pos:Nat} {cx cb:aAc} (h:aGo bw bx W f ts g pos cx cb) (hs:W'.δ.size=W.δ.size):aGo bw bx W' f ts g pos cx cb:=by
 unfold aGo at*
 rw[hs];exact h
theorem aIa.move {bw bx:Nat} {W W':Wk} {first nb k bound:Nat} {g:Gr} {ps:List T5} {cx cb:aAc} (h:aIa bw bx W first nb k bound g ps cx cb) (hs:W'.δ.size=W.δ.size) (hd:∀x,first≤x→x<first+nb→W'.δ.disk x=W.δ.disk x):aIa bw bx W' first nb k bound g ps cx cb:=by
 unfold aIa at*
 rw[hs]
 obtain⟨h1,buf,h2,h3,h4⟩:=h
 refine⟨h1,buf,h2,h3,{h4 with onto:=fun j hj=> ?_}⟩
 rw[←h4.onto j hj,hd]
 ·omega
 ·have hq:ps.length/aAf W.δ.size k≤nb:=by
   rw[h4.nbe]
   refine BA ?_ (aAk h4.cnt)
   unfold aAb
   by_cases hh:aAf W.δ.size k=0
   ·rw[hh];simp
   ·exact BY (by omega)
  omega
theorem bId (bw bd ba bs:Nat) (W:Wk) (cd ca cs:aAc) (h:Wc bd ba bs W cd ca cs) (bx first nb k bound:Nat) (g:Gr) (ps:List T5) (cx cb:aAc) (hw:aIa bw bx W first nb k bound g ps cx cb) (Gs:List Gr) (hg:W.α.gs.Perm (g::Gs))
  (Lv:List Ext) (hl:aDm first nb Lv W.live) (hlt:ps.length<bound) (t:T5) (ht:okT k t) (hac:W.δ.acts≤1000000000000):
  Ct AC 74 [pv bx,tv t] [aAh bw bd ba bs,cd,ca,cs,cx,cb] fun v H'=>
   ∃cd' ca' cs' W' cx' cb',H'=[aAh bw bd ba bs,cd',ca',cs',cx',cb']∧Wc bd ba bs W' cd' ca' cs'∧Ev W W' ((ps.length+1)/aAf W.δ.size k-ps.length/aAf W.δ.size k) 0∧aBr Lv W W'∧
    ((v= .int .i64 0∧W'.α=W.α∧W'.σ=W.σ∧W'.live=W.live∧aIa bw bx W' first nb k bound g (ps++[t]) cx' cb')∨
     (v= .int .i64 6∧W.δ.fault=0∧W'.δ=W.δ.failed∧W'.α.gs.Perm Gs∧W'.live.Perm Lv∧aDy bx cx')):=by
 obtain⟨hgn,buf,rfl,rfl,ho⟩:=hw
 refine(bIb bw bd ba bs W cd ca cs h bx first nb k bound g Gs hg hgn Lv hl ps buf ho hlt t ht hac).mono ?_
 rintro v H' (⟨rfl,cd',ca',δ',buf',rfl,hp,hd,e1,e2,e3,e4,e5,e6⟩|⟨rfl,hf,cb',cd',ca',cs',W',cnt,n,a,rfl,hW,hE,e1,e2,e3⟩)
 ·refine⟨cd',ca',cs,{W with δ:=δ'},_,_,rfl,⟨hd,h.ar.perm hp,h.sp,e2.trans h.nn,h.live⟩,⟨e1,rfl,⟨by rw[e4];exact Nat.le_add_right _ _,by rw[e4];exact AG _⟩,e3,rfl,AG _⟩,aZd h.live hl e5,.inl ⟨rfl,rfl,rfl,rfl,?_⟩⟩
  unfold aIa
  dsimp only
  rw[e1]
  refine⟨hgn,buf',by simp,rfl,e6⟩
 ·exact⟨cd',ca',cs',W',_,_,rfl,hW,hE.weak (AS _) (AG _),fun x _=>by rw[e1];rfl,.inr ⟨rfl,hf,e1,e2,e3,_,_,_,_,_,_,_,_,_,rfl⟩⟩
theorem aOd (bw bd ba bs:Nat) (W:Wk) (cd ca cs:aAc) (h:Wc bd ba bs W cd ca cs) (bx first nb k bound:Nat) (g:Gr) (ps:List T5) (cx cb:aAc) (hw:aIa bw bx W first nb k bound g ps cx cb) (Gs:List Gr) (hg:W.α.gs.Perm (g::Gs))
  (Lv:List Ext) (hl:aDm first nb Lv W.live) (hac:W.δ.acts≤1000000000000):
  Ct AC 76 [pv bx] [aAh bw bd ba bs,cd,ca,cs,cx,cb] fun v H'=>
   ∃cd' ca' cs' W' cx' cb',H'=[aAh bw bd ba bs,cd',ca',cs',cx',cb']∧Wc bd ba bs W' cd' ca' cs'∧Ev W W' (aAb W.δ.size k ps.length-ps.length/aAf W.δ.size k) 0∧aBr Lv W W'∧W'.α.gs.Perm Gs∧aDy bx cx'∧
    ((∃f,v= .tuple #[flv f,.int .i64 0]∧W'.live=(if f.blocks=0 then Lv else f.ext::Lv)∧f.width=k∧f.count=ps.length∧aAq W'.δ.disk W.δ.size [f.ext] f ps)∨
     (v= .tuple #[flv ⟨0,0,0,0⟩,.int .i64 6]∧W.δ.fault=0∧W'.δ=W.δ.failed∧W'.live.Perm Lv)):=by
 obtain⟨hgn,buf,rfl,rfl,ho⟩:=hw
 refine(bAz bw bd ba bs W cd ca cs h bx first nb k bound g Gs hg hgn Lv hl ps buf ho hac).mono ?_
 rintro v H' (⟨cd',ca',cs',W',f,n,rfl,rfl,hW,hE,e1,e2,e3,e4,e5,e6,e7,e8⟩|⟨rfl,hf,cd',ca',cs',W',cnt,n,a,rfl,hW,hE,e1,e2,e3⟩)
 ·refine⟨cd',ca',cs',W',_,_,rfl,hW,{hE with acts:=⟨hE.acts.1,Nat.le_of_eq e1⟩},aZd h.live hl e8,e2,⟨_,_,_,_,_,_,_,_,_,rfl⟩,.inl ⟨f,rfl,e3,e4,e5,?_⟩⟩
  refine⟨by rw[e4];exact ho.w1,by rw[e4];exact ho.w2,e5.symm,?_,by rw[e6,e4,e5],?_,?_,fun _=>List.mem_singleton.2 rfl⟩
  ·rw[e5];exact BA ho.cnt ho.hb
  ·rw[e4];exact ho.fit
  ·rw[e4];exact e7
 ·exact⟨cd',ca',cs',W',_,_,rfl,hW,hE.weak (AS _) (AG _),fun x _=>by rw[e1];rfl,e2,⟨_,_,_,_,_,_,_,_,_,rfl⟩,.inr ⟨rfl,hf,e1,e3⟩⟩
theorem aWx (bw bd ba bs:Nat) (W:Wk) (cd ca cs:aAc) (h:Wc bd ba bs W cd ca cs) (bx first nb k bound:Nat) (g:Gr) (ps:List T5) (cx cb:aAc) (hw:aIa bw bx W first nb k bound g ps cx cb) (Gs:List Gr) (hg:W.α.gs.Perm (g::Gs))
  (Lv:List Ext) (hl:aDm first nb Lv W.live):
  Cb AC 75 [pv bx] [aAh bw bd ba bs,cd,ca,cs,cx,cb] fun v H'=>
   ∃cd' ca' cs' W' cx' cb',v= .tuple #[]∧H'=[aAh bw bd ba bs,cd',ca',cs',cx',cb']∧Wc bd ba bs W' cd' ca' cs'∧Ev W W' 0 0∧W'.δ=W.δ∧W'.α.gs.Perm Gs∧W'.live.Perm Lv∧aDy bx cx':=by
 obtain⟨hgn,buf,rfl,rfl,ho⟩:=hw
 refine(bDl bw bd ba bs W cd ca cs h bx first nb k ps.length bound _ _ g Gs hg Lv hl [(g.br,row (aAg buf) 158)]).mono ?_
 rintro v H' ⟨rfl,cd',ca',cs',W',cnt,n,a,rfl,hW,hE,e1,e2,e3⟩
 exact⟨cd',ca',cs',W',_,_,rfl,rfl,hW,hE,e1,e2,e3,_,_,_,_,_,_,_,_,_,rfl⟩
theorem aEs (bx:Nat) (cx:aAc) (h:aDy bx cx):Cb AC 75 [pv bx] [cx] (fun v' H'=>v'= .tuple #[]∧H'=[cx]):=by
 obtain⟨bw,first,nb,k,cnt,bound,bb,n,a,rfl⟩:=h
 exact aTx bw first nb k cnt bound bb n a bx
theorem bDt (bx:Nat) (cx:aAc) (h:aDy bx cx):CtQ AC 75 [pv bx] [cx] (.tuple #[]):=(aEs bx cx h).1
theorem aJp (bw bd ba bs:Nat) (W:Wk) (cd ca cs:aAc) (h:Wc bd ba bs W cd ca cs) (bx:Nat) (f:Fl) (ts:List T5) (Lv:List Ext) (hfo:aAq W.δ.disk W.δ.size Lv f ts) (hsub:∀e∈Lv,e∈W.live) (g:Gr) (Gs:List Gr) (hg:W.α.gs.Perm (g::Gs))
  (pos:Nat) (cx cb:aAc) (hr:aGo bw bx W f ts g pos cx cb) (t:T5) (ht:ts[pos]? =some t) (hac:W.δ.acts≤1000000000000):
  Ct AC 55 [pv bx] [aAh bw bd ba bs,cd,ca,cs,cx,cb] fun v H'=>
   ∃cd' ca' W' cx' cb',H'=[aAh bw bd ba bs,cd',ca',cs,cx',cb']∧Wc bd ba bs W' cd' ca' cs∧Ev W W' (aAb W.δ.size f.width (pos+1)-aAb W.δ.size f.width pos) 0∧W'.δ.disk=W.δ.disk∧W'.σ=W.σ∧W'.live=W.live∧
    ((v= .tuple #[tv t,.bool true,.int .i64 0]∧W'.α=W.α∧aGo bw bx W' f ts g (pos+1) cx' cb')∨
     (v= .tuple #[tv T5.zero,.bool false,.int .i64 6]∧W.δ.fault=0∧W'.δ=W.δ.failed∧W'.α.gs.Perm Gs∧aDf bx cx')):=by
 obtain⟨hgn,buf,n,a,rfl,rfl,ho⟩:=hr
 have hlt:pos<f.count:=by have:=(AK.1 ht).1;have:=hfo.len;omega
 refine(bDs bw bd ba bs W cd ca cs h bx f ts Lv hfo hsub g Gs hg hgn pos n a buf ho hlt t ht hac).mono ?_
 rintro v H' (⟨cd',ca',δ',buf',n',a',rfl,rfl,hp,hd,e1,e2,e3,e4,e5,e6⟩|⟨rfl,hf,cd',ca',α',n',a',kb,pos',rfl,hd,hA,e1,e2⟩)
 ·refine⟨cd',ca',{W with δ:=δ'},_,_,rfl,⟨hd,h.ar.perm hp,h.sp,e2.trans h.nn,h.live⟩,⟨e1,rfl,⟨by rw[e4];exact Nat.le_add_right _ _,by rw[e4];exact AG _⟩,e3,rfl,AG _⟩,e5,rfl,rfl,.inl ⟨rfl,rfl,?_⟩⟩
  unfold aGo
  dsimp only
  rw[e1]
  exact⟨hgn,buf',n',a',rfl,rfl,e6⟩
 ·exact⟨cd',ca',{W with δ:=W.δ.failed,α:=α'},_,_,rfl,⟨hd,hA,h.sp,h.nn,h.live⟩,⟨rfl,rfl,⟨AG _,Nat.le_add_right _ _⟩,fun _=>rfl,e2,AG _⟩,rfl,rfl,rfl,.inr ⟨rfl,hf,rfl,e1,_,_,_,_,_,_,_,rfl⟩⟩
theorem aFw (bw bx:Nat) (W:Wk) (f:Fl) (ts:List T5) (g:Gr) (cx cb:aAc) (hr:aGo bw bx W f ts g f.count cx cb):
  CtQ AC 55 [pv bx] [cx] (.tuple #[tv T5.zero,.bool false,.int .i64 0]):=by
 obtain⟨hgn,buf,n,a,rfl,rfl,ho⟩:=hr
 exact bIc bw bx f g.bb n a _
theorem aDi (bw bd ba bs:Nat) (W:Wk) (cd ca cs:aAc) (h:Wc bd ba bs W cd ca cs) (bx:Nat) (f:Fl) (ts:List T5) (g:Gr) (Gs:List Gr) (hg:W.α.gs.Perm (g::Gs)) (pos:Nat) (cx cb:aAc) (hr:aGo bw bx W f ts g pos cx cb):
  Cb AC 54 [pv bx] [aAh bw bd ba bs,ca,cx] fun v H'=>
   ∃ca' α' cx',v= .tuple #[]∧H'=[aAh bw bd ba bs,ca',cx']∧Wc bd ba bs {W with α:=α'} cd ca' cs∧Ev W {W with α:=α'} 0 0∧α'.gs.Perm Gs∧aDf bx cx':=by
 obtain⟨hgn,buf,n,a,rfl,rfl,ho⟩:=hr
 refine(aUd bw bd ba bs W.α ca h.ar f n a _ pos bx g Gs hg).mono ?_
 rintro v H' ⟨ca',α',rfl,hA,e1,e2,rfl⟩
 exact⟨ca',α',_,rfl,rfl,⟨h.dev,hA,h.sp,h.nn,h.live⟩,⟨rfl,rfl,⟨AG _,AG _⟩,id,e2,AG _⟩,e1,_,_,_,_,_,_,_,rfl⟩
theorem aMy (bw bd ba bs:Nat) (W:Wk) (cd ca cs:aAc) (h:Wc bd ba bs W cd ca cs) (bx:Nat) (f:Fl) (ts:List T5) (g:Gr) (Gs:List Gr) (hg:W.α.gs.Perm (g::Gs)) (pos:Nat) (cx cb:aAc) (hr:aGo bw bx W f ts g pos cx cb):
  Ct AC 54 [pv bx] [aAh bw bd ba bs,ca,cx] fun v H'=>
   ∃ca' α' cx',v= .tuple #[]∧H'=[aAh bw bd ba bs,ca',cx']∧Wc bd ba bs {W with α:=α'} cd ca' cs∧Ev W {W with α:=α'} 0 0∧α'.gs.Perm Gs∧aDf bx cx':=(aDi bw bd ba bs W cd ca cs h bx f ts g Gs hg pos cx cb hr).1
theorem aJd (bx:Nat) (cx:aAc) (h:aDf bx cx):Cb AC 54 [pv bx] [cx] (fun v' H'=>v'= .tuple #[]∧H'=[cx]):=by
 obtain⟨bw,f,bb,n,a,kb,pos,rfl⟩:=h
 exact aPo bw f bb n a kb pos bx
theorem aUg (bx:Nat) (cx:aAc) (h:aDf bx cx):CtQ AC 54 [pv bx] [cx] (.tuple #[]):=(aJd bx cx h).1
theorem aIk (bw bd ba bs:Nat) (W:Wk) (cd ca cs:aAc) (h:Wc bd ba bs W cd ca cs) (f:Fl) (ts:List T5) (Lv:List Ext) (hfo:aAq W.δ.disk W.δ.size Lv f ts) (hr:W.δ.size≤W.α.room-W.α.used):
  Ct AC 53 [pv bw,flv f] [aAh bw bd ba bs,cd,ca,cs] fun v H'=>
   ∃bx g ca' α' cx cb,v= .tuple #[pv bx,.int .i64 0]∧H'=[aAh bw bd ba bs,cd,ca',cs,cx,cb]∧Wc bd ba bs {W with α:=α'} cd ca' cs∧Ev W {W with α:=α'} 0 0∧α'.gs.Perm (g::W.α.gs)∧g.n=W.δ.size∧aGo bw bx {W with α:=α'} f ts g 0 cx cb:=by
 refine(bDp bw bd ba bs W cd ca cs h f hfo.w1 hfo.w2 hfo.cnt hfo.blk hr).mono ?_
 rintro v H' ⟨bx,g,ca',α',rfl,rfl,hA,hgn,e1,e2⟩
 obtain⟨hs,_⟩:=h.dev.num
 have hp:=aAj hs.1 hfo.w1 hfo.w2
 refine⟨bx,g,ca',α',_,_,rfl,rfl,⟨h.dev,hA,h.sp,h.nn,h.live⟩,⟨rfl,rfl,⟨AG _,AG _⟩,id,e2,AG _⟩,e1,hgn,hgn,BW W.δ.size 0,0,0,?_,rfl,bHm.start hp hfo.len⟩
 show _=[(bx,row (aBc bw f g.bb 0 0 (aAb W.δ.size f.width 0) 0 false) 155)]
 rw[aEc hp]
theorem aJy (bw bd ba bs:Nat) (W:Wk) (cd ca cs:aAc) (h:Wc bd ba bs W cd ca cs) (k bound:Nat) (h1:1≤k) (h2:k≤5) (hb:bound≤100000000) (hr:W.δ.size≤W.α.room-W.α.used):
  Ct AC 73 [pv bw,.int .i64 (k:Int),.int .i64 (bound:Int)] [aAh bw bd ba bs,cd,ca,cs] fun v H'=>
   (aAb W.δ.size k bound≤big W.σ.free∧∃bx first g cd' ca' cs' W' cx cb,v= .tuple #[pv bx,.int .i64 0]∧H'=[aAh bw bd ba bs,cd',ca',cs',cx,cb]∧Wc bd ba bs W' cd' ca' cs'∧Ev W W' 0 (aAb W.δ.size k bound)∧W'.δ=W.δ∧
    W'.α.gs.Perm (g::W.α.gs)∧g.n=W.δ.size∧aDm first (aAb W.δ.size k bound) W.live W'.live∧aIa bw bx W' first (aAb W.δ.size k bound) k bound g [] cx cb)∨
   (big W.σ.free<aAb W.δ.size k bound∧v= .tuple #[.pointer none,.int .i64 5]∧∃cd' ca' cs' W',H'=[aAh bw bd ba bs,cd',ca',cs']∧Wc bd ba bs W' cd' ca' cs'∧Ev W W' 0 0∧W'.δ=W.δ∧W'.live=W.live∧W'.α.gs.Perm W.α.gs):=by
 refine(bIa bw bd ba bs W cd ca cs h k bound h1 h2 hb hr).mono ?_
 obtain⟨hs,_⟩:=h.dev.num
 have hp:=aAj hs.1 h1 h2
 rintro v H' (⟨hfit,bx,first,g,cd',ca',cs',W',rfl,rfl,hW,hE,e1,e2,e3,e4⟩|⟨hf,rfl,cd',ca',cs',W',rfl,hW,hE,e1,e2,e3,e4⟩)
 ·left
  refine⟨hfit,bx,first,g,cd',ca',cs',W',_,_,rfl,rfl,hW,hE,e1,e3,e2,?_,by rw[e1];exact e2,BW W.δ.size 0,?_,rfl,?_⟩
  ·unfold aDm
   split at e4
   ·rename_i h0;rw[if_pos h0,e4.1]
   ·rename_i h0;rw[if_neg h0,e4]
  ·rw[e1];simp
  ·rw[e1]
   exact⟨h1,h2,hb,rfl,AS _,by simp,by simp,fun j hj=>by simp at hj,by simp⟩
 ·exact .inr ⟨hf,rfl,cd',ca',cs',W',rfl,hW,hE,e1,e3,e4⟩
theorem aKn (bw bd ba bs:Nat) (W:Wk) (cd ca cs:aAc) (h:Wc bd ba bs W cd ca cs) (f:Fl) (Lv:List Ext) (hl:aDm f.first f.blocks Lv W.live):
  Ct AC 96 [pv bw,flv f] [aAh bw bd ba bs,cs] fun v H'=>
   ∃cs' W',v= .int .i64 0∧H'=[aAh bw bd ba bs,cs']∧Wc bd ba bs W' cd ca cs'∧Ev W W' 0 0∧W'.δ=W.δ∧W'.α=W.α∧W'.live=Lv:=by
 unfold aDm at hl
 unfold flv aAh
 by_cases h0:f.blocks=0
 ·rw[if_pos h0] at hl
  rw[h0]
  refine Ct.intro Tryz.func96 rfl Tryz.ntmps96 (nle rfl) fun w0=> ?_;dsimp only[aAa,AD]
  repeat(first|(refine st ?_;intros)|refine G.draw [] (h:= ?_))
  (refine Dn.post (Hr:=[[(bw,row [pv bd,pv ba,pv bs] 101)],cs]) Tryz.results96 (hR:= ?_);exact⟨cs,{W with live:=Lv},rfl,rfl,⟨h.dev,h.ar,h.sp,h.nn,h.live.perm hl⟩,⟨rfl,rfl,⟨AG _,AG _⟩,id,rfl,AG _⟩,rfl,rfl,rfl⟩)
 ·rw[if_neg h0] at hl
  have hlv:=h.live.perm hl
  obtain⟨⟨f1,f2⟩,f3⟩:=aFu hlv
  have hGv:=aNt bs W.σ cs h.sp f.first f.blocks f1 f2 f3
  refine Ct.intro Tryz.func96 rfl Tryz.ntmps96 (nle rfl) fun w0=> ?_;dsimp only[aAa,AD]
  repeat(first|(refine st ?_;intros)|refine G.draw [] (h:= ?_))
  refine R.call (hct:=hGv) (h:= ?_)
  rintro _ _ ⟨cs',σ',rfl,hS',e1,e3,e4,e5,rfl⟩
  try dsimp only[AA,AB]
  repeat(first|(refine st ?_;intros)|refine G.draw [] (h:= ?_))
  (refine Dn.post (Hr:=[[(bw,row [pv bd,pv ba,pv bs] 101)],cs']) Tryz.results96 (hR:= ?_);exact⟨cs',{W with σ:=σ',live:=Lv},rfl,rfl,⟨h.dev,h.ar,hS',h.nn.trans e1.symm,aIi hlv e1 e3 e4⟩,⟨rfl,e1,⟨AG _,AG _⟩,id,rfl,by show _≤big σ'.free+0;omega⟩,rfl,rfl,rfl⟩)
structure LayX where
 i:Nat
 cd:aAc
 ca:aAc
 cs:aAc
 cx:aAc
 cb:aAc
 W:Wk
theorem Lay_ct (bw bd ba bs:Nat) (W:Wk) (cd ca cs:aAc) (h:Wc bd ba bs W cd ca cs) (k:Nat) (h1:1≤k) (h2:k≤5) (p:Option Addr) (n cap:Nat) (ts:List T5) (c:aAc) (hv:RV p n ts c) (hn:n≤100000000) (hok:∀t∈ts,okT k t)
  (hr:W.δ.size≤W.α.room-W.α.used) (hf:W.δ.fault= -1) (hac:W.δ.acts≤100000000000):
  Ct AC 34 [pv bw,.int .i64 (k:Int),.slice p n cap] [aAh bw bd ba bs,cd,ca,cs,c] fun v H'=>
   ∃cd' ca' cs' W',H'=[aAh bw bd ba bs,cd',ca',cs',c]∧Wc bd ba bs W' cd' ca' cs'∧Ev W W' (aAb W.δ.size k n) (aAb W.δ.size k n)∧aBr W.live W W'∧W'.α.gs.Perm W.α.gs∧
    ((aAb W.δ.size k n≤big W.σ.free∧∃f,v= .tuple #[flv f,.int .i64 0]∧W'.live=(if f.blocks=0 then W.live else f.ext::W.live)∧f.width=k∧f.count=n∧aAq W'.δ.disk W.δ.size [f.ext] f ts)∨
     (big W.σ.free<aAb W.δ.size k n∧v= .tuple #[flv ⟨0,0,0,0⟩,.int .i64 5]∧W'.live=W.live∧W'.δ=W.δ)):=by
 have hWr:=aJy bw bd ba bs W cd ca cs h k n h1 h2 hn hr
 have htl:=hv.1
 obtain⟨⟨hs1,hs2⟩,_⟩:=h.dev.num
 have hp:=aAj hs1 h1 h2
 refine Ct.intro Tryz.func34 rfl Tryz.ntmps34 (nle rfl) fun w0=> ?_;dsimp only[aAa,AD]
 repeat(refine st ?_;intros)
 apply R.call
 ·exact rfl
 ·exact hWr
 ·exact(by repeat(first|exact aAo.nil|(apply aAo.cons;·(repeat(first|exact aAn.here|apply aAn.there|exact aAn.nil)))))
 ·exact rfl
 ·exact nle rfl
 rintro _ _ (⟨hfit,bx,first,g,cd',ca',cs',W1,cx,cb,rfl,rfl,hW1,hE1,e1,e2,e3,e4,e5⟩|⟨hfull,rfl,cd',ca',cs',W1,rfl,hW1,hE1,e1,e2,e3⟩)
 ·repeat(refine st ?_;intros)
  rename_i b6
  refine G.loop (X:=LayX) (fun x=>x.i≤n∧Wc bd ba bs x.W x.cd x.ca x.cs∧Ev W x.W (x.i/aAf W.δ.size k) (aAb W.δ.size k n)∧aBr W.live W x.W∧x.W.α.gs.Perm (g::W.α.gs)∧aDm first (aAb W.δ.size k n) W.live x.W.live∧aIa bw bx x.W first (aAb W.δ.size k n) k n g (ts.take x.i) x.cx x.cb)
   (fun x=>[(27,.int .i64 (x.i:Int)),(26,.int .i64 (n:Int)),(25,.slice p n cap),(8,pv bx),(6,.pointer (some ⟨b6,0,none⟩))])
   (fun x=>[[(b6,row [.int .i64 0,.int .i64 0,.int .i64 0,.int .i64 0] 27)],aAh bw bd ba bs,x.cd,x.ca,x.cs,x.cx,x.cb,c]) (fun x=>n-x.i) ⟨0,cd',ca',cs',cx,cb,W1⟩
   ⟨AS _,hW1,by simpa using hE1,fun x _=>by rw[e1],e2,e4,e5⟩ (body:= ?_)
  rintro⟨i,cd1,ca1,cs1,cx1,cb1,W2⟩ ⟨hi,hW2,hE2,hK2,hg2,hl2,hw2⟩
  dsimp only at hi hW2 hE2 hK2 hg2 hl2 hw2⊢
  have hacts:=hE2.acts
  have hsz:=hE2.size
  have hfl:=hE2.fault hf
  have hdl:i/aAf W.δ.size k≤n:=BA (CU _ _) hi
  by_cases hin:i<n
  ·obtain⟨b,off,cs0,T,fz,rfl,rfl,hread⟩:=hv.pos (by omega)
   have hti:=hread i hin
   have hlt:i<ts.length:=by omega
   have hgd:ts.getD i ⟨0,0,0,0,0⟩=ts[i]:=by simp[AN,hlt]
   rw[hgd] at hti
   have htk:ts.take (i+1)=ts.take i++[ts[i]]:=by rw[BN];simp[hlt]
   have hlen:(ts.take i).length=i:=by simp;omega
   have hPt:=bId bw bd ba bs W2 cd1 ca1 cs1 hW2 bx first _ k n g (ts.take i) cx1 cb1 hw2 W.α.gs hg2 W.live hl2 (by omega) ts[i] (hok _ (B4 hlt)) (by omega)
   have htv:tv ts[i]= .agg (aAl ts[i]).toArray:=rfl
   rw[htv] at hPt
   have htcl:(aAl ts[i]).length=5:=rfl
   have hall:(aAl ts[i]).all Value.oneCell'=true:=rfl
   have hset5:aFi [.int .i64 0,.int .i64 0,.int .i64 0,.int .i64 0,.int .i64 0] 0 (aAl ts[i])=aAl ts[i]:=rfl
   have hd5:((aAl ts[i]).drop 0).take 5=aAl ts[i]:=rfl
   generalize aAl ts[i]=tc at*
   repeat(refine st ?_;intros)
   refine R.call (hct:=hPt) (h:= ?_)
   rintro _ _ ⟨cd3,ca3,cs3,W3,cx3,cb3,rfl,hW3,hE3,hK3,⟨rfl,e6,e7,e8,e9⟩|⟨rfl,e6,_⟩⟩
   try dsimp only[AA,AB]
   ·repeat(refine st ?_;intros)
    refine Dn.round ⟨i+1,cd3,ca3,cs3,cx3,cb3,W3⟩ ⟨hin,hW3,?_,hK2.trans hK3,by rw[e6];exact hg2,by rw[e8];exact hl2,by rw[htk];exact e9⟩ (by dsimp only;omega)
    have:=hE2.trans hE3
    rw[hlen,hsz] at this
    refine this.weak ?_ (AG _)
    have hm:i/aAf W.δ.size k≤(i+1)/aAf W.δ.size k:=BY (by omega)
    dsimp only
    omega
   ·omega
  ·obtain rfl:i=n:=by omega
   have htk:ts.take i=ts:=by rw[←htl];exact D9
   rw[htk] at hw2
   have hCl:=aOd bw bd ba bs W2 cd1 ca1 cs1 hW2 bx first _ k i g ts cx1 cb1 hw2 W.α.gs hg2 W.live hl2 (by omega)
   rw[hsz,htl] at hCl
   repeat(refine st ?_;intros)
   refine R.call (hct:=hCl) (h:= ?_)
   rintro _ _ ⟨cd3,ca3,cs3,W3,cx3,cb3,rfl,hW3,hE3,hK3,hg3,hx3,⟨f,rfl,e6,e7,e8,e9⟩|⟨rfl,e6,_⟩⟩
   try dsimp only[AA,AB]
   ·repeat(refine st ?_;intros)
    (refine Dn.post (Hr:=[aAh bw bd ba bs,cd3,ca3,cs3,c]) Tryz.results34 (hR:= ?_);refine⟨cd3,ca3,cs3,W3,rfl,hW3,?_,hK2.trans hK3,hg3,.inl ⟨hfit,f,rfl,e6,e7,e8,e9⟩⟩)
    have:=hE2.trans hE3
    refine this.weak ?_ (AG _)
    have hm:i/aAf W.δ.size k≤aAb W.δ.size k i:=by
     unfold aAb;exact BY (by omega)
    omega
   ·omega
 ·repeat(refine st ?_;intros)
  (refine Dn.post (Hr:=[aAh bw bd ba bs,cd',ca',cs',c]) Tryz.results34 (hR:= ?_);exact⟨cd',ca',cs',W1,rfl,hW1,hE1.weak (AS _) (AS _),fun x _=>by rw[e1],e3,.inr ⟨hfull,rfl,e2,e1⟩⟩)
structure ListX where
 i:Nat
 cd:aAc
 ca:aAc
 cx:aAc
 cb:aAc
 W:Wk
 p:Option Addr
 cap:Nat
 co:aAc
theorem aPp {ts:List T5} {i:Nat} (hi:i<ts.length):flat (ts.take (i+1))=flat (ts.take i)++aAl ts[i]:=by
 rw[BN,flat_append]
 simp[hi,flat]
theorem bMi (bw bd ba bs:Nat) (W:Wk) (cd ca cs:aAc) (h:Wc bd ba bs W cd ca cs) (f:Fl) (ts:List T5) (Lv:List Ext) (hfo:aAq W.δ.disk W.δ.size Lv f ts) (hsub:∀e∈Lv,e∈W.live)
  (hr:W.δ.size≤W.α.room-W.α.used) (hf:W.δ.fault= -1) (hac:W.δ.acts≤100000000000) (hcnt:f.count≤1000000):
  Ct AC 21 [pv bw,flv f] [aAh bw bd ba bs,cd,ca,cs] fun v H'=>
   ∃cd' ca' W' p cap co,v= .tuple #[.slice p f.count cap,.int .i64 0]∧H'=[aAh bw bd ba bs,cd',ca',cs,co]∧Wc bd ba bs W' cd' ca' cs∧Ev W W' (aAb W.δ.size f.width f.count) 0∧W'.δ.disk=W.δ.disk∧W'.live=W.live∧W'.α.gs.Perm W.α.gs∧
    Vec 49 5 p f.count cap (flat ts) co:=by
 have hRd:=aIk bw bd ba bs W cd ca cs h f ts Lv hfo hr
 have htl:=hfo.len
 obtain⟨⟨hs1,hs2⟩,_⟩:=h.dev.num
 have hp:=aAj hs1 hfo.w1 hfo.w2
 have hfl:flv f= .agg #[.int .i64 (f.first:Int),.int .i64 (f.blocks:Int),.int .i64 (f.width:Int),.int .i64 (f.count:Int)]:=rfl
 rw[hfl] at hRd⊢
 refine Ct.introD Tryz.func21 rfl Tryz.ntmps21 (nle rfl) fun w0=> ?_;dsimp only[aAa,AD]
 repeat(refine st ?_;intros)
 refine R.call (hct:=hRd) (h:= ?_)
 rintro _ _ ⟨bx,g,ca1,α1,cx,cb,rfl,rfl,hW1,hE1,hg1,hgn,hr1⟩
 try dsimp only[AA,AB]
 repeat(refine st ?_;intros)
 refine G.loop (X:=ListX) (fun x=>x.i≤f.count∧Wc bd ba bs x.W x.cd x.ca cs∧Ev W x.W (aAb W.δ.size f.width x.i) 0∧x.W.δ.disk=W.δ.disk∧x.W.live=W.live∧x.W.α.gs.Perm (g::W.α.gs)∧aGo bw bx x.W f ts g x.i x.cx x.cb∧Vec 49 5 x.p x.i x.cap (flat (ts.take x.i)) x.co)
  (fun x=>[(6,pv bx),(8,.slice x.p x.i x.cap)])
  (fun x=>[aAh bw bd ba bs,x.cd,x.ca,cs,x.cx,x.cb,x.co]) (fun x=>f.count-x.i) ⟨0,cd,ca1,cx,cb,{W with α:=α1},none,0,[]⟩
  ⟨AS _,hW1,by rw[aEc hp];exact hE1,rfl,rfl,hg1,hr1,Vec.nil _ _⟩ (by repeat(first|exact trivial|refine⟨rfl,?_⟩)) (by repeat(first|exact aAo.nil|(apply aAo.cons;·(first|exact aAn.nil|(repeat(first|exact aAn.here|apply aAn.there)))))) ?_
 rintro⟨i,cd1,ca1,cx1,cb1,W2,p,cap,co⟩ ⟨hi,hW2,hE2,hd2,hl2,hg2,hr2,hV⟩
 dsimp only at hi hW2 hE2 hd2 hl2 hg2 hr2 hV⊢
 have hacts:=hE2.acts
 have hsz:=hE2.size
 have hflt:=hE2.fault hf
 have hdl:aAb W.δ.size f.width i≤i:=by
  unfold aAb
  rw[Nat.div_le_iff_le_mul_add_pred (by omega)]
  have:=DR i (show 0<aAf W.δ.size f.width by omega)
  omega
 by_cases hin:i<f.count
 ·have hlt:i<ts.length:=by omega
  have hNx:=aJp bw bd ba bs W2 cd1 ca1 cs hW2 bx f ts Lv (by rw[hd2,hsz];exact hfo) (by rw[hl2];exact hsub) g W.α.gs hg2 i cx1 cb1 hr2 ts[i] (AE hlt) (by omega)
  have htv:tv ts[i]= .agg (aAl ts[i]).toArray:=rfl
  rw[htv] at hNx
  have htcl:(aAl ts[i]).length=5:=rfl
  have htcl2:(aAl ts[i]).length=1*5:=rfl
  have hall:(aAl ts[i]).all Value.oneCell'=true:=rfl
  have hset5:aFi [.int .i64 0,.int .i64 0,.int .i64 0,.int .i64 0,.int .i64 0] 0 (aAl ts[i])=aAl ts[i]:=rfl
  have hd5:((aAl ts[i]).drop 0).take 5=aAl ts[i]:=rfl
  have hd51:((aAl ts[i]).drop 0).take (1*5)=aAl ts[i]:=rfl
  have hft:=aPp hlt
  generalize ts[i]=t at*
  repeat(refine st ?_;intros)
  refine R.call (hct:=hNx) (h:= ?_)
  rintro _ _ ⟨cd3,ca3,W3,cx3,cb3,rfl,hW3,hE3,hd3,hs3,hl3,⟨rfl,e6,e9⟩|⟨rfl,e6,_⟩⟩
  try dsimp only[AA,AB]
  ·repeat(refine st ?_;intros)
   rename_i p' cap' c' hV'
   have hV3:Vec 49 5 p' (i+1) cap' (flat (ts.take i)++aAl t) c':=hV'
   rw[←hft] at hV3
   refine Dn.round ⟨i+1,cd3,ca3,cx3,cb3,W3,p',cap',c'⟩ ⟨hin,hW3,?_,hd3.trans hd2,hl3.trans hl2,by rw[e6];exact hg2,e9,hV3⟩ (by dsimp only;omega)
   have:=hE2.trans hE3
   rw[hsz] at this
   refine this.weak ?_ (AG _)
   have hm:aAb W.δ.size f.width i≤aAb W.δ.size f.width (i+1):=aAk (by omega)
   dsimp only
   omega
  ·omega
 ·have hic:f.count=i:=by omega
  subst hic
  have hNe:=aFw bw bx W2 f ts g cx1 cb1 hr2
  have hRc:=(aDi bw bd ba bs W2 cd1 ca1 cs hW2 bx f ts g W.α.gs hg2 f.count cx1 cb1 hr2).2
  have hz:tv T5.zero= .agg (aAl T5.zero).toArray:=rfl
  rw[hz] at hNe
  repeat(refine st ?_;intros)
  refine R.call (hct:=hNe) (h:= ?_)
  rintro _ _ ⟨rfl,rfl⟩
  try dsimp only[AA,AB]
  repeat(refine st ?_;intros)
  refine Go.SL.Lv.call (hc:=hRc) (h:= ?_)
  rintro _ _ ⟨ca3,α3,cx3,rfl,rfl,hW3,hE3,hg3,hx3⟩
  try dsimp only[AA,AB]
  (refine Go.SL.Lv.nil (Hr:=[aAh bw bd ba bs,cd1,ca3,cs,co]) Tryz.results21 (hR:= ?_);refine⟨cd1,ca3,{W2 with α:=α3},p,cap,co,rfl,rfl,hW3,by simpa using hE2.trans hE3,hd2,hl2,hg3,?_⟩)
  rw[←htl,D9] at hV
  rw[←htl];exact hV
structure Seer (K:Type) where
 own:K→List Gr
 C:K→aAc
 J:Wk→K→Nat→Prop
 B:Wk→K→Int→Prop
 κ:Nat
structure Seer.Ok {K:Type} (Z:Seer K):Prop where
 stay:∀W W' r i,Z.J W r i→W'.δ.size=W.δ.size→W'.δ.disk=W.δ.disk→W'.σ=W.σ→W'.live=W.live→(W.δ.fault= -1→W'.δ.fault= -1)→Z.J W' r i
 flt:∀W W' r i,Z.J W r i→W.δ.fault=0→W'.δ=W.δ.failed→W'.σ=W.σ→W'.live=W.live→Z.B W' r 6
 stayB:∀W α r e,Z.B W r e→Z.B {W with α:=α} r e
def SeeCt (bw bd ba bs:Nat) {K:Type} (Z:Seer K) (size room:Nat) (f:Fl) (ts:List T5) (fid:Nat) (fs us:List Value):Prop:=
 ∀(base:List Gr) (W:Wk) (cd ca cs:aAc) (r:K) (i:Nat) (t:T5),Wc bd ba bs W cd ca cs→W.α.gs.Perm (Z.own r++base)→W.α.room=room→W.δ.size=size→Z.J W r i→ts[i]? =some t→W.δ.acts≤100000000000→
  Ct AC fid (fs++[tv t]++us) [aAh bw bd ba bs,cd,ca,cs,Z.C r] fun v H'=>
   ∃cd' ca' cs' W' r' e,v= .int .i64 e∧H'=[aAh bw bd ba bs,cd',ca',cs',Z.C r']∧Wc bd ba bs W' cd' ca' cs'∧Ev W W' Z.κ 0∧W'.α.gs.Perm (Z.own r'++base)∧(e=0→Z.J W' r' (i+1))∧(e≠0→Z.B W' r' e)
structure OverX (K:Type) where
 i:Nat
 cd:aAc
 ca:aAc
 cs:aAc
 cx:aAc
 cb:aAc
 W:Wk
 r:K
theorem bDu (bw bd ba bs:Nat) {K:Type} (Z:Seer K) (hZ:Z.Ok) (f:Fl) (ts:List T5) (Lv:List Ext) (fid:Nat) (hcal:Callable AC fid) (fs us:List Value) (size room:Nat) (hsee:SeeCt bw bd ba bs Z size room f ts fid fs us) (W:Wk) (cd ca cs:aAc) (h:Wc bd ba bs W cd ca cs) (r:K) (base:List Gr) (hg:W.α.gs.Perm (Z.own r++base)) (hrm:W.α.room=room) (hsz:W.δ.size=size) (hJ:Z.J W r 0)
  (hfo:∀W r i,Z.J W r i→aAq W.δ.disk size Lv f ts∧∀e∈Lv,e∈W.live) (hr:W.δ.size≤W.α.room-W.α.used) (hac:W.δ.acts+aAb size f.width f.count+f.count*Z.κ≤100000000000) (hcn:f.count≤1000000):
  Ct AC 90 [pv bw,flv f,.func (.func fid) fs.toArray us.toArray] [aAh bw bd ba bs,cd,ca,cs,Z.C r] fun v H'=>
   ∃cd' ca' cs' W' r' e,v= .int .i64 e∧H'=[aAh bw bd ba bs,cd',ca',cs',Z.C r']∧Wc bd ba bs W' cd' ca' cs'∧Ev W W' (aAb size f.width f.count+f.count*Z.κ) 0∧W'.α.gs.Perm (Z.own r'++base)∧(e=0→Z.J W' r' f.count)∧(e≠0→Z.B W' r' e):=by
 obtain⟨⟨hs1,hs2⟩,hbk,hfr⟩:=h.dev.num
 obtain⟨hfo0,hsub0⟩:=hfo W r 0 hJ
 have hk1:=hfo0.w1
 have hk5:=hfo0.w2
 have htl:=hfo0.len
 have hp:=aAj hs1 hk1 hk5
 have hRd:=aIk bw bd ba bs W cd ca cs h f ts Lv (by rw[hsz];exact hfo0) hr
 have hflv:flv f= .agg #[.int .i64 (f.first:Int),.int .i64 (f.blocks:Int),.int .i64 (f.width:Int),.int .i64 (f.count:Int)]:=rfl
 rw[hflv] at hRd⊢
 refine Ct.introD Tryz.func90 rfl Tryz.ntmps90 (nle rfl) fun w0=> ?_;dsimp only[aAa,AD]
 repeat(refine st ?_;intros)
 refine R.call (hct:=hRd) (h:= ?_)
 rintro _ _ ⟨bx,g,ca1,α1,cx,cb,rfl,rfl,hW1,hE1,hg1,hgn,hr1⟩
 try dsimp only[AA,AB]
 repeat(refine st ?_;intros)
 rename_i b4
 have hJ1:Z.J {W with α:=α1} r 0:=hZ.stay _ _ _ _ hJ rfl rfl rfl rfl id
 refine G.loop (X:=OverX K) (fun x=>x.i≤f.count∧Wc bd ba bs x.W x.cd x.ca x.cs∧Ev W x.W (aAb size f.width x.i+x.i*Z.κ) 0∧x.W.α.gs.Perm (g::(Z.own x.r++base))∧Z.J x.W x.r x.i∧aGo bw bx x.W f ts g x.i x.cx x.cb)
  (fun _=>[(7,pv bx),(2,.func (.func fid) fs.toArray us.toArray)]) (fun x=>[aAh bw bd ba bs,x.cd,x.ca,x.cs,Z.C x.r,x.cx,x.cb]) (fun x=>f.count-x.i) ⟨0,cd,ca1,cs,cx,cb,{W with α:=α1},r⟩
  ⟨AS _,hW1,hE1.weak (AS _) (AG _),hg1.trans (hg.cons _),hJ1,hr1⟩ (body:= ?_)
 rintro⟨i,cd2,ca2,cs2,cx2,cb2,W2,r2⟩ ⟨hi,hW2,hE2,hg2,hJ2,hrd2⟩
 dsimp only at hi hW2 hE2 hg2 hJ2 hrd2⊢
 have hsz2:W2.δ.size=size:=hE2.size.trans hsz
 have hrm2:W2.α.room=room:=hE2.room.trans hrm
 have hac2:=hE2.acts.2
 obtain⟨hfo2,hsub2⟩:=hfo W2 r2 i hJ2
 have hmi:aAb size f.width i≤aAb size f.width f.count:=aAk hi
 have hki:i*Z.κ≤f.count*Z.κ:=A5 _ hi
 have hz:tv T5.zero= .agg #[.int .i64 T5.zero.c0,.int .i64 T5.zero.c1,.int .i64 T5.zero.c2,.int .i64 T5.zero.c3,.int .i64 T5.zero.c4]:=rfl
 by_cases hlt:i<f.count
 ·have htg:ts[i]? =some ts[i]:=AE (by omega)
  have hNx:=aJp bw bd ba bs W2 cd2 ca2 cs2 hW2 bx f ts Lv (by rw[hsz2];exact hfo2) hsub2 g _ hg2 i cx2 cb2 hrd2 _ htg (by omega)
  have htv:tv ts[i]= .agg #[.int .i64 (ts[i]).c0,.int .i64 (ts[i]).c1,.int .i64 (ts[i]).c2,.int .i64 (ts[i]).c3,.int .i64 (ts[i]).c4]:=rfl
  rw[htv,hz,hsz2] at hNx
  have hS0:=fun W cd ca cs=>hsee (g::base) W cd ca cs r2 i ts[i]
  generalize ht:ts[i]=t at*
  have htv2:tv t= .agg #[.int .i64 t.c0,.int .i64 t.c1,.int .i64 t.c2,.int .i64 t.c3,.int .i64 t.c4]:=rfl
  have hm1:aAb size f.width (i+1)≤aAb size f.width f.count:=aAk hlt
  have hm2:aAb size f.width i≤aAb size f.width (i+1):=aAk (by omega)
  have hk1':(i+1)*Z.κ=i*Z.κ+Z.κ:=BD _ _
  have hk2':(i+1)*Z.κ≤f.count*Z.κ:=A5 _ hlt
  repeat(refine st ?_;intros)
  refine R.call (hct:=hNx) (h:= ?_)
  rintro _ _ ⟨cd3,ca3,W3,cx3,cb3,rfl,hW3,hE3,hd3,hσ3,hl3,⟨rfl,hα3,hr3⟩|⟨rfl,hf3,hδ3,hg3,hx3⟩⟩
  try dsimp only[AA,AB]
  ·have hJ3:Z.J W3 r2 i:=hZ.stay _ _ _ _ hJ2 hE3.size hd3 hσ3 hl3 hE3.fault
   have hac3:=hE3.acts.2
   have hgp:W3.α.gs.Perm (Z.own r2++(g::base)):=by rw[hα3];exact hg2.trans B0.symm
   have hS:=hS0 W3 cd3 ca3 cs2 hW3 hgp (by rw[hα3];exact hrm2) (hE3.size.trans hsz2) hJ3 htg (by omega)
   rw[htv2] at hS
   repeat(refine st ?_;intros)
   apply R.callV
   ·exact rfl
   ·exact hcal
   ·exact rfl
   ·exact hS
   ·exact(by repeat(first|exact aAo.nil|(apply aAo.cons;·(repeat(first|exact aAn.here|apply aAn.there|exact aAn.nil)))))
   ·exact rfl
   ·exact nle rfl
   rintro _ _ ⟨cd4,ca4,cs4,W4,r4,e,rfl,rfl,hW4,hE4,hg4,hJ4,hB4⟩
   dsimp only[AA,AB]
   have hr4:aGo bw bx W4 f ts g (i+1) cx3 cb3:=hr3.move hE4.size
   have hE24:=(hE2.trans hE3).trans hE4
   have hg5:W4.α.gs.Perm (g::(Z.own r4++base)):=hg4.trans B0
   by_cases he:e=0
   ·subst he
    repeat(refine st ?_;intros)
    refine Dn.round ⟨i+1,cd4,ca4,cs4,cx3,cb3,W4,r4⟩ ⟨hlt,hW4,hE24.weak (by dsimp only;omega) (AG _),hg5,hJ4 rfl,hr4⟩ (by dsimp only;omega)
   ·repeat(refine st ?_;intros)
    have hRc:=aDi bw bd ba bs W4 cd4 ca4 cs4 hW4 bx f ts g _ hg5 (i+1) cx3 cb3 hr4
    refine Go.SL.Lv.call (hc:=hRc.2) (h:= ?_)
    rintro _ _ ⟨ca5,α5,cx5,rfl,rfl,hW5,hE5,hg6,hx5⟩
    try dsimp only[AA,AB]
    (refine Go.SL.Lv.nil (Hr:=[aAh bw bd ba bs,cd4,ca5,cs4,Z.C r4]) Tryz.results90 (hR:= ?_);exact⟨cd4,ca5,cs4,_,r4,e,rfl,rfl,hW5,(hE24.trans hE5).weak (by omega) (AG _),hg6,fun h0=>absurd h0 he,fun _=>hZ.stayB _ _ _ _ (hB4 he)⟩)
  ·have hB3:Z.B W3 r2 6:=hZ.flt W2 W3 r2 i hJ2 hf3 hδ3 hσ3 hl3
   repeat(refine st ?_;intros)
   have hRc:=aJd bx cx3 hx3
   refine Go.SL.Lv.call (hc:=hRc.2) (h:= ?_)
   rintro _ _ ⟨rfl,rfl⟩
   try dsimp only[AA,AB]
   (refine Go.SL.Lv.nil (Hr:=[aAh bw bd ba bs,cd3,ca3,cs2,Z.C r2]) Tryz.results90 (hR:= ?_);exact⟨cd3,ca3,cs2,W3,r2,6,rfl,rfl,hW3,(hE2.trans hE3).weak (by omega) (AG _),hg3,fun h0=>by omega,fun _=>hB3⟩)
 ·obtain rfl:i=f.count:=by omega
  have hNe:=aFw bw bx W2 f ts g cx2 cb2 hrd2
  rw[hz] at hNe
  repeat(refine st ?_;intros)
  refine R.call (hct:=hNe) (h:= ?_)
  rintro _ _ ⟨rfl,rfl⟩
  try dsimp only[AA,AB]
  repeat(refine st ?_;intros)
  have hRc:=aDi bw bd ba bs W2 cd2 ca2 cs2 hW2 bx f ts g _ hg2 f.count cx2 cb2 hrd2
  refine Go.SL.Lv.call (hc:=hRc.2) (h:= ?_)
  rintro _ _ ⟨ca5,α5,cx5,rfl,rfl,hW5,hE5,hg6,hx5⟩
  try dsimp only[AA,AB]
  (refine Go.SL.Lv.nil (Hr:=[aAh bw bd ba bs,cd2,ca5,cs2,Z.C r2]) Tryz.results90 (hR:= ?_);exact⟨cd2,ca5,cs2,_,r2,0,rfl,rfl,hW5,(hE2.trans hE5).weak (by omega) (AG _),hg6,fun _=>hZ.stay _ _ _ _ hJ2 rfl rfl rfl rfl id,fun h0=>absurd rfl h0⟩)
def aWf (bx:Nat):Value:= .func (.func 74) #[pv bx] #[]
def bDv (bx kk:Nat) (Pst:List T5→aAc→Prop) (Br:aAc→Prop) (bnd:Nat):Prop:=
 ∀ps X t,Pst ps X→okT kk t→ps.length<bnd→Ct AC 74 [pv bx,tv t] [X] fun v H'=>
  ∃X',H'=[X']∧((v= .int .i64 0∧Pst (ps++[t]) X')∨(v= .int .i64 6∧Br X'))
structure aAt (K:Type) where
 C:K→Hp
 outs:K→T5→List T5
 next:K→T5→K
 err:K→T5→Option Nat
def aGi {K:Type} (M:aAt K) (kk:Nat) (ok:K→T5→Prop) (mk:Nat) (fs us:List Value):Prop:=
 ∀bx Pst Br bnd,bDv bx kk Pst Br bnd→∀ps X k t,Pst ps X→ok k t→ps.length+(M.outs k t).length≤bnd→
  Ct AC mk (fs++[tv t,aWf bx]++us) (X::M.C k) fun v H'=>∃X' k',H'=X'::M.C k'∧
   ((v= .int .i64 0∧M.err k t=none∧k'=M.next k t∧Pst (ps++M.outs k t) X')∨(v= .int .i64 6∧Br X')∨
    (∃n:Nat,M.err k t=some n∧n≠0∧v= .int .i64 (n:Int)∧∃ps',Pst ps' X'))
namespace aAt
variable {K:Type} (M:aAt K)
def st:K→List T5→K
 |k,[]=>k
 |k,t::ts=>st (M.next k t) ts
def all:K→List T5→List T5
 |_,[]=>[]
 |k,t::ts=>M.outs k t++all (M.next k t) ts
def bad:K→List T5→Option Nat
 |_,[]=>none
 |k,t::ts=>match M.err k t with
  |some n=>some n
  |none=>bad (M.next k t) ts
def oks (ok:K→T5→Prop):K→List T5→Prop
 |_,[]=>True
 |k,t::ts=>ok k t∧(M.err k t=none→oks ok (M.next k t) ts)
variable {M}
theorem st_app:∀(a b:List T5) (k:K),M.st k (a++b)=M.st (M.st k a) b
 |[],_,_=>rfl
 |t::a,b,k=>st_app a b (M.next k t)
theorem all_app:∀(a b:List T5) (k:K),M.all k (a++b)=M.all k a++M.all (M.st k a) b
 |[],_,_=>rfl
 |t::a,b,k=>by simp only[AA,all,st,all_app a b,AR]
theorem bad_app:∀(a b:List T5) (k:K),M.bad k (a++b)=(match M.bad k a with|some n=>some n|none=>M.bad (M.st k a) b)
 |[],_,_=>rfl
 |t::a,b,k=>by
  simp only[AA,bad,st]
  cases M.err k t with
  |some n=>rfl
  |none=>exact bad_app a b _
theorem oks_at {ok:K→T5→Prop}:∀{ts:List T5} {k:K} {i:Nat} {t:T5},M.oks ok k ts→M.bad k (ts.take i)=none→ts[i]? =some t→ok (M.st k (ts.take i)) t
 |[],_,_,_,_,_,h=>by simp at h
 |t::ts,k,0,u,h,_,h2=>by simp only[List.getElem?_cons_zero,A9] at h2;subst h2;exact h.1
 |t::ts,k,i+1,u,h,hb,h2=>by
  simp only[List.take_succ_cons,bad] at hb
  cases he:M.err k t with
  |some n=>rw[he] at hb;cases hb
  |none=>
   rw[he] at hb
   exact oks_at (ts:=ts) (h.2 he) hb (by simpa using h2)
theorem take_succ {ts:List T5} {i:Nat} {t:T5} (h:ts[i]? =some t):ts.take (i+1)=ts.take i++[t]:=by rw[BN,h];rfl
theorem all_le {ts:List T5} {k:K} (i:Nat):(M.all k (ts.take i)).length≤(M.all k ts).length:=by
 have:=congrArg List.length (all_app (M:=M) (ts.take i) (ts.drop i) k)
 rw[BT,AF] at this
 omega
theorem bad_take {ts:List T5} {k:K} {i n:Nat} (h:M.bad k (ts.take i)=some n):M.bad k ts=some n:=by
 have:=bad_app (M:=M) (ts.take i) (ts.drop i) k
 rw[BT,h] at this
 exact this
theorem oks_app {ok:K→T5→Prop}:∀{a b:List T5} {k:K},M.oks ok k (a++b)→M.oks ok k a∧(M.bad k a=none→M.oks ok (M.st k a) b)
 |[],_,_,h=>⟨trivial,fun _=>h⟩
 |t::a,b,k,h=>by
  refine⟨⟨h.1,fun he=>(oks_app (h.2 he)).1⟩,fun hb=> ?_⟩
  simp only[bad] at hb
  cases he:M.err k t with
  |some n=>rw[he] at hb;cases hb
  |none=>rw[he] at hb;exact(oks_app (h.2 he)).2 hb
theorem all_len {n:Nat} (h:∀k t,(M.outs k t).length≤n):∀(ts:List T5) (k:K),(M.all k ts).length≤ts.length*n
 |[],_=>AS _
 |t::ts,k=>by
  have h1:=h k t
  have h2:=all_len h ts (M.next k t)
  simp only[all,AF,List.length_cons,BD]
  omega
end aAt
theorem bDw (X:aAc) (H:Hp):(X::H).flatten.Perm ([X,H.flatten].flatten):=by simp
def aUh (bm bx2:Nat) (mk:Nat) (fs us:List Value) (bx:Nat):Hp:=[[(bm,row [.func (.func mk) fs.toArray us.toArray] 88)],[(bx2,row [pv bx] 120)]]
theorem bMj {K:Type} (M:aAt K) (kk:Nat) (ok:K→T5→Prop) (mk:Nat) (hcal:Callable AC mk) (fs us:List Value) (hM:aGi M kk ok mk fs us) (bm bx2 bx:Nat) (Pst:List T5→aAc→Prop) (Br:aAc→Prop) (bnd:Nat) (hP:bDv bx kk Pst Br bnd)
  (ps:List T5) (X:aAc) (k:K) (t:T5) (hX:Pst ps X) (hk:ok k t) (hb:ps.length+(M.outs k t).length≤bnd):
  Ct AC 126 [tv t,pv bm,pv bx2] [[(bm,row [.func (.func mk) fs.toArray us.toArray] 88)],[(bx2,row [pv bx] 120)],X,(M.C k).flatten] fun v H'=>
   ∃X' k',H'=[[(bm,row [.func (.func mk) fs.toArray us.toArray] 88)],[(bx2,row [pv bx] 120)],X',(M.C k').flatten]∧
   ((v= .int .i64 0∧M.err k t=none∧k'=M.next k t∧Pst (ps++M.outs k t) X')∨(v= .int .i64 6∧Br X')∨
    (∃n:Nat,M.err k t=some n∧n≠0∧v= .int .i64 (n:Int)∧∃ps',Pst ps' X')):=by
 have hC:Ct AC mk (fs++[tv t,aWf bx]++us) [X,(M.C k).flatten] fun v H'=>∃X' k',H'=[X',(M.C k').flatten]∧
   ((v= .int .i64 0∧M.err k t=none∧k'=M.next k t∧Pst (ps++M.outs k t) X')∨(v= .int .i64 6∧Br X')∨
    (∃n:Nat,M.err k t=some n∧n≠0∧v= .int .i64 (n:Int)∧∃ps',Pst ps' X')):=by
  refine Ct.convP (hM bx Pst Br bnd hP ps X k t hX hk hb) (bDw _ _).symm ?_
  rintro v H' ⟨X',k',rfl,h⟩
  exact⟨_,⟨X',k',rfl,h⟩,bDw _ _⟩
 have htv:tv t= .agg #[.int .i64 t.c0,.int .i64 t.c1,.int .i64 t.c2,.int .i64 t.c3,.int .i64 t.c4]:=rfl
 rw[htv] at hC⊢
 unfold aWf at hC
 refine Ct.intro Tryz.func126 rfl Tryz.ntmps126 (nle rfl) fun w0=> ?_;dsimp only[aAa,AD]
 repeat(refine st ?_;intros)
 apply R.callV
 ·exact rfl
 ·exact hcal
 ·exact rfl
 ·exact hC
 ·exact(by repeat(first|exact aAo.nil|(apply aAo.cons;·(repeat(first|exact aAn.here|apply aAn.there|exact aAn.nil)))))
 ·exact rfl
 ·exact nle rfl
 rintro _ _ ⟨X',k',rfl,h⟩
 dsimp only[AA,AB]
 obtain⟨e,rfl⟩:∃e:Int,_=Value.int .i64 e:=by
  rcases h with⟨e,_⟩|⟨e,_⟩|⟨n,_,_,e,_⟩
  ·exact⟨_,e⟩
  ·exact⟨_,e⟩
  ·exact⟨_,e⟩
 repeat(refine st ?_;intros)
 (refine Dn.post (Hr:=[[(bm,row [.func (.func mk) fs.toArray us.toArray] 88)],[(bx2,row [pv bx] 120)],X',(M.C k').flatten]) Tryz.results126 (hR:= ?_);exact⟨X',k',rfl,h⟩)
end Go.Proofs.YtammjnjpheobaaaGreat
namespace Go.Srt
set_option linter.unusedSectionVars false
structure Swo {α:Type} (lt:α→α→Bool):Prop where
 asym:∀a b,lt a b=true→lt b a=false
 ntrans:∀a b c,lt a b=false→lt b c=false→lt a c=false
variable {α:Type} {lt:α→α→Bool}
theorem Swo.irr (h:Swo lt) (a:α):lt a a=false:=by
 cases hl:lt a a with
 |false=>rfl
 |true=>have:=h.asym a a hl;rw[hl] at this;cases this
def eqv (lt:α→α→Bool) (a b:α):Bool:= !lt a b&& !lt b a
theorem aCv {a b:α}:eqv lt a b=true↔lt a b=false∧lt b a=false:=by simp[eqv]
theorem aKo (h:Swo lt) (a:α):eqv lt a a=true:=aCv.2 ⟨h.irr a,h.irr a⟩
theorem aMz {a b:α} (h:eqv lt a b=true):eqv lt b a=true:=aCv.2 ⟨(aCv.1 h).2,(aCv.1 h).1⟩
theorem aKp (h:Swo lt) {a b c:α} (h1:eqv lt a b=true) (h2:eqv lt b c=true):eqv lt a c=true:=
 aCv.2 ⟨h.ntrans _ _ _ (aCv.1 h1).1 (aCv.1 h2).1,h.ntrans _ _ _ (aCv.1 h2).2 (aCv.1 h1).2⟩
def aGu (once:Bool) (l:List α):List α:=if once then l.take 1 else l
def Sd (lt:α→α→Bool) (once:Bool) (l:List α):Prop:=l.Pairwise fun a b=>if once then lt a b=true else lt b a=false
def Sp (lt:α→α→Bool) (once:Bool) (l1 l2:List α):Prop:=∀x,aGu once (l1.filter (eqv lt x))=aGu once (l2.filter (eqv lt x))
theorem Sp.refl (once:Bool) (l:List α):Sp lt once l l:=fun _=>rfl
theorem Sp.symm {once:Bool} {l1 l2:List α} (h:Sp lt once l1 l2):Sp lt once l2 l1:=fun x=>(h x).symm
theorem Sp.trans {once:Bool} {l1 l2 l3:List α} (h:Sp lt once l1 l2) (h2:Sp lt once l2 l3):Sp lt once l1 l3:=fun x=>(h x).trans (h2 x)
theorem aUi (once:Bool) (a b:List α):aGu once (a++b)=aGu once (aGu once a++aGu once b):=by
 cases once with
 |false=>rfl
 |true=>
  simp only[aGu,if_true]
  cases a with
  |nil=>cases b<;>simp
  |cons x a=>simp
theorem Sp.app {once:Bool} {a b c d:List α} (h1:Sp lt once a b) (h2:Sp lt once c d):Sp lt once (a++c) (b++d):=fun x=>by
 rw[List.filter_append,List.filter_append,aUi,h1 x,h2 x,←aUi]
theorem Sp.once_of {once:Bool} {a b:List α} (h:Sp lt false a b):Sp lt once a b:=fun x=>by
 have:=h x
 simp only[aGu] at this
 simp only[Bool.false_eq_true,if_false] at this
 rw[this]
theorem Sp.swap (h:Swo lt) {once:Bool} {v x:List α} (hx:∀b∈x,∀a∈v,lt b a=true):Sp lt once (v++x) (x++v):=fun c=>by
 rw[List.filter_append,List.filter_append]
 by_cases hv:v.filter (eqv lt c)=[]
 ·rw[hv];simp
 ·have:x.filter (eqv lt c)=[]:=by
   rw[List.filter_eq_nil_iff]
   intro b hb hcb
   obtain⟨a,ha⟩:=List.exists_mem_of_ne_nil _ hv
   obtain⟨ha1,ha2⟩:=List.mem_filter.1 ha
   have h1:=aKp h (aMz hcb) ha2
   have h2:=hx b hb a ha1
   rw[(aCv.1 h1).1] at h2;cases h2
  rw[this];simp
theorem aZe (h:Swo lt) {once:Bool} {l:List α} (hs:Sd lt once l) (x:α):aGu once (l.filter (eqv lt x))=l.filter (eqv lt x):=by
 cases once with
 |false=>rfl
 |true=>
  have:(l.filter (eqv lt x)).Pairwise fun a b=>lt a b=true:=by
   have:=hs.sublist (List.filter_sublist (p:=eqv lt x))
   simpa using this
  have hm:∀a∈l.filter (eqv lt x),eqv lt x a=true:=fun a ha=>(List.mem_filter.1 ha).2
  simp only[aGu,if_true]
  revert this hm
  generalize l.filter (eqv lt x)=m
  intro h1 h2
  match m,h1,h2 with
  |[],_,_=>rfl
  |[_],_,_=>rfl
  |a::b::m,h1,h2=>
   exfalso
   have h3:=List.rel_of_pairwise_cons h1 (List.mem_cons_self (a:=b) (l:=m))
   have h4:=aKp h (aMz (h2 a (by simp))) (h2 b (by simp))
   rw[(aCv.1 h4).1] at h3;cases h3
theorem Sd.weak (h:Swo lt) {once:Bool} {l:List α} (hs:Sd lt once l):Sd lt false l:=by
 cases once with
 |false=>exact hs
 |true=>exact List.Pairwise.imp (fun {a b} hab=>by simpa using h.asym a b (by simpa using hab)) hs
theorem bKn (h:Swo lt):∀{l1 l2:List α},Sd lt false l1→Sd lt false l2→Sp lt false l1 l2→l1=l2
 |[],[],_,_,_=>rfl
 |[],b::l2,_,_,hp=>by have:=hp b;simp[aGu,aKo h] at this
 |a::l1,[],_,_,hp=>by have:=hp a;simp[aGu,aKo h] at this
 |a::l1,b::l2,h1,h2,hp=>by
  have hp':∀x,(a::l1).filter (eqv lt x)=(b::l2).filter (eqv lt x):=fun x=>by have:=hp x;simpa[aGu] using this
  have mem:∀x,x∈a::l1↔x∈b::l2:=fun x=>by
   have e:=hp' x
   constructor
   ·intro hm
    exact(List.mem_filter.1 (e▸List.mem_filter.2 ⟨hm,aKo h x⟩)).1
   ·intro hm
    exact(List.mem_filter.1 (e.symm▸List.mem_filter.2 ⟨hm,aKo h x⟩)).1
  have hba:lt b a=false:=by
   rcases List.mem_cons.1 ((mem b).2 List.mem_cons_self) with rfl|hm
   ·exact h.irr _
   ·simpa using List.rel_of_pairwise_cons h1 hm
  have hab:lt a b=false:=by
   rcases List.mem_cons.1 ((mem a).1 List.mem_cons_self) with rfl|hm
   ·exact h.irr _
   ·simpa using List.rel_of_pairwise_cons h2 hm
  have e1:eqv lt a b=true:=aCv.2 ⟨hab,hba⟩
  have e:=hp' a
  simp only[List.filter_cons,aKo h,e1,if_true,List.cons.injEq] at e
  obtain⟨rfl,_⟩:=e
  congr 1
  refine bKn h (List.Pairwise.of_cons h1) (List.Pairwise.of_cons h2) fun x=> ?_
  have:=hp' x
  simp only[List.filter_cons] at this
  simp only[aGu,Bool.false_eq_true,if_false]
  split at this
  ·exact(List.cons.inj this).2
  ·exact this
theorem bMk (h:Swo lt) {once:Bool} {l1 l2:List α} (h1:Sd lt once l1) (h2:Sd lt once l2) (hp:Sp lt once l1 l2):l1=l2:=
 bKn h (h1.weak h) (h2.weak h) fun x=>by
  have:=hp x
  rw[aZe h h1,aZe h h2] at this
  simpa[aGu] using this
variable [Inhabited α]
def sw (l:List α) (i j:Nat):List α:=(l.set i (l.getD j default)).set j (l.getD i default)
@[simp] theorem aOe (l:List α) (i j:Nat):(sw l i j).length=l.length:=by simp[sw]
theorem aRq (P S:List α) (i:Nat) (h:i<P.length):(P++S).getD i default=P.getD i default:=by
 simp[List.getD_eq_getElem?_getD,List.getElem?_append_left h]
theorem aPq (P S:List α) (i:Nat) (h:P.length≤i):(P++S).getD i default=S.getD (i-P.length) default:=by
 simp[List.getD_eq_getElem?_getD,List.getElem?_append_right h]
abbrev at_ (l:List α) (k:Nat):α:=l.getD k default
theorem aJz (l:List α) (i j k:Nat) (hi:i<l.length) (hj:j<l.length):at_ (sw l i j) k=if k=j then at_ l i else if k=i then at_ l j else at_ l k:=by
 unfold sw at_
 simp only[List.getD_eq_getElem?_getD,List.getElem?_set,List.length_set]
 by_cases h1:k=j
 ·subst h1;simp[hj]
 ·rw[if_neg (fun e=>h1 e.symm),if_neg h1]
  by_cases h2:k=i
  ·subst h2;simp[hi]
  ·rw[if_neg (fun e=>h2 e.symm),if_neg h2]
theorem bKo {l1 l2:List α} (hl:l1.length=l2.length) (h:∀k,at_ l1 k=at_ l2 k):l1=l2:=by
 apply List.ext_getElem hl
 intro k h1 h2
 have:=h k
 simpa[at_,List.getD_eq_getElem?_getD,h1,h2] using this
def aHm (l:List α) (a m b k:Nat):α:=if a≤k∧k<a+(b-m) then at_ l (k+(m-a)) else if a+(b-m)≤k∧k<b then at_ l (k-(b-m)) else at_ l k
def bCj (l:List α) (a b n k:Nat):α:=if a≤k∧k<a+n then at_ l (k+(b-a)) else if b≤k∧k<b+n then at_ l (k-(b-a)) else at_ l k
theorem bIe {l c:List α} {a b n i:Nat} (hab:a+n≤b) (hn:b+n≤l.length) (hc:c.length=l.length) (h:∀k,at_ c k=bCj l a b i k) (hi:i<n):∀k,at_ (sw c (a+i) (b+i)) k=bCj l a b (i+1) k:=by
 intro k
 rw[aJz _ _ _ _ (by omega) (by omega)]
 simp only[h,bCj]
 (repeat' split)<;>first|rfl|(exfalso;omega)|(congr 1;omega)
theorem bDx {c c':List α} {m i j:Nat} (hi:i≤m) (hij:j<i) (h:∀k,at_ c' k=bCj c (m-i) m j k):∀k,aHm c' (m-(i-j)) m (m+j) k=aHm c (m-i) m (m+j) k:=by
 intro k
 simp only[aHm,h,bCj]
 (repeat' split)<;>first|rfl|(exfalso;omega)|(congr 1;omega)
theorem bDy {c c':List α} {m i j:Nat} (hi:i≤m) (hij:i<j) (h:∀k,at_ c' k=bCj c (m-i) (m+j-i) i k):∀k,aHm c' (m-i) m (m+(j-i)) k=aHm c (m-i) m (m+j) k:=by
 intro k
 simp only[aHm,h,bCj]
 (repeat' split)<;>first|rfl|(exfalso;omega)|(congr 1;omega)
theorem bIf {c c':List α} {m i:Nat} (hi:i≤m) (h:∀k,at_ c' k=bCj c (m-i) m i k):∀k,at_ c' k=aHm c (m-i) m (m+i) k:=by
 intro k
 simp only[aHm,h,bCj]
 (repeat' split)<;>first|rfl|(exfalso;omega)|(congr 1;omega)
theorem aZf (l:List α) {a m b:Nat} (h:a=m∨m=b) (h1:a≤m) (h2:m≤b):∀k,aHm l a m b k=at_ l k:=by
 intro k
 simp only[aHm]
 split
 ·congr 1;omega
 ·split
  ·congr 1;omega
  ·rfl
theorem aUj {l:List α} {a n:Nat} {x:α} (h:x∈(l.drop a).take n):∃k,a≤k∧k<a+n∧x=at_ l k:=by
 obtain⟨i,hi⟩:=List.getElem?_of_mem h
 rw[List.getElem?_take] at hi
 split at hi
 ·rename_i hin
  rw[List.getElem?_drop] at hi
  exact⟨a+i,by omega,by omega,by simp[at_,List.getD_eq_getElem?_getD,hi]⟩
 ·cases hi
theorem aZg (l:List α) (a n k:Nat) (h:k<n):at_ ((l.drop a).take n) k=at_ l (a+k):=by
 simp[at_,List.getD_eq_getElem?_getD,List.getElem?_take,h]
theorem aUk (P S:List α) (k:Nat):at_ (P++S) k=if k<P.length then at_ P k else at_ S (k-P.length):=by
 split
 ·exact aRq P S k (by assumption)
 ·exact aPq P S k (by omega)
theorem cut4 (l:List α) {a m b:Nat} (h1:a≤m) (h2:m≤b) (hb:b≤l.length):l=l.take a++((l.drop a).take (m-a)++((l.drop m).take (b-m)++l.drop b)):=by
 have e1:(l.drop m).take (b-m)++l.drop b=l.drop m:=by
  have:=List.take_append_drop (b-m) (l.drop m)
  rwa[List.drop_drop,show m+(b-m)=b by omega] at this
 have e2:(l.drop a).take (m-a)++l.drop m=l.drop a:=by
  have:=List.take_append_drop (m-a) (l.drop a)
  rwa[List.drop_drop,show a+(m-a)=m by omega] at this
 rw[e1,e2,List.take_append_drop]
theorem rot_eq {l l':List α} {a m b:Nat} (h1:a≤m) (h2:m≤b) (hb:b≤l.length) (hl:l'.length=l.length) (hr:∀k,at_ l' k=aHm l a m b k):
  l'=l.take a++((l.drop m).take (b-m)++((l.drop a).take (m-a)++l.drop b)):=by
 apply bKo
 ·simp;omega
 ·intro k
  rw[hr,aUk,aUk,aUk]
  simp only[aHm,List.length_take,List.length_drop]
  have e1:min a l.length=a:=by omega
  have e2:min (b-m) (l.length-m)=b-m:=by omega
  have e3:min (m-a) (l.length-a)=m-a:=by omega
  rw[e1,e2,e3]
  by_cases k1:k<a
  ·rw[if_neg (by omega),if_neg (by omega),if_pos k1]
   simp[at_,List.getD_eq_getElem?_getD,List.getElem?_take,k1]
  ·rw[if_neg k1]
   by_cases k2:k-a<b-m
   ·rw[if_pos (by omega),if_pos k2,aZg _ _ _ _ k2]
    congr 1;omega
   ·rw[if_neg k2,if_neg (by omega)]
    by_cases k3:k-a-(b-m)<m-a
    ·rw[if_pos (by omega),if_pos k3,aZg _ _ _ _ k3]
     congr 1;omega
    ·rw[if_neg (by omega),if_neg k3]
     simp[at_,List.getD_eq_getElem?_getD]
     congr 2;omega
theorem bKp (h:Swo lt) {l l':List α} {a m b:Nat} (h1:a≤m) (h2:m≤b) (hb:b≤l.length) (hl:l'.length=l.length) (hr:∀k,at_ l' k=aHm l a m b k)
  (hc:∀i j,a≤i→i<m→m≤j→j<b→lt (at_ l j) (at_ l i)=true):Sp lt false l l':=by
 rw[rot_eq h1 h2 hb hl hr]
 conv=>lhs;rw[cut4 l h1 h2 hb]
 refine Sp.app (Sp.refl _ _) ?_
 rw[←List.append_assoc,←List.append_assoc]
 refine Sp.app (Sp.swap h ?_) (Sp.refl _ _)
 intro x hx v hv
 obtain⟨j,j1,j2,rfl⟩:=aUj hx
 obtain⟨i,i1,i2,rfl⟩:=aUj hv
 exact hc i j i1 (by omega) j1 (by omega)
def Seg (lt:α→α→Bool) (l:List α) (a b:Nat):Prop:=∀i j,a≤i→i<j→j<b→lt (at_ l j) (at_ l i)=false
def Ins (l l':List α) (a b:Nat):Prop:=(∀k,a≤k→k<b→∃k',a≤k'∧k'<b∧at_ l' k=at_ l k')∧(∀k,k<a∨b≤k→at_ l' k=at_ l k)∧l'.length=l.length
theorem Ins.refl (l:List α) (a b:Nat):Ins l l a b:=⟨fun k h1 h2=>⟨k,h1,h2,rfl⟩,fun _ _=>rfl,rfl⟩
theorem Ins.trans {l1 l2 l3:List α} {a b:Nat} (h:Ins l1 l2 a b) (h2:Ins l2 l3 a b):Ins l1 l3 a b:=
 ⟨fun k k1 k2=>by
  obtain⟨k',e1,e2,e3⟩:=h2.1 k k1 k2
  obtain⟨k'',f1,f2,f3⟩:=h.1 k' e1 e2
  exact⟨k'',f1,f2,e3.trans f3⟩,fun k hk=>(h2.2.1 k hk).trans (h.2.1 k hk),h2.2.2.trans h.2.2⟩
theorem Ins.wide {l l':List α} {a b c d:Nat} (h:Ins l l' a b) (h1:c≤a) (h2:b≤d):Ins l l' c d:=
 ⟨fun k k1 k2=>by
  by_cases hk:a≤k∧k<b
  ·obtain⟨k',e1,e2,e3⟩:=h.1 k hk.1 hk.2
   exact⟨k',by omega,by omega,e3⟩
  ·exact⟨k,k1,k2,h.2.1 k (by omega)⟩,fun k hk=>h.2.1 k (by omega),h.2.2⟩
theorem Ins.rot {l l':List α} {a m b:Nat} (h1:a≤m) (h2:m≤b) (hl:l'.length=l.length) (hr:∀k,at_ l' k=aHm l a m b k):Ins l l' a b:=by
 refine⟨fun k k1 k2=> ?_,fun k hk=> ?_,hl⟩
 ·rw[hr];unfold aHm
  split
  ·exact⟨_,by omega,by omega,rfl⟩
  ·split
   ·exact⟨_,by omega,by omega,rfl⟩
   ·exact⟨k,k1,k2,rfl⟩
 ·rw[hr];unfold aHm
  rw[if_neg (by omega),if_neg (by omega)]
theorem Seg.out {l l':List α} {a b c d:Nat} (h:Seg lt l c d) (hi:Ins l l' a b) (hd:d≤a∨b≤c):Seg lt l' c d:=fun i j h1 h2 h3=>by
 rw[hi.2.1 i (by omega),hi.2.1 j (by omega)]
 exact h i j h1 h2 h3
theorem bDz (h:Swo lt) {l l1:List α} {a m b mid n start e low high:Nat} (ham:a<m) (hmb:m<b)
  (s1:Seg lt l a m) (s2:Seg lt l m b) (hmid:mid=(a+b)/2) (hn:n=mid+m) (he:e=n-start)
  (hlow:low=if mid<m then n-b else a) (hhigh:high=if mid<m then mid else m) (hls:low≤start) (hsh:start≤high)
  (f1:start=low∨lt (at_ l (n-start)) (at_ l (start-1))=false) (f2:start=high∨lt (at_ l (n-1-start)) (at_ l start)=true)
  (hr:∀k,at_ l1 k=aHm l start m e k):
  (∀i j,start≤i→i<m→m≤j→j<e→lt (at_ l j) (at_ l i)=true)∧
  (Seg lt l1 a start∧Seg lt l1 start mid∧Seg lt l1 mid e∧Seg lt l1 e b)∧
  (∀i j,a≤i→i<mid→mid≤j→j<b→lt (at_ l1 j) (at_ l1 i)=false)∧a≤start∧start≤m∧m≤e∧e≤b∧start≤mid∧mid≤e:=by
 have hb0:a≤start∧start≤m∧m≤e∧e≤b∧start≤mid∧mid≤e∧mid-start=e-m:=by
  split at hlow<;>split at hhigh<;>omega
 obtain⟨b1,b2,b3,b4,b5,b6,b7⟩:=hb0
 have hC1:∀i j,start≤i→i<m→m≤j→j<e→lt (at_ l j) (at_ l i)=true:=by
  intro i j i1 i2 j1 j2
  rcases f2 with f2|f2
  ·exfalso
   split at hhigh<;>omega
  ·rw[show n-1-start=e-1 by omega] at f2
   cases hlt:lt (at_ l j) (at_ l i) with
   |true=>rfl
   |false=>
    exfalso
    have g1:lt (at_ l (e-1)) (at_ l j)=false:=by
     by_cases hj:j=e-1
     ·subst hj;exact h.irr _
     ·exact s2 j (e-1) j1 (by omega) (by omega)
    have g2:lt (at_ l i) (at_ l start)=false:=by
     by_cases hj:i=start
     ·subst hj;exact h.irr _
     ·exact s1 start i b1 (by omega) i2
    have:=h.ntrans _ _ _ g1 (h.ntrans _ _ _ hlt g2)
    rw[f2] at this;cases this
 have r1:∀k,k<start→at_ l1 k=at_ l k:=fun k hk=>by rw[hr,aHm,if_neg (by omega),if_neg (by omega)]
 have r2:∀k,start≤k→k<mid→at_ l1 k=at_ l (k+(m-start)):=fun k h1 h2=>by rw[hr,aHm,if_pos (by omega)]
 have r3:∀k,mid≤k→k<e→at_ l1 k=at_ l (k-(e-m)):=fun k h1 h2=>by rw[hr,aHm,if_neg (by omega),if_pos (by omega)]
 have r4:∀k,e≤k→at_ l1 k=at_ l k:=fun k hk=>by rw[hr,aHm,if_neg (by omega),if_neg (by omega)]
 refine⟨hC1,⟨?_,?_,?_,?_⟩,?_,b1,b2,b3,b4,b5,b6⟩
 ·intro i j i1 i2 i3
  rw[r1 i (by omega),r1 j i3]
  exact s1 i j i1 i2 (by omega)
 ·intro i j i1 i2 i3
  rw[r2 i i1 (by omega),r2 j (by omega) i3]
  exact s2 _ _ (by omega) (by omega) (by omega)
 ·intro i j i1 i2 i3
  rw[r3 i i1 (by omega),r3 j (by omega) i3]
  exact s1 _ _ (by omega) (by omega) (by omega)
 ·intro i j i1 i2 i3
  rw[r4 i i1,r4 j (by omega)]
  exact s2 _ _ (by omega) (by omega) (by omega)
 ·intro i j i1 i2 j1 j2
  by_cases hi:i<start
  ·rw[r1 i hi]
   by_cases hj:j<e
   ·rw[r3 j j1 hj]
    exact s1 _ _ i1 (by omega) (by omega)
   ·rw[r4 j (by omega)]
    rcases f1 with f1|f1
    ·exfalso
     split at hlow<;>omega
    ·rw[←he] at f1
     have g1:lt (at_ l (start-1)) (at_ l i)=false:=by
      by_cases hh:i=start-1
      ·subst hh;exact h.irr _
      ·exact s1 _ _ i1 (by omega) (by omega)
     have g2:lt (at_ l j) (at_ l e)=false:=by
      by_cases hh:j=e
      ·subst hh;exact h.irr _
      ·exact s2 _ _ (by omega) (by omega) (by omega)
     exact h.ntrans _ _ _ g2 (h.ntrans _ _ _ f1 g1)
  ·rw[r2 i (by omega) i2]
   by_cases hj:j<e
   ·rw[r3 j j1 hj]
    exact h.asym _ _ (hC1 _ _ (by omega) (by omega) (by omega) (by omega))
   ·rw[r4 j (by omega)]
    exact s2 _ _ (by omega) (by omega) (by omega)
theorem aRr {l:List α} {a mid b:Nat} (h1:Seg lt l a mid) (h2:Seg lt l mid b) (hc:∀i j,a≤i→i<mid→mid≤j→j<b→lt (at_ l j) (at_ l i)=false):Seg lt l a b:=by
 intro i j i1 i2 i3
 by_cases hi:j<mid
 ·exact h1 i j i1 i2 hi
 ·by_cases hj:i<mid
  ·exact hc i j i1 hj (by omega) i3
  ·exact h2 i j (by omega) i2 i3
theorem bBe {l l':List α} {a mid b:Nat} (hc:∀i j,a≤i→i<mid→mid≤j→j<b→lt (at_ l j) (at_ l i)=false) (h:Ins l l' a mid):
  ∀i j,a≤i→i<mid→mid≤j→j<b→lt (at_ l' j) (at_ l' i)=false:=by
 intro i j i1 i2 j1 j2
 obtain⟨k,k1,k2,k3⟩:=h.1 i i1 i2
 rw[k3,h.2.1 j (by omega)]
 exact hc k j k1 k2 j1 j2
theorem aWy {l l':List α} {a mid b:Nat} (hc:∀i j,a≤i→i<mid→mid≤j→j<b→lt (at_ l j) (at_ l i)=false) (h:Ins l l' mid b):
  ∀i j,a≤i→i<mid→mid≤j→j<b→lt (at_ l' j) (at_ l' i)=false:=by
 intro i j i1 i2 j1 j2
 obtain⟨k,k1,k2,k3⟩:=h.1 j j1 j2
 rw[k3,h.2.1 i (by omega)]
 exact hc i k i1 i2 k1 k2
theorem sw_sp (h:Swo lt) {l:List α} {j:Nat} (hj:0<j) (hl:j<l.length) (hlt:lt (at_ l j) (at_ l (j-1))=true):Sp lt false l (sw l j (j-1)):=by
 refine bKp h (a:=j-1) (m:=j) (b:=j+1) (by omega) (by omega) (by omega) (by simp) ?_ ?_
 ·intro k
  rw[aJz _ _ _ _ (by omega) (by omega)]
  unfold aHm
  by_cases h1:k=j-1
  ·rw[if_pos h1,if_pos (by omega)];congr 1;omega
  ·rw[if_neg h1]
   by_cases h2:k=j
   ·rw[if_pos h2,if_neg (by omega),if_pos (by omega)];congr 1;omega
   ·rw[if_neg h2,if_neg (by omega),if_neg (by omega)]
 ·intro i k i1 i2 k1 k2
  rw[show i=j-1 by omega,show k=j by omega];exact hlt
theorem sw_ins {l:List α} {i j a b:Nat} (hi:a≤i∧i<b) (hj:a≤j∧j<b) (hb:b≤l.length):Ins l (sw l i j) a b:=by
 refine⟨fun k k1 k2=> ?_,fun k hk=> ?_,by simp⟩
 ·rw[aJz _ _ _ _ (by omega) (by omega)]
  split
  ·exact⟨i,hi.1,hi.2,rfl⟩
  ·split
   ·exact⟨j,hj.1,hj.2,rfl⟩
   ·exact⟨k,k1,k2,rfl⟩
 ·rw[aJz _ _ _ _ (by omega) (by omega),if_neg (by omega),if_neg (by omega)]
def bIg (lt:α→α→Bool) (l:List α) (a i j:Nat):Prop:=(∀p q,a≤p→p<q→q≤i→p≠j→q≠j→lt (at_ l q) (at_ l p)=false)∧(∀q,j<q→q≤i→lt (at_ l q) (at_ l j)=false)
theorem bIg.start {l:List α} {a i:Nat} (h:Seg lt l a i):bIg lt l a i i:=⟨fun p q h1 h2 h3 h4 h5=>h p q h1 h2 (by omega),fun q h1 h2=>by omega⟩
theorem bIg.step (h:Swo lt) {l:List α} {a i j:Nat} (hd:bIg lt l a i j) (haj:a<j) (hji:j≤i) (hl:i<l.length) (hlt:lt (at_ l j) (at_ l (j-1))=true):bIg lt (sw l j (j-1)) a i (j-1):=by
 obtain⟨h1,h2⟩:=hd
 refine⟨fun p q p1 p2 p3 p4 p5=> ?_,fun q q1 q2=> ?_⟩
 ·rw[aJz _ _ _ _ (by omega) (by omega),aJz _ _ _ _ (by omega) (by omega),if_neg p5,if_neg p4]
  by_cases e1:q=j
  ·subst e1
   rw[if_pos rfl,if_neg (by omega)]
   exact h1 p (q-1) p1 (by omega) (by omega) (by omega) (by omega)
  ·rw[if_neg e1]
   by_cases e2:p=j
   ·subst e2
    rw[if_pos rfl]
    exact h1 (p-1) q (by omega) (by omega) p3 (by omega) e1
   ·rw[if_neg e2]
    exact h1 p q p1 p2 p3 e2 e1
 ·rw[aJz _ _ _ _ (by omega) (by omega),aJz _ _ _ _ (by omega) (by omega),if_neg (by omega),if_pos rfl]
  by_cases e1:q=j
  ·subst e1
   rw[if_pos rfl]
   exact h.asym _ _ hlt
  ·rw[if_neg e1]
   exact h2 q (by omega) q2
theorem bIg.stop (h:Swo lt) {l:List α} {a i j:Nat} (hd:bIg lt l a i j) (hs:j=a∨lt (at_ l j) (at_ l (j-1))=false) (haj:a≤j):Seg lt l a (i+1):=by
 obtain⟨h1,h2⟩:=hd
 intro p q p1 p2 p3
 by_cases e1:p=j
 ·subst e1;exact h2 q p2 (by omega)
 ·by_cases e2:q=j
  ·subst e2
   rcases hs with hs|hs
   ·omega
   ·by_cases e3:p=q-1
    ·subst e3;exact hs
    ·exact h.ntrans _ _ _ hs (h1 p (q-1) p1 (by omega) (by omega) (by omega) (by omega))
  ·exact h1 p q p1 p2 (by omega) e1 e2
theorem seg_sd {l:List α} (h:Seg lt l 0 l.length):Sd lt false l:=by
 unfold Sd
 rw[List.pairwise_iff_getElem]
 intro i j hi hj hij
 have:=h i j (by omega) hij hj
 simpa[at_,List.getD_eq_getElem?_getD,hi,hj] using this
end Go.Srt
namespace Go.Proofs.YtammjnjpheobaaaGreat
open Go.SL Go.Spc Go.Tup Go.Srt
instance:Inhabited T5:=⟨⟨0,0,0,0,0⟩⟩
def bKq (o:T5):List Value:=[.int .i64 o.c0,.int .i64 o.c1,.int .i64 o.c2,.int .i64 o.c3,.int .i64 o.c4]
def aBu (bb k n:Nat) (o:T5):List Value:=[pv bb,.int .i64 (k:Int),.int .i64 (n:Int),.int .i64 o.c0,.int .i64 o.c1,.int .i64 o.c2,.int .i64 o.c3,.int .i64 o.c4]
def aEt (bx:Nat) (g:Gr) (k:Nat) (o:T5) (ts:List T5) (rest:List Int):Hp:=
 [[(bx,row (aBu g.bb k ts.length o) 211)],[g.obj],[(g.br,row (aAg (aBo k ts++rest)) 158)]]
def T5.setCol (t:T5) (c:Nat) (v:Int):T5:=
 match c with
 |0=>{t with c0:=v}
 |1=>{t with c1:=v}
 |2=>{t with c2:=v}
 |3=>{t with c3:=v}
 |4=>{t with c4:=v}
 |_=>t
theorem aWz (t:T5) (c:Nat) (v:Int) (h:c<5):(T5.setCol t c v).toList=t.toList.set c v:=by
 match c,h with
 |0,_=>rfl
 |1,_=>rfl
 |2,_=>rfl
 |3,_=>rfl
 |4,_=>rfl
theorem tw_set (t:T5) (k c:Nat) (v:Int) (h:c<k) (hk:k≤5):tw k (T5.setCol t c v)=(tw k t).set c (wd v):=by
 unfold tw
 rw[aWz t c v (by omega),List.take_set,List.map_set]
theorem aUl (k c:Nat) (v:Int) (hc:c<k) (hk:k≤5):∀(ts:List T5) (i:Nat),i<ts.length→(aBo k ts).set (i*k+c) (wd v)=aBo k (ts.set i (T5.setCol (at_ ts i) c v))
 |[],_,h=>by simp at h
 |t::ts,0,_=>by
  simp only[aBo,A6,Nat.zero_mul,BR,List.set_cons_zero]
  rw[List.set_append_left _ _ (by rw[aCn t hk];exact hc)]
  show _=tw k (T5.setCol t c v)++_
  rw[tw_set t k c v hc hk]
 |t::ts,i+1,h=>by
  have ih:=aUl k c v hc hk ts i (by simpa using h)
  simp only[aBo,A6,List.set_cons_succ] at ih⊢
  rw[List.set_append_right _ _ (by rw[aCn t hk,BD];omega),aCn t hk,show(i+1)*k+c-k=i*k+c by rw[BD];omega,ih]
  rfl
theorem aQj (k c:Nat) (hc:c<k) (hk:k≤5):∀(ts:List T5) (i:Nat),i<ts.length→(aBo k ts)[i*k+c]? =some (wd ((at_ ts i).col c))
 |[],_,h=>by simp at h
 |t::ts,0,_=>by
  simp only[aBo,A6,Nat.zero_mul,BR]
  rw[A7 (by rw[aCn t hk];exact hc),aZc t k c hc hk]
  rfl
 |t::ts,i+1,h=>by
  have ih:=aQj k c hc hk ts i (by simpa using h)
  simp only[aBo,A6] at ih⊢
  rw[List.getElem?_append_right (by rw[aCn t hk,BD];omega),aCn t hk,show(i+1)*k+c-k=i*k+c by rw[BD];omega,ih]
  rfl
theorem aUm {i n k c:Nat} (hi:i<n) (hc:c<k):i*k+c<n*k:=by
 have:(i+1)*k≤n*k:=A5 _ hi
 rw[BD] at this;omega
theorem bEa {k c:Nat} (hc:c<k) (hk:k≤5) {ts:List T5} {i:Nat} (hi:i<ts.length) {rest:List Int}:(aAg (aBo k ts++rest))[i*k+c]? =some (.int .u64 (wd ((at_ ts i).col c))):=by
 unfold aAg
 rw[BP,A7 (by rw[aCf hk];exact aUm hi hc),aQj k c hc hk ts i hi]
 rfl
theorem bKr {k c:Nat} (hc:c<k) (hk:k≤5) {ts:List T5} {i:Nat} (hi:i<ts.length) {rest:List Int} (v:Int):(aAg (aBo k ts++rest)).set (i*k+c) (.int .u64 (wd v))=aAg (aBo k (ts.set i (T5.setCol (at_ ts i) c v))++rest):=by
 rw[aGr,List.set_append_left _ _ (by rw[aCf hk];exact aUm hi hc),aUl k c v hc hk ts i hi]
theorem bMl (bx:Nat) (g:Gr) (k:Nat) (o:T5) (ts:List T5) (rest:List Int) (h1:1≤k) (h2:k≤5) (hg:g.n≤1000000000) (hgn:ts.length*k≤g.n) (hok:∀t∈ts,okT k t) (i:Nat) (hi:i<ts.length):
  CtQ AC 182 [pv bx,.int .i64 (i:Int)] (aEt bx g k o ts rest) (tv (at_ ts i)):=by
 have hm:at_ ts i∈ts:=by
  unfold at_;rw[AN,AE hi];exact B4 hi
 have hokt:=hok _ hm
 have hback:∀c,c<k→AH .i64 (wd ((at_ ts i).col c))=(at_ ts i).col c:=fun c hc=>aTv (bDr hokt c (by omega))
 have htz:=aQi (at_ ts i)
 have htp:=aMk (at_ ts i)
 have htset:=aUe (at_ ts i)
 have htall:=aUf (at_ ts i) k h2 hokt
 have hik:i*k≤ts.length*k:=A5 _ (by omega)
 have hmul:AH .i64 ((i:Int)*(k:Int))=((i*k:Nat):Int):=by rw[←Int.natCast_mul];exact aAd (by omega)
 have hget:∀c,c<k→(aAg (aBo k ts++rest))[i*k+c]? =some (.int .u64 (wd ((at_ ts i).col c))):=fun c hc=>bEa hc h2 hi
 have hidx:∀c,c<k→i*k+c<ts.length*k:=fun c hc=>aUm hi hc
 generalize hcells:aAg (aBo k ts++rest)=cells at*
 generalize at_ ts i=t at*
 generalize hn:ts.length=n at*
 unfold aEt aBu Gr.obj
 rw[hcells,hn]
 generalize hik2:i*k=ik at*
 refine Ct.intro Tryz.func182 rfl Tryz.ntmps182 (nle rfl) fun w0=> ?_;dsimp only[aAa,AD]
 repeat(first|(refine st ?_;intros)|refine G.draw [] (h:= ?_))
 rename_i b4 b5
 refine G.loop (X:=Nat) (fun c=>c≤k) (fun c=>[(11,.int .i64 (c:Int)),(10,.int .i64 (k:Int)),(0,pv bx),(1,.int .i64 (i:Int)),(5,.pointer (some ⟨b5,0,none⟩)),(4,.pointer (some ⟨b4,0,none⟩))])
  (fun c=>[[(b4,row (aIj t 0) 49)],[(b5,row (aIj t c) 49)],[(bx,row [pv g.bb,.int .i64 (k:Int),.int .i64 (n:Int),.int .i64 o.c0,.int .i64 o.c1,.int .i64 o.c2,.int .i64 o.c3,.int .i64 o.c4] 211)],[(g.bb,row [.slice (some ⟨g.br,0,none⟩) g.n g.n] 161)],[(g.br,row cells 158)]])
  (fun c=>k-c) 0 (by omega) (body:= ?_)
 intro c hc
 by_cases hck:c<k
 ·have hgi:=hget c hck
  have hbi:=hback c hck
  have hti:=htset c (by omega)
  have htl:=htp c (by omega)
  have hid:=hidx c hck
  have hai:((ik:Int)+(c:Int)).toNat=ik+c:=by omega
  repeat(first|(refine st ?_;intros)|refine G.draw [] (h:= ?_))
  exact Dn.round (c+1) (by omega) (by omega)
 ·have hki:k=c:=by omega
  subst hki
  rw[htall,htz]
  unfold aAl
  repeat(first|(refine st ?_;intros)|refine G.draw [] (h:= ?_))
  (refine Dn.post (Hr:=[[(bx,row [pv g.bb,.int .i64 (k:Int),.int .i64 (n:Int),.int .i64 o.c0,.int .i64 o.c1,.int .i64 o.c2,.int .i64 o.c3,.int .i64 o.c4] 211)],[(g.bb,row [.slice (some ⟨g.br,0,none⟩) g.n g.n] 161)],[(g.br,row cells 158)]]) Tryz.results182 (hR:= ?_);exact⟨rfl,rfl⟩)
theorem bMm (bx:Nat) (g:Gr) (k:Nat) (o:T5) (ts:List T5) (rest:List Int):CtQ AC 220 [pv bx] (aEt bx g k o ts rest) (.int .i64 (ts.length:Int)):=by
 unfold aEt aBu
 refine Ct.intro Tryz.func220 rfl Tryz.ntmps220 (nle rfl) fun w0=> ?_;dsimp only[aAa,AD]
 repeat(refine st ?_;intros)
 (refine Dn.post (Hr:=[[(bx,row [pv g.bb,.int .i64 (k:Int),.int .i64 (ts.length:Int),.int .i64 o.c0,.int .i64 o.c1,.int .i64 o.c2,.int .i64 o.c3,.int .i64 o.c4] 211)],[g.obj],[(g.br,row (aAg (aBo k ts++rest)) 158)]]) Tryz.results220 (hR:= ?_);exact⟨rfl,rfl⟩)
def ltO (o:T5) (a b:T5):Bool:=decide (aJo o a b<0)
theorem aBv (o:T5):Swo (ltO o) where
 asym:=fun a b h=>by
  simp only[ltO,decide_eq_true_eq,decide_eq_false_iff_not] at*
  have:=aDu o a b;omega
 ntrans:=fun a b c h1 h2=>by
  simp only[ltO,decide_eq_false_iff_not] at*
  have e1:=aDu o a b
  have e2:=aDu o b c
  have e3:=aDu o a c
  have:=aJc o c b a (by omega) (by omega)
  omega
theorem bIh (bx:Nat) (g:Gr) (k:Nat) (o:T5) (ts:List T5) (rest:List Int) (h1:1≤k) (h2:k≤5) (hg:g.n≤1000000000) (hgn:ts.length*k≤g.n) (hok:∀t∈ts,okT k t) (i j:Nat) (hi:i<ts.length) (hj:j<ts.length):
  CtQ AC 221 [pv bx,.int .i64 (i:Int),.int .i64 (j:Int)] (aEt bx g k o ts rest) (.bool (ltO o (at_ ts i) (at_ ts j))):=by
 have hA:=bMl bx g k o ts rest h1 h2 hg hgn hok i hi
 have hB:=bMl bx g k o ts rest h1 h2 hg hgn hok j hj
 have hC:CtQ AC 193 [tv (at_ ts i),tv (at_ ts j),.agg (bKq o).toArray] [] (.int .i64 (aJo o (at_ ts i) (at_ ts j))):=aLn _ _ _ _ _ _ _ _ _ _ _ _ _ _ _
 generalize tv (at_ ts i)=va at*
 generalize tv (at_ ts j)=vb at*
 have hlt:ltO o (at_ ts i) (at_ ts j)=dec (aJo o (at_ ts i) (at_ ts j)<0):=by rw[aEa];rfl
 rw[hlt]
 generalize aJo o (at_ ts i) (at_ ts j)=c at*
 unfold aEt aBu at*
 unfold bKq at hC
 refine Ct.intro Tryz.func221 rfl Tryz.ntmps221 (nle rfl) fun w0=> ?_;dsimp only[aAa,AD]
 repeat(first|(refine st ?_;intros)|refine G.draw (id:=1) [(2,.quiet),(5,.quiet),(10,.quiet)] (h:= ?_)|(refine cq hA ?_)|(refine cq hB ?_)|(refine cq hC ?_))
 (refine Dn.post (Hr:=[[(bx,row [pv g.bb,.int .i64 (k:Int),.int .i64 (ts.length:Int),.int .i64 o.c0,.int .i64 o.c1,.int .i64 o.c2,.int .i64 o.c3,.int .i64 o.c4] 211)],[g.obj],[(g.br,row (aAg (aBo k ts++rest)) 158)]]) Tryz.results221 (hR:= ?_);exact⟨rfl,rfl⟩)
def mix (c:Nat) (a b:T5):T5:=⟨if 0<c then a.c0 else b.c0,if 1<c then a.c1 else b.c1,if 2<c then a.c2 else b.c2,if 3<c then a.c3 else b.c3,if 4<c then a.c4 else b.c4⟩
theorem aZh (a b:T5):mix 0 a b=b:=rfl
theorem aZi (c:Nat) (a b:T5) (h:c<5):T5.setCol (mix c a b) c (a.col c)=mix (c+1) a b:=by
 match c,h with
 |0,_=>rfl
 |1,_=>rfl
 |2,_=>rfl
 |3,_=>rfl
 |4,_=>rfl
theorem bEb (c:Nat) (a b:T5) (h:c<5):(mix c a b).col c=b.col c:=by
 match c,h with
 |0,_=>rfl
 |1,_=>rfl
 |2,_=>rfl
 |3,_=>rfl
 |4,_=>rfl
theorem bEc (k:Nat) (a b:T5) (h:k≤5) (ha:∀i,k≤i→a.col i=0) (hb:∀i,k≤i→b.col i=0):mix k a b=a:=by
 have a0:=ha 0;have a1:=ha 1;have a2:=ha 2;have a3:=ha 3;have a4:=ha 4
 have b0:=hb 0;have b1:=hb 1;have b2:=hb 2;have b3:=hb 3;have b4:=hb 4
 obtain⟨x0,x1,x2,x3,x4⟩:=a
 obtain⟨y0,y1,y2,y3,y4⟩:=b
 simp only[T5.col] at*
 match k,h with
 |0,_=>simp_all [mix]
 |1,_=>simp_all [mix]
 |2,_=>simp_all [mix]
 |3,_=>simp_all [mix]
 |4,_=>simp_all [mix]
 |5,_=>simp[mix]
theorem aQk (ts:List T5) (i j:Nat) (t:T5) (hi:i<ts.length):at_ (ts.set i t) j=if j=i then t else at_ ts j:=by
 unfold at_
 simp only[AN,List.getElem?_set]
 by_cases h:i=j
 ·subst h;simp[hi]
 ·rw[if_neg h,if_neg (fun e=>h e.symm)]
def swc (ts:List T5) (i j c:Nat):List T5:=(ts.set i (mix c (at_ ts j) (at_ ts i))).set j (mix c (at_ ts i) (at_ ts j))
theorem bIi (bx:Nat) (g:Gr) (k:Nat) (o:T5) (ts:List T5) (rest:List Int) (h1:1≤k) (h2:k≤5) (hg:g.n≤1000000000) (hgn:ts.length*k≤g.n) (hok:∀t∈ts,okT k t) (i j:Nat) (hi:i<ts.length) (hj:j<ts.length) (hij:i≠j):
  Ct AC 222 [pv bx,.int .i64 (i:Int),.int .i64 (j:Int)] (aEt bx g k o ts rest) fun v H'=>v= .tuple #[]∧H'=aEt bx g k o (sw ts i j) rest:=by
 have hik:i*k≤ts.length*k:=A5 _ (by omega)
 have hjk:j*k≤ts.length*k:=A5 _ (by omega)
 have hmi:AH .i64 ((i:Int)*(k:Int))=((i*k:Nat):Int):=by rw[←Int.natCast_mul];exact aAd (by omega)
 have hmj:AH .i64 ((j:Int)*(k:Int))=((j*k:Nat):Int):=by rw[←Int.natCast_mul];exact aAd (by omega)
 have hmem:∀q,q<ts.length→at_ ts q∈ts:=fun q hq=>by
  unfold at_;rw[AN,AE hq];exact B4 hq
 have hend:swc ts i j k=sw ts i j:=by
  unfold swc sw
  rw[bEc k _ _ h2 (hok _ (hmem j hj)).2 (hok _ (hmem i hi)).2,bEc k _ _ h2 (hok _ (hmem i hi)).2 (hok _ (hmem j hj)).2]
 have hbeg:swc ts i j 0=ts:=by
  unfold swc
  rw[aZh,aZh]
  apply bKo
  ·simp
  ·intro q
   rw[aQk _ _ _ _ (by simpa using hj),aQk _ _ _ _ hi]
   split
   ·rename_i e;rw[e]
   ·split
    ·rename_i e;rw[e]
    ·rfl
 have hlen:∀c,(swc ts i j c).length=ts.length:=fun c=>by simp[swc]
 have hati:∀c,at_ (swc ts i j c) i=mix c (at_ ts j) (at_ ts i):=fun c=>by
  unfold swc;rw[aQk _ _ _ _ (by simpa using hj),if_neg hij,aQk _ _ _ _ hi,if_pos rfl]
 have hatj:∀c,at_ (swc ts i j c) j=mix c (at_ ts i) (at_ ts j):=fun c=>by
  unfold swc;rw[aQk _ _ _ _ (by simpa using hj),if_pos rfl]
 have hgi:∀c,c<k→(aAg (aBo k (swc ts i j c)++rest))[i*k+c]? =some (.int .u64 (wd ((at_ ts i).col c))):=fun c hc=>by
  rw[bEa hc h2 (by rw[hlen];exact hi),hati,bEb _ _ _ (by omega)]
 have hgj:∀c,c<k→(aAg (aBo k (swc ts i j c)++rest))[j*k+c]? =some (.int .u64 (wd ((at_ ts j).col c))):=fun c hc=>by
  rw[bEa hc h2 (by rw[hlen];exact hj),hatj,bEb _ _ _ (by omega)]
 obtain⟨M,hM⟩:∃M:Nat→List Value,∀c,c<k→(aAg (aBo k (swc ts i j c)++rest)).set (i*k+c) (.int .u64 (wd ((at_ ts j).col c)))=M c∧(M c).set (j*k+c) (.int .u64 (wd ((at_ ts i).col c)))=aAg (aBo k (swc ts i j (c+1))++rest):=by
  refine⟨fun c=>(aAg (aBo k (swc ts i j c)++rest)).set (i*k+c) (.int .u64 (wd ((at_ ts j).col c))),fun c hc=>⟨rfl,?_⟩⟩
  dsimp only
  rw[bKr hc h2 (by rw[hlen];exact hi),bKr hc h2 (by simp[hlen];exact hj)]
  congr 2
  congr 1
  rw[aQk _ _ _ _ (by rw[hlen];exact hi),if_neg (fun e=>hij e.symm),hati,hatj,aZi _ _ _ (by omega),aZi _ _ _ (by omega)]
  have e:∀(l:List T5) (A B A' B':T5),(((l.set i A).set j B).set i A').set j B'=(l.set i A').set j B':=fun l A B A' B'=>by
   rw[List.set_comm (l:=l.set i A) B A' (fun e=>hij e.symm),List.set_set,List.set_set]
  exact e ts _ _ _ _
 have hcl:∀c,(aAg (aBo k (swc ts i j c)++rest)).length=ts.length*k+rest.length:=fun c=>by
  rw[aBt,AF,aCf h2,hlen]
 have hMl:∀c,c<k→(M c).length=ts.length*k+rest.length:=fun c hc=>by rw[←(hM c hc).1,List.length_set,hcl]
 have hidi:∀c,c<k→i*k+c<ts.length*k:=fun c hc=>aUm hi hc
 have hidj:∀c,c<k→j*k+c<ts.length*k:=fun c hc=>aUm hj hc
 have hH0:aEt bx g k o ts rest=aEt bx g k o (swc ts i j 0) rest:=by rw[hbeg]
 have hH1:aEt bx g k o (sw ts i j) rest=aEt bx g k o (swc ts i j k) rest:=by rw[hend]
 rw[hH0,hH1]
 unfold aEt aBu Gr.obj
 simp only[hlen]
 generalize hC:(fun c=>aAg (aBo k (swc ts i j c)++rest))=C at*
 have hCe:∀c,aAg (aBo k (swc ts i j c)++rest)=C c:=fun c=>by rw[←hC]
 simp only[hCe] at*
 generalize i*k=ik at*
 generalize j*k=jk at*
 generalize hn:ts.length=n at*
 refine Ct.intro Tryz.func222 rfl Tryz.ntmps222 (nle rfl) fun w0=> ?_;dsimp only[aAa,AD]
 repeat(first|(refine st ?_;intros)|refine G.draw [] (h:= ?_))
 refine G.loop (X:=Nat) (fun c=>c≤k) (fun c=>[(13,.int .i64 (c:Int)),(12,.int .i64 (k:Int)),(0,pv bx),(1,.int .i64 (i:Int)),(2,.int .i64 (j:Int))])
  (fun c=>[[(bx,row [pv g.bb,.int .i64 (k:Int),.int .i64 (n:Int),.int .i64 o.c0,.int .i64 o.c1,.int .i64 o.c2,.int .i64 o.c3,.int .i64 o.c4] 211)],[(g.bb,row [.slice (some ⟨g.br,0,none⟩) g.n g.n] 161)],[(g.br,row (C c) 158)]])
  (fun c=>k-c) 0 (by omega) (body:= ?_)
 intro c hc
 by_cases hck:c<k
 ·have h3:=hgi c hck
  have h4:=hgj c hck
  obtain⟨h5,h6⟩:=hM c hck
  have h7:=hMl c hck
  have h8:=hcl c
  have h9:=hidi c hck
  have h10:=hidj c hck
  have e1:((ik:Int)+(c:Int)).toNat=ik+c:=by omega
  have e2:((jk:Int)+(c:Int)).toNat=jk+c:=by omega
  repeat(first|(refine st ?_;intros)|refine G.draw [] (h:= ?_))
  exact Dn.round (c+1) (by omega) (by omega)
 ·have hki:k=c:=by omega
  subst hki
  repeat(first|(refine st ?_;intros)|refine G.draw [] (h:= ?_))
  (refine Dn.postEnd (Hr:=[[(bx,row [pv g.bb,.int .i64 (k:Int),.int .i64 (n:Int),.int .i64 o.c0,.int .i64 o.c1,.int .i64 o.c2,.int .i64 o.c3,.int .i64 o.c4] 211)],[(g.bb,row [.slice (some ⟨g.br,0,none⟩) g.n g.n] 161)],[(g.br,row (C k) 158)]]) Tryz.results222 (hR:= ?_);exact⟨rfl,rfl⟩)
instance:Meth AC 209 "Less" 221:=Meth.of (by kernel_rfl)
instance:Meth AC 209 "Swap" 222:=Meth.of (by kernel_rfl)
instance:Meth AC 209 "Len" 220:=Meth.of (by kernel_rfl)
abbrev aPr (bx:Nat):Value:= .iface 209 (pv bx)
structure aKa (g:Gr) (k n:Nat) (ts:List T5):Prop where
 k1:1≤k
 k5:k≤5
 gn:g.n≤1000000000
 fit:n*k≤g.n
 len:ts.length=n
 ok:∀t∈ts,okT k t
theorem sw_mem {ts:List T5} {i j:Nat} (hi:i<ts.length) (hj:j<ts.length) {t:T5} (h:t∈sw ts i j):t∈ts:=by
 have hm:∀q,q<ts.length→at_ ts q∈ts:=fun q hq=>by
  unfold at_;rw[AN,AE hq];exact B4 hq
 unfold sw at h
 rcases List.mem_or_eq_of_mem_set h with h|h
 ·rcases List.mem_or_eq_of_mem_set h with h|h
  ·exact h
  ·rw[h];exact hm j hj
 ·rw[h];exact hm i hi
theorem aKa.sw {g:Gr} {k n:Nat} {ts:List T5} (h:aKa g k n ts) {i j:Nat} (hi:i<n) (hj:j<n):aKa g k n (sw ts i j):=
 {h with len:=(by rw[aOe];exact h.len),ok:=fun t ht=>h.ok t (sw_mem (by rw[h.len];exact hi) (by rw[h.len];exact hj) ht)}
theorem aKa.n_le {g:Gr} {k n:Nat} {ts:List T5} (h:aKa g k n ts):n≤1000000000:=BA (Nat.le_mul_of_pos_right n h.k1) (BA h.fit h.gn)
theorem aRs {g:Gr} {k n:Nat} {ts:List T5} (h:aKa g k n ts) (bx:Nat) (o:T5) (rest:List Int) (i j:Nat) (hi:i<n) (hj:j<n):
  CtQ AC 221 [pv bx,.int .i64 (i:Int),.int .i64 (j:Int)] (aEt bx g k o ts rest) (.bool (ltO o (at_ ts i) (at_ ts j))):=
 bIh bx g k o ts rest h.k1 h.k5 h.gn (by rw[h.len];exact h.fit) h.ok i j (by rw[h.len];exact hi) (by rw[h.len];exact hj)
theorem aRt {g:Gr} {k n:Nat} {ts:List T5} (h:aKa g k n ts) (bx:Nat) (o:T5) (rest:List Int) (i j:Nat) (hi:i<n) (hj:j<n) (hij:i≠j):
  Ct AC 222 [pv bx,.int .i64 (i:Int),.int .i64 (j:Int)] (aEt bx g k o ts rest) fun v H'=>v= .tuple #[]∧H'=aEt bx g k o (sw ts i j) rest:=
 bIi bx g k o ts rest h.k1 h.k5 h.gn (by rw[h.len];exact h.fit) h.ok i j (by rw[h.len];exact hi) (by rw[h.len];exact hj) hij
theorem Seg.mono {α:Type} [Inhabited α] {lt:α→α→Bool} {l:List α} {a b c d:Nat} (h:Seg lt l a b) (h1:a≤c) (h2:d≤b):Seg lt l c d:=fun i j i1 i2 i3=>h i j (by omega) i2 (by omega)
section
variable (bx:Nat) (g:Gr) (k n:Nat) (o:T5) (rest:List Int)
theorem aIl (ts:List T5) (h:aKa g k n ts) (a b m:Nat) (hab:a+m≤b) (hb:b+m≤n):
  Ct AC 202 [aPr bx,.int .i64 (a:Int),.int .i64 (b:Int),.int .i64 (m:Int)] (aEt bx g k o ts rest) fun v H'=>
   v= .tuple #[]∧∃ts',H'=aEt bx g k o ts' rest∧aKa g k n ts'∧∀q,at_ ts' q=bCj ts a b m q:=by
 have hnn:=h.n_le
 refine Ct.intro Tryz.func202 rfl Tryz.ntmps202 (nle rfl) fun w0=> ?_;dsimp only[aAa,AD]
 repeat(refine st ?_;intros)
 refine G.loop (X:=Nat×List T5) (fun x=>x.1≤m∧aKa g k n x.2∧∀q,at_ x.2 q=bCj ts a b x.1 q) (fun x=>[(8,.int .i64 (x.1:Int)),(0,aPr bx),(1,.int .i64 (a:Int)),(2,.int .i64 (b:Int)),(3,.int .i64 (m:Int))])
  (fun x=>aEt bx g k o x.2 rest) (fun x=>m-x.1) (0,ts) ⟨AS _,h,fun q=>by unfold bCj;rw[if_neg (by omega),if_neg (by omega)]⟩ (body:= ?_)
 rintro⟨i,us⟩ ⟨hi,hok,hq⟩
 dsimp only at hi hok hq⊢
 by_cases him:i<m
 ·have hS:=aRt hok bx o rest (a+i) (b+i) (by omega) (by omega) (by omega)
  have e1:AH .i64 ((a:Int)+(i:Int))=((a+i:Nat):Int):=by rw[←CY];exact aAd (by omega)
  have e2:AH .i64 ((b:Int)+(i:Int))=((b+i:Nat):Int):=by rw[←CY];exact aAd (by omega)
  repeat(refine st ?_;intros)
  refine R.invoke (hct:=hS) (h:= ?_)
  rintro _ _ ⟨rfl,rfl⟩
  try dsimp only[AA,AB]
  repeat(refine st ?_;intros)
  exact Dn.round (i+1,sw us (a+i) (b+i)) ⟨him,hok.sw (by omega) (by omega),bIe hab (by rw[h.len];exact hb) (by rw[hok.len,h.len]) hq him⟩ (by dsimp only;omega)
 ·obtain rfl:i=m:=by omega
  repeat(refine st ?_;intros)
  (refine Dn.postEnd (Hr:=aEt bx g k o us rest) Tryz.results202 (hR:= ?_);exact⟨rfl,us,rfl,hok,hq⟩)
theorem bEd (ts:List T5) (h:aKa g k n ts) (a m b:Nat) (ham:a<m) (hmb:m<b) (hb:b≤n):
  Ct AC 200 [aPr bx,.int .i64 (a:Int),.int .i64 (m:Int),.int .i64 (b:Int)] (aEt bx g k o ts rest) fun v H'=>
   v= .tuple #[]∧∃ts',H'=aEt bx g k o ts' rest∧aKa g k n ts'∧∀q,at_ ts' q=aHm ts a m b q:=by
 have hnn:=h.n_le
 have e1:AH .i64 ((m:Int)-(a:Int))=((m-a:Nat):Int):=by rw[aAd (by omega)];omega
 have e2:AH .i64 ((b:Int)-(m:Int))=((b-m:Nat):Int):=by rw[aAd (by omega)];omega
 refine Ct.intro Tryz.func200 rfl Tryz.ntmps200 (nle rfl) fun w0=> ?_;dsimp only[aAa,AD]
 repeat(refine st ?_;intros)
 refine G.loop (X:=Nat×Nat×List T5) (fun x=>0<x.1∧x.1≤m∧0<x.2.1∧m+x.2.1≤n∧aKa g k n x.2.2∧∀q,aHm x.2.2 (m-x.1) m (m+x.2.1) q=aHm ts a m b q)
  (fun x=>[(9,.int .i64 (x.2.1:Int)),(8,.int .i64 (x.1:Int)),(0,aPr bx),(2,.int .i64 (m:Int))])
  (fun x=>aEt bx g k o x.2.2 rest) (fun x=>x.1+x.2.1) (m-a,b-m,ts) ⟨by dsimp only;omega,by dsimp only;omega,by dsimp only;omega,by dsimp only;omega,h,fun q=>by dsimp only;rw[show m-(m-a)=a by omega,show m+(b-m)=b by omega]⟩ (body:= ?_)
 rintro⟨i,j,us⟩ ⟨hi0,him,hj0,hjn,hok,hq⟩
 dsimp only at hi0 him hj0 hjn hok hq⊢
 have e3:AH .i64 ((m:Int)-(i:Int))=((m-i:Nat):Int):=by rw[aAd (by omega)];omega
 by_cases hij:i=j
 ·subst hij
  have hS:=aIl bx g k n o rest us hok (m-i) m i (by omega) (by omega)
  repeat(refine st ?_;intros)
  refine R.call (hct:=hS) (h:= ?_)
  rintro _ _ ⟨rfl,us',rfl,hok',hq'⟩
  try dsimp only[AA,AB]
  repeat(refine st ?_;intros)
  (refine Dn.postEnd (Hr:=aEt bx g k o us' rest) Tryz.results200 (hR:= ?_);exact⟨rfl,us',rfl,hok',fun q=>by rw[←hq];exact bIf him hq' q⟩)
 ·by_cases hgt:j<i
  ·have hS:=aIl bx g k n o rest us hok (m-i) m j (by omega) (by omega)
   have e4:AH .i64 ((i:Int)-(j:Int))=((i-j:Nat):Int):=by rw[aAd (by omega)];omega
   repeat(refine st ?_;intros)
   refine R.call (hct:=hS) (h:= ?_)
   rintro _ _ ⟨rfl,us',rfl,hok',hq'⟩
   try dsimp only[AA,AB]
   repeat(refine st ?_;intros)
   exact Dn.round (i-j,j,us') ⟨by omega,by omega,by omega,by omega,hok',fun q=>by rw[←hq];exact bDx him hgt hq' q⟩ (by dsimp only;omega)
  ·have hS:=aIl bx g k n o rest us hok (m-i) (m+j-i) i (by omega) (by omega)
   have e4:AH .i64 ((j:Int)-(i:Int))=((j-i:Nat):Int):=by rw[aAd (by omega)];omega
   have e5:AH .i64 ((m:Int)+(j:Int))=((m+j:Nat):Int):=by rw[←CY];exact aAd (by omega)
   have e6:AH .i64 (((m+j:Nat):Int)-(i:Int))=((m+j-i:Nat):Int):=by rw[aAd (by omega)];omega
   repeat(refine st ?_;intros)
   refine R.call (hct:=hS) (h:= ?_)
   rintro _ _ ⟨rfl,us',rfl,hok',hq'⟩
   try dsimp only[AA,AB]
   repeat(refine st ?_;intros)
   exact Dn.round (i,j-i,us') ⟨by dsimp only;omega,by dsimp only;omega,by dsimp only;omega,by dsimp only;omega,hok',fun q=>by rw[←hq];exact bDy him (by omega) hq' q⟩ (by dsimp only;omega)
def Srt (o:T5) (ts ts':List T5) (a b:Nat):Prop:=Go.Srt.Sp (ltO o) false ts ts'∧Ins ts ts' a b
theorem aQl (ts:List T5) (h:aKa g k n ts) (a b:Nat) (hab:a≤b) (hb:b≤n):
  Ct AC 197 [aPr bx,.int .i64 (a:Int),.int .i64 (b:Int)] (aEt bx g k o ts rest) fun v H'=>
   v= .tuple #[]∧∃ts',H'=aEt bx g k o ts' rest∧aKa g k n ts'∧Srt o ts ts' a b∧Seg (ltO o) ts' a b:=by
 have hnn:=h.n_le
 have hsw:=aBv o
 refine Ct.intro Tryz.func197 rfl Tryz.ntmps197 (nle rfl) fun w0=> ?_;dsimp only[aAa,AD]
 repeat(first|(refine st ?_;intros)|(refine cq hL ?_))
 refine G.loop (X:=Nat×List T5) (fun x=>a<x.1∧(x.1≤b∨x.1=a+1)∧aKa g k n x.2∧Srt o ts x.2 a b∧Seg (ltO o) x.2 a x.1)
  (fun x=>[(6,.int .i64 (x.1:Int)),(0,aPr bx),(1,.int .i64 (a:Int)),(2,.int .i64 (b:Int))])
  (fun x=>aEt bx g k o x.2 rest) (fun x=>b+1-x.1) (a+1,ts) ⟨Nat.lt_succ_self _,.inr rfl,h,⟨Go.Srt.Sp.refl _ _,Ins.refl _ _ _⟩,fun i j i1 i2 i3=>by dsimp only at i3;omega⟩ (body:= ?_)
 rintro⟨i,us⟩ ⟨hai,hib,hok,⟨hsp,hins⟩,hseg⟩
 dsimp only at hai hib hok hsp hins hseg⊢
 by_cases hi:i<b
 ·repeat(first|(refine st ?_;intros)|(refine cq hL ?_))
  refine G.loop (X:=Nat×List T5) (fun x=>a≤x.1∧x.1≤i∧aKa g k n x.2∧Srt o ts x.2 a b∧bIg (ltO o) x.2 a i x.1)
   (fun x=>[(7,.int .i64 (x.1:Int)),(6,.int .i64 (i:Int)),(0,aPr bx),(1,.int .i64 (a:Int)),(2,.int .i64 (b:Int))])
   (fun x=>aEt bx g k o x.2 rest) (fun x=>x.1) (i,us) ⟨by dsimp only;omega,AG _,hok,⟨hsp,hins⟩,bIg.start hseg⟩ (body:= ?_)
  rintro⟨j,vs⟩ ⟨haj,hji,hok2,⟨hsp2,hins2⟩,hdown⟩
  dsimp only at haj hji hok2 hsp2 hins2 hdown⊢
  by_cases hja:a<j
  ·have hL:=aRs hok2 bx o rest j (j-1) (by omega) (by omega)
   have e1:AH .i64 ((j:Int)-1)=((j-1:Nat):Int):=by rw[aAd (by omega)];omega
   cases hlt:ltO o (at_ vs j) (at_ vs (j-1)) with
   |true=>
    rw[hlt] at hL
    have hS:=aRt hok2 bx o rest j (j-1) (by omega) (by omega) (by omega)
    repeat(first|(refine st ?_;intros)|(refine cq hL ?_))
    refine R.invoke (hct:=hS) (h:= ?_)
    rintro _ _ ⟨rfl,rfl⟩
    try dsimp only[AA,AB]
    repeat(first|(refine st ?_;intros)|(refine cq hL ?_))
    refine Dn.round (j-1,sw vs j (j-1)) ⟨by omega,by omega,hok2.sw (by omega) (by omega),⟨hsp2.trans (sw_sp hsw (by omega) (by rw[hok2.len];omega) hlt),hins2.trans (sw_ins (by omega) (by omega) (by rw[hok2.len];omega))⟩,hdown.step hsw hja hji (by rw[hok2.len];omega) hlt⟩ (by dsimp only;omega)
   |false=>
    rw[hlt] at hL
    repeat(first|(refine st ?_;intros)|(refine cq hL ?_))
    exact Dn.round (i+1,vs) ⟨by omega,.inl (by omega),hok2,⟨hsp2,hins2⟩,hdown.stop hsw (.inr hlt) haj⟩ (by dsimp only;omega)
  ·repeat(first|(refine st ?_;intros)|(refine cq hL ?_))
   exact Dn.round (i+1,vs) ⟨by omega,.inl (by omega),hok2,⟨hsp2,hins2⟩,hdown.stop hsw (.inl (by omega)) haj⟩ (by dsimp only;omega)
 ·repeat(first|(refine st ?_;intros)|(refine cq hL ?_))
  (refine Dn.postEnd (Hr:=aEt bx g k o us rest) Tryz.results197 (hR:= ?_);exact⟨rfl,us,rfl,hok,⟨hsp,hins⟩,Seg.mono hseg (AG _) (by omega)⟩)
end
end Go.Proofs.YtammjnjpheobaaaGreat
namespace Go.Srt
variable {α:Type} {lt:α→α→Bool} [Inhabited α]
theorem rot_up {l c:List α} {a k:Nat} (hk:a≤k) (hl:k+1<c.length) (h:∀q,at_ c q=aHm l a (a+1) (k+1) q):∀q,at_ (sw c k (k+1)) q=aHm l a (a+1) (k+2) q:=by
 intro q
 rw[aJz _ _ _ _ (by omega) (by omega)]
 simp only[h,aHm]
 (repeat' split)<;>first|rfl|(exfalso;omega)|(congr 1;omega)
theorem bIj {l c:List α} {m k:Nat} (hk:0<k) (hkm:k≤m) (hl:m<c.length) (h:∀q,at_ c q=aHm l k m (m+1) q):∀q,at_ (sw c k (k-1)) q=aHm l (k-1) m (m+1) q:=by
 intro q
 rw[aJz _ _ _ _ (by omega) (by omega)]
 simp only[h,aHm]
 (repeat' split)<;>first|rfl|(exfalso;omega)|(congr 1;omega)
theorem ins1 (h:Swo lt) {l l1:List α} {a m b i:Nat} (hm:m=a+1) (h1:m≤i) (h2:i≤b) (s2:Seg lt l m b) (f1:i=m∨lt (at_ l (i-1)) (at_ l a)=true) (f2:i=b∨lt (at_ l i) (at_ l a)=false)
  (hr:∀q,at_ l1 q=aHm l a m i q):(∀x y,a≤x→x<m→m≤y→y<i→lt (at_ l y) (at_ l x)=true)∧Seg lt l1 a b:=by
 subst hm
 have hC:∀y,a+1≤y→y<i→lt (at_ l y) (at_ l a)=true:=by
  intro y y1 y2
  rcases f1 with f1|f1
  ·omega
  ·cases hlt:lt (at_ l y) (at_ l a) with
   |true=>rfl
   |false=>
    exfalso
    have g1:lt (at_ l (i-1)) (at_ l y)=false:=by
     by_cases hy:y=i-1
     ·subst hy;exact h.irr _
     ·exact s2 _ _ y1 (by omega) (by omega)
    have:=h.ntrans _ _ _ g1 hlt
    rw[f1] at this;cases this
 have hD:∀y,i≤y→y<b→lt (at_ l y) (at_ l a)=false:=by
  intro y y1 y2
  rcases f2 with f2|f2
  ·omega
  ·by_cases hy:y=i
   ·subst hy;exact f2
   ·exact h.ntrans _ _ _ (s2 _ _ h1 (by omega) y2) f2
 refine⟨fun x y x1 x2 y1 y2=>by rw[show x=a by omega];exact hC y y1 y2,?_⟩
 intro p q p1 p2 p3
 rw[hr,hr]
 unfold aHm
 by_cases c1:q<i-1
 ·rw[if_pos (by omega),if_pos (by omega)]
  exact s2 _ _ (by omega) (by omega) (by omega)
 ·by_cases c2:q=i-1
  ·rw[if_neg (by omega),if_pos (by omega),if_pos (by omega)]
   rw[show q-(i-(a+1))=a by omega]
   exact h.asym _ _ (hC _ (by omega) (by omega))
  ·rw[if_neg (by omega),if_neg (by omega)]
   by_cases c3:p<i-1
   ·rw[if_pos (by omega)]
    exact s2 _ _ (by omega) (by omega) (by omega)
   ·by_cases c4:p=i-1
    ·rw[if_neg (by omega),if_pos (by omega),show p-(i-(a+1))=a by omega]
     exact hD _ (by omega) p3
    ·rw[if_neg (by omega),if_neg (by omega)]
     exact s2 _ _ (by omega) (by omega) (by omega)
theorem ins2 (h:Swo lt) {l l1:List α} {a m b i:Nat} (hb:b=m+1) (h1:a≤i) (h2:i≤m) (s1:Seg lt l a m) (f1:i=a∨lt (at_ l m) (at_ l (i-1))=false) (f2:i=m∨lt (at_ l m) (at_ l i)=true)
  (hr:∀q,at_ l1 q=aHm l i m b q):(∀x y,i≤x→x<m→m≤y→y<b→lt (at_ l y) (at_ l x)=true)∧Seg lt l1 a b:=by
 subst hb
 have hC:∀x,i≤x→x<m→lt (at_ l m) (at_ l x)=true:=by
  intro x x1 x2
  rcases f2 with f2|f2
  ·omega
  ·cases hlt:lt (at_ l m) (at_ l x) with
   |true=>rfl
   |false=>
    exfalso
    have g1:lt (at_ l x) (at_ l i)=false:=by
     by_cases hy:x=i
     ·subst hy;exact h.irr _
     ·exact s1 _ _ h1 (by omega) x2
    have:=h.ntrans _ _ _ hlt g1
    rw[f2] at this;cases this
 have hD:∀x,a≤x→x<i→lt (at_ l m) (at_ l x)=false:=by
  intro x x1 x2
  rcases f1 with f1|f1
  ·omega
  ·by_cases hy:x=i-1
   ·subst hy;exact f1
   ·exact h.ntrans _ _ _ f1 (s1 _ _ x1 (by omega) (by omega))
 refine⟨fun x y x1 x2 y1 y2=>by rw[show y=m by omega];exact hC x x1 x2,?_⟩
 intro p q p1 p2 p3
 rw[hr,hr]
 unfold aHm
 by_cases c1:q<i
 ·rw[if_neg (by omega),if_neg (by omega),if_neg (by omega),if_neg (by omega)]
  exact s1 _ _ p1 p2 (by omega)
 ·by_cases c2:q=i
  ·rw[if_pos (by omega),if_neg (by omega),if_neg (by omega),show q+(m-i)=m by omega]
   exact hD _ p1 (by omega)
  ·rw[if_neg (by omega),if_pos (by omega)]
   by_cases c3:p<i
   ·rw[if_neg (by omega),if_neg (by omega)]
    exact s1 _ _ p1 (by omega) (by omega)
   ·by_cases c4:p=i
    ·rw[if_pos (by omega),show p+(m-i)=m by omega]
     exact h.asym _ _ (hC _ (by omega) (by omega))
    ·rw[if_neg (by omega),if_pos (by omega)]
     exact s1 _ _ (by omega) (by omega) (by omega)
end Go.Srt
