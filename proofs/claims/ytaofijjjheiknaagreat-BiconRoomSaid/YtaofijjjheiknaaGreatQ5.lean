/-
  Parts of the proof, put together (5). No condition.
-/
import Derived.Test.YtaofijjjheiknaaGreatQ4
set_option linter.unusedVariables false
set_option linter.unusedSimpArgs false
set_option linter.unnecessarySimpa false
set_option maxHeartbeats 4000000
open Go.IntKind renaming wrap→AL
open Go.Proofs.Tryz renaming prog→AC
open Int renaming natCast_add→DE
open List renaming cons_append→AA,nil_append→AB,mem_cons_self→AE,getElem?_eq_getElem→AG,length_append→AH,getElem?_eq_some_iff→AK,mem_cons→AM,getD_eq_getElem?_getD→AP,append_assoc→AT,take_of_length_le→A6,flatMap_cons→A7,pairwise_cons→BF,length_take→BJ,getElem?_map→BM,drop_eq_getElem_cons→BO,take_add_one→BP,getElem?_append_left→BR,replicate→BT,take_append_drop→BV,perm_middle→B4,getElem_mem→B6,length_drop→CL,take_length→D4
open List.Perm renaming append_left→BI,append_right→DF
open Nat renaming reduceAdd→AD,le_refl→AI,zero_le→AU,le_trans→A5,mul_le_mul_right→BB,succ_mul→BH,zero_add→BU,div_le_div_right→B5,div_le_self→CW,le_mul_of_pos_left→D5,sub_self→EL,mul_comm→EM
open Option.some renaming injEq→BG
open Go.Proofs.Tryz
open Go.Value renaming int→Z9
open Go.IntKind renaming i64→Z8
namespace Go.Proofs.YtaofijjjheiknaaGreat
open Go.SL Go.Spc Go.Tup
theorem Da {s k a b:Nat} (h:a≤b):Ac s k a≤Ac s k b:=B5 oM
theorem qM {s k p:Nat} (hh:1≤Ad s k):(p%Ad s k=0→Ac s k p=p/Ad s k)∧(p%Ad s k≠0→Ac s k p=p/Ad s k+1):=by
 unfold Ac;generalize Ad s k=h at*;have e:=Nat.div_add_mod p h;have h2:=Nat.mod_lt p (show 0<h by omega);generalize p/h=q at*;generalize p%h=r at*;constructor
 ·intro h0;have:p+h-1=(h-1)+h*q:=by omega
  rw[this,Nat.add_mul_div_left _ _ oM,Nat.div_eq_of_lt oM,BU]
 ·intro h0;have:p+h-1=(r-1)+h*(q+1):=by rw[Nat.mul_succ];omega
  rw[this,Nat.add_mul_div_left _ _ oM,Nat.div_eq_of_lt oM,BU]
theorem Il.last {d:Nat→Option (List Int)} {size k nb bound first:Nat} {ps:List T5} {buf:List Int} (h:Il d size k nb bound first ps buf) (hh:1≤Ad size k):Pz (Gz d (first+ps.length/Ad size k) (Cm size ((first+ps.length/Ad size k:Nat):Int) (k:Int) (buf.take ((ps.length%Ad size k)*k)))) size k (Ad size k) first ps (ps.length/Ad size k+1):=by
 have em:=Nat.div_mul_le_self ps.length (Ad size k);have edm:=Nat.div_add_mod ps.length (Ad size k);intro j hj;by_cases aa:j=ps.length/Ad size k
 ·subst aa;simp only[Gz,if_true];rw[h.bufw,A6];rw[CL,EM];have:=Nat.mod_lt ps.length (show 0<Ad size k by omega);omega
 ·have:¬(first+j=first+ps.length/Ad size k):=by omega
  simp only[Gz,this,if_false];exact h.onto j oM
theorem fA {σ:Sp} {l:List Ext} {f m a:Nat} (h:Ht σ ((f,m)::l)) (h0:0<a) (h1:a<m):Ht σ ((f+a,m-a)::(f,a)::l):=by
 obtain⟨hf,ha⟩:=BF.1 h.apart;have hm:=h.fit _ AE;dsimp only at hm hf;refine⟨?_,?_,?_,?_⟩
 ·intro e he;simp only[AM] at he;rcases he with rfl|rfl|he
  ·dsimp only;omega
  ·dsimp only;omega
  ·exact h.fit e (List.mem_cons_of_mem _ he)
 ·refine BF.2 ⟨fun e he=>?_,BF.2 ⟨fun e he=>?_,ha⟩⟩
  ·rcases AM.1 he with rfl|he
   ·dsimp only;omega
   ·have:=hf e he;dsimp only;omega
  ·have:=hf e he;dsimp only;omega
 ·intro x hx;rw[h.free x hx,Ke,Ke,Ke];dsimp only;constructor
  ·rintro hh (c|c|c)
   ·exact hh (.inl oM)
   ·exact hh (.inl oM)
   ·exact hh (.inr c)
  ·rintro hh (c|c)
   ·by_cases aa:x<f+a
    ·exact hh (.inr (.inl oM))
    ·exact hh (.inl oM)
   ·exact hh (.inr (.inr c))
 ·have:=h.sum;simp only[Uw] at this⊢;omega
def qN (bw bd ba bs bx:Nat) (W:Wk) (Gs:List Gr) (Lv:List Ext) (first nb k bound:Nat) (g:Gr) (ps:List T5) (cb:Aa) (v:Value) (H':Hp):Prop:=
 ∃(cd ca cs:Aa) (W':Wk) (f:Fl) (n:Nat),v= .tuple #[flv f,Z9 Z8 0]∧H'=[Ab bw bd ba bs,cd,ca,cs,[(bx,row (Cc bw f.first f.blocks k ps.length bound g.bb n f.blocks true) 168)],cb]∧
  Wc bd ba bs W' cd ca cs∧Ev W W' 1 0∧W'.δ.acts=W.δ.acts+(Ac W.δ.size k ps.length-ps.length/Ad W.δ.size k)∧W'.α.gs.Perm Gs∧W'.live=(if f.blocks=0 then Lv else f.ext::Lv)∧
  f.width=k∧f.count=ps.length∧f.blocks=Ac W.δ.size k ps.length∧Pz W'.δ.disk W.δ.size k (Ad W.δ.size k) f.first ps f.blocks∧∀x,¬(first≤x∧x<first+nb)→W'.δ.disk x=W.δ.disk x
theorem eQ0:∀f:Fl,flv f= .agg #[Z9 Z8 f.first,Z9 Z8 f.blocks,Z9 Z8 f.width,Z9 Z8 f.count]:=fun _=>rfl
theorem qO (bw bd ba bs:Nat) (W:Wk) (cd ca cs:Aa) (h:Wc bd ba bs W cd ca cs) (bx first nb k bound:Nat) (g:Gr) (Gs:List Gr) (hg:W.α.gs.Perm (g::Gs)) (a9:g.n=W.δ.size) (Lv:List Ext) (hl:Bm first nb Lv W.live) (ps:List T5) (buf:List Int) (ho:Il W.δ.disk W.δ.size k nb bound first ps buf) (bi:W.δ.acts≤1000000000000):Ct AC 93 [pv bx] [Ab bw bd ba bs,cd,ca,cs,[(bx,row (Cc bw first nb k ps.length bound g.bb ((ps.length%Ad W.δ.size k)*k) (ps.length/Ad W.δ.size k) false) 168)],[(g.br,row (Ag buf) 174)]] fun v H'=> qN bw bd ba bs bx W Gs Lv first nb k bound g ps [(g.br,row (Ag buf) 174)] v H'∨ (v= .tuple #[flv ⟨0,0,0,0⟩,Z9 Z8 6]∧W.δ.fault=0∧Qd bw bd ba bs bx W Gs Lv first nb k bound g.bb [(g.br,row (Ag buf) 174)] 0 W.δ.failed H'):=by
 obtain⟨⟨bc,b3⟩,b4,b5⟩:=h.dev.num;have bk:=ho.w1;have a4:=ho.w2;have hp:=Bh bc bk a4;have bp:=ho.room bc;have ax:=ho.blen;obtain⟨bq,bu⟩:=qM (p:=ps.length) hp;have aj:=Da (s:=W.δ.size) (k:=k) ho.cnt;rw[←ho.nbe] at aj;have an:=ho.onto;have ao:=ho.last hp;have aq:W.δ.fault= -1→Hq W.δ.fault= -1:=fun e=>by unfold Hq;rw[e];rfl
 have ay:nb≠0→first+nb≤W.δ.blocks:=by intro be;unfold Bm at hl;rw[if_neg be] at hl;rw[h.nn];exact(Qc (h.live.perm hl)).1.2
 have az:=fun (hn:(ps.length%Ad W.δ.size k)*k≤W.δ.size-2) ha hf=>eP bw bd ba bs W cd ca cs h bx first nb k ps.length bound ((ps.length%Ad W.δ.size k)*k) (ps.length/Ad W.δ.size k) g (hg.mem_iff.2 AE) a9 buf _ ax rfl (by rw[BJ,ax];omega) hn ha a4 hf bi
 have a5:=fun (hn:(ps.length%Ad W.δ.size k)*k≤W.δ.size-2) ha hf=>eQ bw bd ba bs W cd ca cs h bx first nb k ps.length bound ((ps.length%Ad W.δ.size k)*k) (ps.length/Ad W.δ.size k) g Gs hg Lv hl a9 buf _ ax rfl (by rw[BJ,ax];omega) hn ha a4 hf
 have bv:ps.length%Ad W.δ.size k≠0→0<(ps.length%Ad W.δ.size k)*k:=fun bz=>Nat.mul_pos (Nat.pos_of_ne_zero bz) oM;have bf:ps.length%Ad W.δ.size k=0→(ps.length%Ad W.δ.size k)*k=0:=fun e=>by rw[e,Nat.zero_mul]
 have b1:=eQ0;generalize b6:(ps.length%Ad W.δ.size k)*k=n0 at*;generalize al:ps.length/Ad W.δ.size k=q0 at*;by_cases a0:ps.length%Ad W.δ.size k=0
 ·have bg:=bf a0;have ac:=bq a0;subst bg;rw[ac] at aj;have ak:(q0=0∧nb=0)∨(q0=0∧0<nb)∨(0<q0∧q0<nb)∨(0<q0∧q0=nb):=oM;rcases ak with⟨c1,c2⟩|⟨c1,c2⟩|⟨c1,c2⟩|⟨c1,c2⟩
  ·have aa:=hl;unfold Bm at aa;rw[if_pos c2] at aa;unfold Cc Ab;refine cG func93 fun _=>?_;repeat(refine sv ?_;intros)
   have hR:=Nl ba W.α ca (h.ar.perm (.refl _)) g Gs hg;refine cL hR ?_;rintro _ _ ⟨ab,α',rfl,ad,ae,ag,rfl⟩;try dsimp only[AA,AB]
   repeat(refine sv ?_;intros)
   (refine dP [[(bw,row [pv bd,pv ba,pv bs] 105)],cd,ab,cs,[(bx,row [pv bw,Z9 Z8 ((0:Nat):Int),Z9 Z8 ((q0:Nat):Int),Z9 Z8 k,Z9 Z8 ps.length,Z9 Z8 bound,pv g.bb,Z9 Z8 ((0:Nat):Int),Z9 Z8 ((q0:Nat):Int),.bool true] 168)],[(g.br,row (Ag buf) 174)]] ?_;left);exact⟨cd,ab,cs,⟨W.δ,α',W.σ,Lv⟩,⟨0,q0,k,ps.length⟩,0,rfl,rfl,⟨h.dev,ad,h.sp,h.nn,h.live.perm aa⟩,⟨rfl,rfl,⟨AI _,Nat.le_succ _⟩,id,ag,AI _⟩,(by rw[ac,al,EL];rfl),ae,(by rw[if_pos oD]),rfl,rfl,ac.symm,(fun j hj=>by dsimp only at hj;omega),(fun _ _=>rfl)⟩
  ·have aa:=hl;unfold Bm at aa;rw[if_neg oM] at aa;have au:=ay oM;unfold Cc Ab;refine cG func93 fun _=>?_;repeat(refine sv ?_;intros)
   have hR:=Nl ba W.α ca (h.ar.perm (.refl _)) g Gs hg;have a1:AL .i64 ((first:Int)+((q0:Nat):Int))=((first+q0:Nat):Int):=by rw[Ah oM];rfl
   have a2:AL .i64 ((nb:Int)-((q0:Nat):Int))=((nb-q0:Nat):Int):=by rw[Ah oM];omega
   have ah:=h.live.perm aa;obtain⟨⟨f1,f2⟩,f3⟩:=Qc ah;have av:=Tg bs W.σ cs h.sp (first+q0) (nb-q0) oM oM (fun x x1 x2=>f3 x oM oM);refine cL hR ?_;rintro _ _ ⟨ab,α',rfl,ad,ae,ag,rfl⟩;try dsimp only[AA,AB]
   repeat(refine sv ?_;intros)
   refine cL av ?_;rintro _ _ ⟨cs',σ',rfl,aw,e1,e3,e4,e5,rfl⟩;try dsimp only[AA,AB]
   repeat(refine sv ?_;intros)
   (refine dP [[(bw,row [pv bd,pv ba,pv bs] 105)],cd,ab,cs',[(bx,row [pv bw,Z9 Z8 ((0:Nat):Int),Z9 Z8 ((q0:Nat):Int),Z9 Z8 k,Z9 Z8 ps.length,Z9 Z8 bound,pv g.bb,Z9 Z8 ((0:Nat):Int),Z9 Z8 ((q0:Nat):Int),.bool true] 168)],[(g.br,row (Ag buf) 174)]] ?_;left);exact⟨cd,ab,cs',⟨W.δ,α',σ',Lv⟩,⟨0,q0,k,ps.length⟩,0,rfl,rfl,⟨h.dev,ad,aw,h.nn.trans e1.symm,Tk (f:=first+q0) (m:=nb-q0) (by rw[show first+q0=first by omega,show nb-q0=nb by omega];exact ah) e1 e3 e4⟩,⟨rfl,e1,⟨AI _,Nat.le_succ _⟩,id,ag,(by show _≤big σ'.free+0;omega)⟩,(by rw[ac,al,EL];rfl),ae,(by rw[if_pos oD]),rfl,rfl,ac.symm,(fun j hj=>by dsimp only at hj;omega),(fun _ _=>rfl)⟩
  ·have aa:=hl;unfold Bm at aa;rw[if_neg oM] at aa;have au:=ay oM;unfold Cc Ab;refine cG func93 fun _=>?_;repeat(refine sv ?_;intros)
   have hR:=Nl ba W.α ca (h.ar.perm (.refl _)) g Gs hg;have a1:AL .i64 ((first:Int)+((q0:Nat):Int))=((first+q0:Nat):Int):=by rw[Ah oM];rfl
   have a2:AL .i64 ((nb:Int)-((q0:Nat):Int))=((nb-q0:Nat):Int):=by rw[Ah oM];omega
   have ah:=fA (h.live.perm aa) (a:=q0) oM oM;obtain⟨⟨f1,f2⟩,f3⟩:=Qc ah;have av:=Tg bs W.σ cs h.sp (first+q0) (nb-q0) f1 f2 f3;refine cL hR ?_;rintro _ _ ⟨ab,α',rfl,ad,ae,ag,rfl⟩;try dsimp only[AA,AB]
   repeat(refine sv ?_;intros)
   refine cL av ?_;rintro _ _ ⟨cs',σ',rfl,aw,e1,e3,e4,e5,rfl⟩;try dsimp only[AA,AB]
   repeat(refine sv ?_;intros)
   (refine dP [[(bw,row [pv bd,pv ba,pv bs] 105)],cd,ab,cs',[(bx,row [pv bw,Z9 Z8 ((first:Nat):Int),Z9 Z8 ((q0:Nat):Int),Z9 Z8 k,Z9 Z8 ps.length,Z9 Z8 bound,pv g.bb,Z9 Z8 ((0:Nat):Int),Z9 Z8 ((q0:Nat):Int),.bool true] 168)],[(g.br,row (Ag buf) 174)]] ?_;left);exact⟨cd,ab,cs',⟨W.δ,α',σ',((first,q0)::Lv)⟩,⟨first,q0,k,ps.length⟩,0,rfl,rfl,⟨h.dev,ad,aw,h.nn.trans e1.symm,Tk ah e1 e3 e4⟩,⟨rfl,e1,⟨AI _,Nat.le_succ _⟩,id,ag,(by show _≤big σ'.free+0;omega)⟩,(by rw[ac,al,EL];rfl),ae,(by rw[if_neg oD];rfl),rfl,rfl,ac.symm,an,(fun _ _=>rfl)⟩
  ·have aa:=hl;unfold Bm at aa;rw[if_neg oM] at aa;have au:=ay oM;unfold Cc Ab;refine cG func93 fun _=>?_;repeat(refine sv ?_;intros)
   have hR:=Nl ba W.α ca (h.ar.perm (.refl _)) g Gs hg;refine cL hR ?_;rintro _ _ ⟨ab,α',rfl,ad,ae,ag,rfl⟩;try dsimp only[AA,AB]
   repeat(refine sv ?_;intros)
   (refine dP [[(bw,row [pv bd,pv ba,pv bs] 105)],cd,ab,cs,[(bx,row [pv bw,Z9 Z8 ((first:Nat):Int),Z9 Z8 ((q0:Nat):Int),Z9 Z8 k,Z9 Z8 ps.length,Z9 Z8 bound,pv g.bb,Z9 Z8 ((0:Nat):Int),Z9 Z8 ((q0:Nat):Int),.bool true] 168)],[(g.br,row (Ag buf) 174)]] ?_;left);exact⟨cd,ab,cs,⟨W.δ,α',W.σ,((first,q0)::Lv)⟩,⟨first,q0,k,ps.length⟩,0,rfl,rfl,⟨h.dev,ad,h.sp,h.nn,(by rw[show q0=nb by omega];exact h.live.perm aa)⟩,⟨rfl,rfl,⟨AI _,Nat.le_succ _⟩,id,ag,AI _⟩,(by rw[ac,al,EL];rfl),ae,(by rw[if_neg oD];rfl),rfl,rfl,ac.symm,an,(fun _ _=>rfl)⟩
 ·have b2:=bv a0;have ac:=bu a0;rw[ac] at aj;have au:=ay oM;by_cases hf:W.δ.fault=0
  ·have a5:=a5 oM oM hf;unfold Cc Ab at*;refine cG func93 fun _=>?_;repeat(refine sv ?_;intros)
   refine cL a5 ?_;rintro _ _ ⟨rfl,ai,am,bh,W',a3,n',a',rfl,a6⟩;try dsimp only[AA,AB]
   unfold Ab Cc;repeat(refine sv ?_;intros)
   (refine dP [[(bw,row [pv bd,pv ba,pv bs] 105)],ai,am,bh,[(bx,row [pv bw,Z9 Z8 first,Z9 Z8 nb,Z9 Z8 k,Z9 Z8 a3,Z9 Z8 bound,pv g.bb,Z9 Z8 n',Z9 Z8 a',.bool true] 168)],[(g.br,row (Ag buf) 174)]] ?_;
    exact .inr ⟨rfl,hf,ai,am,bh,W',a3,n',a',rfl,a6⟩)
  ·have az:=az oM oM hf;have aa:=hl;unfold Bm at aa;rw[if_neg oM] at aa;have ak:q0+1<nb∨q0+1=nb:=oM;rcases ak with c2|c2
   ·unfold Cc Ab at*;refine cG func93 fun _=>?_;repeat(refine sv ?_;intros)
    refine cL az ?_;rintro _ _ ⟨rfl,ai,am,rfl,a7,a8⟩;try dsimp only[AA,AB]
    unfold Ab Cc;repeat(refine sv ?_;intros)
    have hR:=Nl ba W.α am (h.ar.perm a7) g Gs hg;have a1:AL .i64 ((first:Int)+(((q0+1):Nat):Int))=((first+(q0+1):Nat):Int):=by rw[Ah oM];rfl
    have a2:AL .i64 ((nb:Int)-(((q0+1):Nat):Int))=((nb-(q0+1):Nat):Int):=by rw[Ah oM];omega
    have ah:=fA (h.live.perm aa) (a:=(q0+1)) oM oM;obtain⟨⟨f1,f2⟩,f3⟩:=Qc ah;have av:=Tg bs W.σ cs h.sp (first+(q0+1)) (nb-(q0+1)) f1 f2 f3;refine cL hR ?_;rintro _ _ ⟨ab,α',rfl,ad,ae,ag,rfl⟩;try dsimp only[AA,AB]
    repeat(refine sv ?_;intros)
    refine cL av ?_;rintro _ _ ⟨cs',σ',rfl,aw,e1,e3,e4,e5,rfl⟩;try dsimp only[AA,AB]
    repeat(refine sv ?_;intros)
    (refine dP [[(bw,row [pv bd,pv ba,pv bs] 105)],ai,ab,cs',[(bx,row [pv bw,Z9 Z8 ((first:Nat):Int),Z9 Z8 (((q0+1):Nat):Int),Z9 Z8 k,Z9 Z8 ps.length,Z9 Z8 bound,pv g.bb,Z9 Z8 ((0:Nat):Int),Z9 Z8 (((q0+1):Nat):Int),.bool true] 168)],[(g.br,row (Ag buf) 174)]] ?_;left);exact⟨ai,ab,cs',⟨(W.δ.wrote (first+q0) (Cm W.δ.size ((first+q0:Nat):Int) (k:Int) (buf.take n0))),α',σ',((first,(q0+1))::Lv)⟩,⟨first,(q0+1),k,ps.length⟩,0,rfl,rfl,⟨a8,ad,aw,h.nn.trans e1.symm,Tk ah e1 e3 e4⟩,⟨rfl,e1,⟨Nat.le_succ _,AI _⟩,aq,ag,(by show _≤big σ'.free+0;omega)⟩,(by rw[ac,al,Nat.add_sub_cancel_left];rfl),ae,(by rw[if_neg oD];rfl),rfl,rfl,ac.symm,ao,(fun x hx=>by simp only[Dv.wrote,Gz];rw[if_neg oM])⟩
   ·unfold Cc Ab at*;refine cG func93 fun _=>?_;repeat(refine sv ?_;intros)
    refine cL az ?_;rintro _ _ ⟨rfl,ai,am,rfl,a7,a8⟩;try dsimp only[AA,AB]
    unfold Ab Cc;repeat(refine sv ?_;intros)
    have hR:=Nl ba W.α am (h.ar.perm a7) g Gs hg;refine cL hR ?_;rintro _ _ ⟨ab,α',rfl,ad,ae,ag,rfl⟩;try dsimp only[AA,AB]
    repeat(refine sv ?_;intros)
    (refine dP [[(bw,row [pv bd,pv ba,pv bs] 105)],ai,ab,cs,[(bx,row [pv bw,Z9 Z8 ((first:Nat):Int),Z9 Z8 (((q0+1):Nat):Int),Z9 Z8 k,Z9 Z8 ps.length,Z9 Z8 bound,pv g.bb,Z9 Z8 ((0:Nat):Int),Z9 Z8 (((q0+1):Nat):Int),.bool true] 168)],[(g.br,row (Ag buf) 174)]] ?_;left);exact⟨ai,ab,cs,⟨(W.δ.wrote (first+q0) (Cm W.δ.size ((first+q0:Nat):Int) (k:Int) (buf.take n0))),α',W.σ,((first,(q0+1))::Lv)⟩,⟨first,(q0+1),k,ps.length⟩,0,rfl,rfl,⟨a8,ad,h.sp,h.nn,(by rw[show(q0+1)=nb by omega];exact h.live.perm aa)⟩,⟨rfl,rfl,⟨Nat.le_succ _,AI _⟩,aq,ag,AI _⟩,(by rw[ac,al,Nat.add_sub_cancel_left];rfl),ae,(by rw[if_neg oD];rfl),rfl,rfl,ac.symm,ao,(fun x hx=>by simp only[Dv.wrote,Gz];rw[if_neg oM])⟩
def Dd (bw:Nat) (f:Fl) (bb n at_ block count:Nat) (closed:Bool):List Value:=
 [pv bw,Z9 Z8 f.first,Z9 Z8 f.blocks,Z9 Z8 f.width,Z9 Z8 f.count,pv bb,Z9 Z8 n,Z9 Z8 at_,Z9 Z8 block,Z9 Z8 count,.bool closed]
theorem qP (bw bd ba bs:Nat) (W:Wk) (cd ca cs:Aa) (h:Wc bd ba bs W cd ca cs) (f:Fl) (h1:1≤f.width) (h2:f.width≤5) (hc:f.count≤100000000) (hb:f.blocks=Ac W.δ.size f.width f.count) (hr:W.α.room-W.α.used<W.δ.size):CtQ AC 95 [pv bw,flv f] [Ab bw bd ba bs,cd,ca,cs] (.tuple #[.pointer none,Z9 Z8 7]):=by
 have hH:=Qb bw bd ba bs W.δ cd h.dev f.width h1 h2;have hB:=Yw bw bd ba bs W.δ cd h.dev f.width f.count h1 h2 hc;obtain⟨hs,_⟩:=h.dev.num;have hp:=Bh hs.1 h1 h2;have hS:=Ml bd W.δ cd h.dev;have hn:=h.ar.num;have hF:=aFull ba W.α ca h.ar (W.δ.size:Int) oM oM;rw[←hb] at hB;generalize Ad W.δ.size f.width=hk at*;unfold Ab at hH hB⊢;unfold flv;refine cG func95 fun _=>?_;repeat(refine sA ?_;intros)
 (refine dP [[(bw,row [pv bd,pv ba,pv bs] 105)],cd,ca,cs] ?_;exact⟨rfl,rfl⟩)
def RdMade (bw bd ba bs:Nat) (W:Wk) (f:Fl) (cd cs:Aa) (v:Value) (H':Hp):Prop:=
 ∃(bx:Nat) (g:Gr) (ca:Aa) (α':Ar),v= .tuple #[pv bx,Z9 Z8 0]∧
  H'=[Ab bw bd ba bs,cd,ca,cs,[(bx,row (Dd bw f g.bb 0 0 0 0 false) 180)],[(g.br,row (Ag (BT W.δ.size 0)) 174)]]∧
  Dw ba α' ca∧g.n=W.δ.size∧α'.gs.Perm (g::W.α.gs)∧α'.room=W.α.room
theorem qQ (bw bd ba bs:Nat) (W:Wk) (cd ca cs:Aa) (h:Wc bd ba bs W cd ca cs) (f:Fl) (h1:1≤f.width) (h2:f.width≤5) (hc:f.count≤100000000) (hb:f.blocks=Ac W.δ.size f.width f.count) (hr:W.δ.size≤W.α.room-W.α.used):Ct AC 95 [pv bw,flv f] [Ab bw bd ba bs,cd,ca,cs] (RdMade bw bd ba bs W f cd cs):=by
 have hH:=Qb bw bd ba bs W.δ cd h.dev f.width h1 h2;have hB:=Yw bw bd ba bs W.δ cd h.dev f.width f.count h1 h2 hc;obtain⟨hs,_⟩:=h.dev.num;have hp:=Bh hs.1 h1 h2;have hS:=Ml bd W.δ cd h.dev;have hn:=h.ar.num;have hG:=Yu ba W.α ca h.ar W.δ.size oM;rw[←hb] at hB;generalize Ad W.δ.size f.width=hk at*;unfold Ab at hH hB⊢;unfold flv;refine cG func95 fun _=>?_;repeat(first|(refine st ?_;intros)|refine G.draw (id:=1) [(3,.quiet),(23,.quiet)] (h:=?_)|refine G.draw (id:=3) [(8,.quiet)] (h:=?_)|refine cq hH ?_|refine cq hS ?_|refine cq hB ?_)
 refine cL hG ?_;rintro _ _ ⟨g,aa,α',ab,rfl,ac,ad,ae,rfl⟩;try dsimp only[AA,AB]
 repeat(first|(refine st ?_;intros)|refine G.draw (id:=1) [(3,.quiet),(23,.quiet)] (h:=?_)|refine G.draw (id:=3) [(8,.quiet)] (h:=?_)|refine cq hH ?_|refine cq hS ?_|refine cq hB ?_)
 rename_i bx
 (refine dP [[(bw,row [pv bd,pv ba,pv bs] 105)],cd,aa,cs,[(bx,row (Dd bw f g.bb 0 0 0 0 false) 180)],[(g.br,row (Ag (BT W.δ.size 0)) 174)]] ?_;
  exact⟨bx,g,aa,α',rfl,rfl,ac,ab,ad,ae⟩)
theorem qR:CtQ AC 96 [.pointer none] [] (.tuple #[]):=by
 refine cG func96 fun _=>?_;repeat(refine sA ?_;intros)
 (refine dE [] ?_;exact⟨rfl,rfl⟩)
theorem qS (bw:Nat) (f:Fl) (bb n a kb pos bx:Nat):Cb AC 96 [pv bx] [[(bx,row (Dd bw f bb n a kb pos true) 180)]] (fun v' H'=>v'= .tuple #[]∧H'=[[(bx,row (Dd bw f bb n a kb pos true) 180)]]):=by
 unfold Dd;refine Cb.intro func96 rfl ntmps96 (nle rfl) fun _=>?_;dsimp only[Cy,AD];repeat(refine sA ?_;intros)
 (refine dE [[(bx,row [pv bw,Z9 Z8 f.first,Z9 Z8 f.blocks,Z9 Z8 f.width,Z9 Z8 f.count,pv bb,Z9 Z8 n,Z9 Z8 a,Z9 Z8 kb,Z9 Z8 pos,.bool true] 180)]] ?_;exact⟨rfl,rfl⟩)
theorem fB (bw bd ba bs:Nat) (α:Ar) (ca:Aa) (h:Dw ba α ca) (f:Fl) (n a kb pos bx:Nat) (g:Gr) (Gs:List Gr) (hg:α.gs.Perm (g::Gs)):Cb AC 96 [pv bx] [Ab bw bd ba bs,ca,[(bx,row (Dd bw f g.bb n a kb pos false) 180)]] fun v H'=> ∃(aa:Aa) (α':Ar),v= .tuple #[]∧Dw ba α' aa∧α'.gs.Perm Gs∧α'.room=α.room∧H'=[Ab bw bd ba bs,aa,[(bx,row (Dd bw f g.bb n a kb pos true) 180)]]:=by
 have hR:=Nl ba α ca h g Gs hg;unfold Dd Ab;refine Cb.intro func96 rfl ntmps96 (nle rfl) fun _=>?_;dsimp only[Cy,AD];repeat(refine sA ?_;intros)
 refine cL hR ?_;rintro _ _ ⟨aa,α',rfl,ab,ac,ad,rfl⟩;repeat(refine sA ?_;intros)
 (refine dE [[(bw,row [pv bd,pv ba,pv bs] 105)],aa,[(bx,row [pv bw,Z9 Z8 f.first,Z9 Z8 f.blocks,Z9 Z8 f.width,Z9 Z8 f.count,pv g.bb,Z9 Z8 n,Z9 Z8 a,Z9 Z8 kb,Z9 Z8 pos,.bool true] 180)]] ?_;
  exact⟨aa,α',rfl,ab,ac,ad,rfl⟩)
theorem qT (bw bd ba bs:Nat) (α:Ar) (ca:Aa) (h:Dw ba α ca) (f:Fl) (n a kb pos bx:Nat) (g:Gr) (Gs:List Gr) (hg:α.gs.Perm (g::Gs)):Ct AC 96 [pv bx] [Ab bw bd ba bs,ca,[(bx,row (Dd bw f g.bb n a kb pos false) 180)]] fun v H'=> ∃(aa:Aa) (α':Ar),v= .tuple #[]∧Dw ba α' aa∧α'.gs.Perm Gs∧α'.room=α.room∧H'=[Ab bw bd ba bs,aa,[(bx,row (Dd bw f g.bb n a kb pos true) 180)]]:=(fB bw bd ba bs α ca h f n a kb pos bx g Gs hg).1
theorem qU (bw bd ba bs:Nat) (δ:Dv) (cd c1:Aa) (h:Dg bd δ cd) (bx:Nat) (f:Fl) (n a kb pos:Nat) (g:Gr) (aq:g.n=δ.size) (buf pw:List Int) (ae:buf.length=δ.size) (m:Nat) (hm:m=min (f.count-pos) (Ad δ.size f.width)) (au:1≤m) (aa:1≤f.width) (ad:f.width≤5) (a5:pos≤f.count) (a4:f.count≤100000000) (ac:pw.length=m*f.width) (hb:f.first+kb<δ.blocks) (av:δ.disk (f.first+kb)=some (Cm δ.size ((f.first+kb:Nat):Int) (f.width:Int) pw)) (hf:δ.fault≠0) (aw:δ.acts≤1000000000000):Ct AC 165 [pv bx] [Ab bw bd ba bs,cd,c1,[g.obj],[(bx,row (Dd bw f g.bb n a kb pos false) 180)],[(g.br,row (Ag buf) 174)]] fun v H'=> ∃cd',v=Z9 Z8 0∧Dg bd δ.acted cd'∧H'=[Ab bw bd ba bs,cd',c1,[g.obj],[(bx,row (Dd bw f g.bb (m*f.width) 0 (kb+1) pos false) 180)],[(g.br,row (Ag (Fh buf 0 pw)) 174)]]:=by
 obtain⟨⟨ag,ax⟩,be,bf⟩:=h.num;have hp:=Bh ag aa ad;have ah:m*f.width≤δ.size-2:=by have h1:m*f.width≤Ad δ.size f.width*f.width:=BB _ oM;exact A5 h1 Yv
 have ay:1≤m*f.width:=Nat.mul_pos au aa;have az:=pV bd δ cd h (f.first+kb) hb hf aw _ av;have ai:=fun bl cap rest aj=>Get_ct δ.size (f.first+kb) f.width pw bl cap rest 174 ⟨ag,ax⟩ aj oM (m*f.width) ac.symm ay ah;have bg:(Cm δ.size ((f.first+kb:Nat):Int) (f.width:Int) pw).length=δ.size:=Yp _ _ _ _ oM;have a6:AL .i64 ((f.first:Int)+(kb:Int))=((f.first+kb:Nat):Int):=by rw[←DE];exact Ah oM
 have a0:Ad δ.size f.width≤256:=A5 (CW _ _) oM;have ak:(min ((f.count:Int)-(pos:Int)) ((Ad δ.size f.width:Nat):Int))=(m:Int):=oM;have a1:AL .i64 ((min ((f.count:Int)-(pos:Int)) ((Ad δ.size f.width:Nat):Int))*(f.width:Int))=((m*f.width:Nat):Int):=by rw[ak,←Int.natCast_mul];exact Ah oM
 have bh:Nat.min (m*f.width) δ.size=m*f.width:=Nat.min_eq_left oM;have a2:Bq (Ag buf) 0 (Ag pw)=Ag (Fh buf 0 pw):=by rw[Lm _ _ _ (by simp[ae];omega)];simp[Fh,Ag,List.map_drop]
 have bi:=Yl pw;have al:(Ag pw).length=m*f.width:=by rw[Ni,ac]
 have bk:0+m*f.width≤(Ag buf).length:=by rw[Ni,ae];omega
 have am:([g.obj]:Aa)=[(g.bb,row [.slice (some ⟨g.br,0,none⟩) δ.size δ.size] 177)]:=by unfold Gr.obj;rw[aq]
 rw[am];generalize Cm δ.size ((f.first+kb:Nat):Int) (f.width:Int) pw=sw at*;unfold Dd Ab;refine cG func165 fun _=>?_;repeat(first|(refine sv ?_;intros)|refine G.draw (id:=5) [(19,.quiet)] (h:=?_)|refine cq hH ?_)
 refine cL az ?_;rintro _ _ ⟨cd',p,an,c2,rfl,hV,ao,rfl⟩;try dsimp only[AA,AB]
 obtain⟨_,h0|⟨bl,rest,rfl,rfl,bp,bq,bu⟩⟩:=hV
 ·omega
 have hH:CtQ AC 156 [pv bw,Z9 Z8 f.width] [[(bw,row [pv bd,pv ba,pv bs] 105)],cd'] (Z9 Z8 ((Ad δ.size f.width:Nat):Int)):=Qb bw bd ba bs δ.acted cd' ao f.width aa ad;repeat(first|(refine sv ?_;intros)|refine G.draw (id:=5) [(19,.quiet)] (h:=?_)|refine cq hH ?_)
 refine cL (ai bl an rest oM) ?_;rintro _ _ ⟨p2,a7,c3,rfl,a3,rfl⟩;try dsimp only[AA,AB]
 obtain⟨_,h0|⟨b2,ab,rfl,rfl,a8,a9,bc⟩⟩:=a3
 ·omega
 have bv:((Ag pw++ab).drop 0).take (m*f.width)=Ag pw:=Ux al;repeat(first|(refine sv ?_;intros)|refine G.draw (id:=5) [(19,.quiet)] (h:=?_)|refine cq hH ?_)
 (refine dP [[(bw,row [pv bd,pv ba,pv bs] 105)],cd',c1,[(g.bb,row [.slice (some ⟨g.br,0,none⟩) δ.size δ.size] 177)],[(bx,row [pv bw,Z9 Z8 f.first,Z9 Z8 f.blocks,Z9 Z8 f.width,Z9 Z8 f.count,pv g.bb,Z9 Z8 ((m*f.width:Nat):Int),Z9 Z8 ((0:Nat):Int),Z9 Z8 ((kb+1:Nat):Int),Z9 Z8 pos,.bool false] 180)],[(g.br,row (Ag (Fh buf 0 pw)) 174)]] ?_;
  exact⟨cd',rfl,ao,rfl⟩)
structure RdB (size k count kb:Nat) (ts:List T5) (pos:Nat) (buf:List Int) (n a:Nat):Prop where
 posc:pos≤count
 tsl:ts.length=count
 na:a+(min count (kb*Ad size k)-pos)*k=n
 ns:n≤size-2
 bl:buf.length=size
 bw:(buf.drop a).take ((min count (kb*Ad size k)-pos)*k)=Bl k ((ts.drop pos).take (min count (kb*Ad size k)-pos))
def Mo (size k count:Nat) (ts:List T5) (pos:Nat) (buf:List Int) (n a:Nat):Prop:=RdB size k count (Ac size k pos) ts pos buf n a
theorem Ro {s k:Nat} (h:1≤Ad s k):Ac s k 0=0:=by unfold Ac;rw[BU,Nat.div_eq_of_lt oM]
theorem Mo.start {size k count:Nat} {ts:List T5} (hs:1≤Ad size k) (ht:ts.length=count):Mo size k count ts 0 (BT size 0) 0 0:=by unfold Mo;rw[Ro hs];exact⟨AU _,ht,by simp,AU _,by simp,by simp⟩
theorem qV {s k pos:Nat} (hh:1≤Ad s k) (aa:pos<Ac s k pos*Ad s k):Ac s k (pos+1)=Ac s k pos:=by
 have h1:Ac s k pos≤Ac s k (pos+1):=Da oM;refine Nat.le_antisymm ?_ h1;generalize Ac s k pos=q at aa;unfold Ac;generalize Ad s k=h at*;have h2:pos+1+h-1<(q+1)*h:=by rw[BH];omega
 have:=(Nat.div_lt_iff_lt_mul oM).2 h2;omega
theorem fC {s k pos q:Nat} (hh:1≤Ad s k) (he:pos=q*Ad s k):Ac s k (pos+1)=q+1:=by
 unfold Ac;generalize Ad s k=h at*;have:pos+1+h-1=(q+1)*h:=by rw[BH];omega
 rw[this,Nat.mul_div_cancel _ oM]
theorem qW {s k pos:Nat} (hh:1≤Ad s k):pos≤Ac s k pos*Ad s k:=by unfold Ac;generalize Ad s k=h at*;have e:=Nat.div_add_mod (pos+h-1) h;have h2:=Nat.mod_lt (pos+h-1) (show 0<h by omega);rw[EM] at e;omega
theorem RdB.get {size k count kb:Nat} {ts:List T5} {pos:Nat} {buf:List Int} {n a:Nat} (h:RdB size k count kb ts pos buf n a) (hk:k≤5) (ab:pos<min count (kb*Ad size k)) {t:T5} (ht:ts[pos]? =some t) (i:Nat) (hi:i<k):buf[a+i]? =some (wd (t.col i)):=by
 have hm:i<(min count (kb*Ad size k)-pos)*k:=Nat.lt_of_lt_of_le hi (D5 k oM);have h1:=congrArg (·[i]?) h.bw;simp only[List.getElem?_take,hm,if_true,List.getElem?_drop] at h1;rw[h1];have aa:pos<ts.length:=(AK.1 ht).1;have e:ts.drop pos=t::ts.drop (pos+1):=by rw[BO aa,(AK.1 ht).2]
 obtain⟨q,hq⟩:∃q,min count (kb*Ad size k)-pos=q+1:=⟨min count (kb*Ad size k)-pos-1,oM⟩
 rw[e,hq,List.take_succ_cons];simp only[Bl,A7];rw[BR (by rw[Kh t hk];exact hi)];exact Vf t k i hi hk
theorem RdB.step {size k count kb:Nat} {ts:List T5} {pos:Nat} {buf:List Int} {n a:Nat} (h:RdB size k count kb ts pos buf n a) (hk:k≤5) (ac:pos<min count (kb*Ad size k)):RdB size k count kb ts (pos+1) buf n (a+k):=by
 obtain⟨q,hq⟩:∃q,min count (kb*Ad size k)-pos=q+1:=⟨min count (kb*Ad size k)-pos-1,oM⟩
 have aa:min count (kb*Ad size k)-(pos+1)=q:=oM;refine⟨oM,h.tsl,?_,h.ns,h.bl,?_⟩
 ·rw[aa];have:=h.na;rw[hq,BH] at this;omega
 ·rw[aa];have h1:=h.bw;rw[hq] at h1;have ab:pos<ts.length:=by have:=h.tsl;omega
  have e:ts.drop pos=ts[pos]::ts.drop (pos+1):=BO ab;rw[e,List.take_succ_cons] at h1;simp only[Bl,A7] at h1⊢;have h2:=congrArg (List.drop k) h1;rw[List.drop_left' (Kh _ hk),List.drop_take,List.drop_drop] at h2;rw[←h2,BH,Nat.add_sub_cancel]
theorem RdB.load {size k count kb:Nat} {ts:List T5} {pos:Nat} {buf:List Int} {n a m:Nat} (h:RdB size k count kb ts pos buf n a) (hk:k≤5) (he:pos=kb*Ad size k) (hm:m=min (count-pos) (Ad size k)):RdB size k count (kb+1) ts pos (Fh buf 0 (Bl k ((ts.drop (kb*Ad size k)).take (Ad size k)))) (m*k) 0∧(Bl k ((ts.drop (kb*Ad size k)).take (Ad size k))).length=m*k:=by
 have hl:((ts.drop (kb*Ad size k)).take (Ad size k)).length=m:=by rw[BJ,CL,h.tsl,←he,hm,Nat.min_comm]
 have aa:(Bl k ((ts.drop (kb*Ad size k)).take (Ad size k))).length=m*k:=by rw[Nk hk,hl]
 have ac:m*k≤size-2:=A5 (BB _ oM) Yv;have ab:min count ((kb+1)*Ad size k)-pos=m:=by rw[BH];have:=h.posc;omega
 refine⟨⟨h.posc,h.tsl,by rw[ab];omega,ac,by rw[Tl (by rw[aa,h.bl];omega),h.bl],?_⟩,aa⟩;rw[ab];unfold Fh;rw[List.take_zero,AB,List.drop_zero,List.take_append_of_le_length oM,A6 oM,he];congr 1;rw[List.take_eq_take_iff];simp only[CL,h.tsl];omega
theorem qX (bw bd ba bs:Nat) (δ:Dv) (cd:Aa) (h:Dg bd δ cd) (bx:Nat) (f:Fl) (n a kb pos bb:Nat) (hb:f.first+kb<δ.blocks) (hf:δ.fault=0):Ct AC 165 [pv bx] [Ab bw bd ba bs,cd,[(bx,row (Dd bw f bb n a kb pos false) 180)]] fun v H'=> ∃cd',v=Z9 Z8 6∧Dg bd δ.failed cd'∧H'=[Ab bw bd ba bs,cd',[(bx,row (Dd bw f bb n a kb pos false) 180)]]:=by
 obtain⟨⟨ad,ae⟩,ag,ah⟩:=h.num;have aa:=pU bd δ cd h (f.first+kb) hb hf;have ac:AL .i64 ((f.first:Int)+(kb:Int))=((f.first+kb:Nat):Int):=by rw[←DE];exact Ah oM
 unfold Dd Ab;refine cG func165 fun _=>?_;repeat(first|(refine sv ?_;intros)|refine gD ?_)
 refine cL aa ?_;rintro _ _ ⟨cd',rfl,ab,rfl⟩;try dsimp only[AA,AB]
 repeat(first|(refine sv ?_;intros)|refine gD ?_)
 (refine dP [[(bw,row [pv bd,pv ba,pv bs] 105)],cd',[(bx,row [pv bw,Z9 Z8 f.first,Z9 Z8 f.blocks,Z9 Z8 f.width,Z9 Z8 f.count,pv bb,Z9 Z8 n,Z9 Z8 a,Z9 Z8 kb,Z9 Z8 pos,.bool false] 180)]] ?_;
  exact⟨cd',rfl,ab,rfl⟩)
def T5.zero:T5:=⟨0,0,0,0,0⟩
theorem qY (bw bx:Nat) (f:Fl) (bb n a kb:Nat):CtQ AC 97 [pv bx] [[(bx,row (Dd bw f bb n a kb f.count false) 180)]] (.tuple #[tv T5.zero,.bool false,Z9 Z8 0]):=by
 unfold Dd;refine cG func97 fun _=>?_;repeat(refine sA ?_;intros)
 (refine dP [[(bx,row [pv bw,Z9 Z8 f.first,Z9 Z8 f.blocks,Z9 Z8 f.width,Z9 Z8 f.count,pv bb,Z9 Z8 n,Z9 Z8 a,Z9 Z8 kb,Z9 Z8 f.count,.bool false] 180)]] ?_;exact⟨rfl,rfl⟩)
def Hu (t:T5) (i:Nat):List Value:=(Ak t).take i++BT (5-i) (Z9 Z8 0)
theorem fD (t:T5) (i:Nat) (h:i<5):(Hu t i).set i (Z9 Z8 (t.col i))=Hu t (i+1):=by
 match i,h with
 |0,_=>rfl
 |1,_=>rfl
 |2,_=>rfl
 |3,_=>rfl
 |4,_=>rfl
theorem fE (t:T5) (k:Nat) (h:k≤5) (ht:okT k t):Hu t k=Ak t:=by
 obtain⟨_,h2⟩:=ht
 match k,h,h2 with
 |0,_,h2=>
  have:=h2 0 oM;have:=h2 1 oM;have:=h2 2 oM;have:=h2 3 oM;have:=h2 4 oM
  simp_all [Hu,Ak,T5.col]
 |1,_,h2=>
  have:=h2 1 oM;have:=h2 2 oM;have:=h2 3 oM;have:=h2 4 oM
  simp_all [Hu,Ak,T5.col]
 |2,_,h2=>
  have:=h2 2 oM;have:=h2 3 oM;have:=h2 4 oM
  simp_all [Hu,Ak,T5.col]
 |3,_,h2=>
  have:=h2 3 oM;have:=h2 4 oM
  simp_all [Hu,Ak,T5.col]
 |4,_,h2=>
  have:=h2 4 oM
  simp_all [Hu,Ak,T5.col]
 |5,_,_=>rfl
theorem fF (t:T5):Hu t 0=[Z9 Z8 0,Z9 Z8 0,Z9 Z8 0,Z9 Z8 0,Z9 Z8 0]:=rfl
theorem fG (t:T5) (i:Nat) (h:i≤5):(Hu t i).length=5:=by simp[Hu,Ak];omega
theorem fH {k:Nat} {t:T5} (h:okT k t) (i:Nat) (hi:i<5):Av (t.col i):=by
 obtain⟨h1,_⟩:=h;apply h1
 match i,hi with
 |0,_=>simp[T5.toList,T5.col]
 |1,_=>simp[T5.toList,T5.col]
 |2,_=>simp[T5.toList,T5.col]
 |3,_=>simp[T5.toList,T5.col]
 |4,_=>simp[T5.toList,T5.col]
def NextOk (bw bd ba bs bx:Nat) (W:Wk) (ca cs:Aa) (f:Fl) (ts:List T5) (g:Gr) (pos:Nat) (t:T5) (v:Value) (H':Hp):Prop:=
 ∃(cd ab:Aa) (δ':Dv) (aa:List Int) (n a:Nat),v= .tuple #[tv t,.bool true,Z9 Z8 0]∧
  H'=[Ab bw bd ba bs,cd,ab,cs,[(bx,row (Dd bw f g.bb n a (Ac W.δ.size f.width (pos+1)) (pos+1) false) 180)],[(g.br,row (Ag aa) 174)]]∧ab.Perm ca∧
  Dg bd δ' cd∧δ'.size=W.δ.size∧δ'.blocks=W.δ.blocks∧(W.δ.fault= -1→δ'.fault= -1)∧δ'.acts=W.δ.acts+(Ac W.δ.size f.width (pos+1)-Ac W.δ.size f.width pos)∧δ'.disk=W.δ.disk∧
  Mo W.δ.size f.width f.count ts (pos+1) aa n a
def fI (bw bd ba bs bx:Nat) (W:Wk) (Gs:List Gr) (cs:Aa) (f:Fl) (g:Gr) (cb:Aa) (v:Value) (H':Hp):Prop:=
 v= .tuple #[tv T5.zero,.bool false,Z9 Z8 6]∧W.δ.fault=0∧∃(cd ca:Aa) (α':Ar) (n a kb pos:Nat),H'=[Ab bw bd ba bs,cd,ca,cs,[(bx,row (Dd bw f g.bb n a kb pos true) 180)],cb]∧
  Dg bd W.δ.failed cd∧Dw ba α' ca∧α'.gs.Perm Gs∧α'.room=W.α.room
theorem qZ (bw bd ba bs:Nat) (W:Wk) (cd ca cs:Aa) (h:Wc bd ba bs W cd ca cs) (bx:Nat) (f:Fl) (ts:List T5) (Lv:List Ext) (ae:Be W.δ.disk W.δ.size Lv f ts) (a3:∀e∈Lv,e∈W.live) (g:Gr) (Gs:List Gr) (hg:W.α.gs.Perm (g::Gs)) (a2:g.n=W.δ.size) (pos n a:Nat) (buf:List Int) (ho:Mo W.δ.size f.width f.count ts pos buf n a) (cm:pos<f.count) (t:T5) (ht:ts[pos]? =some t) (bf:W.δ.acts≤1000000000000):Ct AC 97 [pv bx] [Ab bw bd ba bs,cd,ca,cs,[(bx,row (Dd bw f g.bb n a (Ac W.δ.size f.width pos) pos false) 180)],[(g.br,row (Ag buf) 174)]] fun v H'=> NextOk bw bd ba bs bx W ca cs f ts g pos t v H'∨fI bw bd ba bs bx W Gs cs f g [(g.br,row (Ag buf) 174)] v H':=by
 obtain⟨⟨bg,cu⟩,cv,cw⟩:=h.dev.num;obtain⟨c1,az⟩:=h.ar.open_ (hg.mem_iff.2 AE);have a4:=ae.w1;have ac:=ae.w2;have a5:=ae.cnt;have hp:=Bh bg a4 ac;have aw:([g.obj]:Aa)=[(g.bb,row [.slice (some ⟨g.br,0,none⟩) W.δ.size W.δ.size] 177)]:=by unfold Gr.obj;rw[a2]
 have ax:okT f.width t:=ae.fit t (List.mem_of_getElem? ht);have cz:=qW (s:=W.δ.size) (k:=f.width) (pos:=pos) hp;have a0:W.δ.fault= -1→Hq W.δ.fault= -1:=fun e=>by unfold Hq;rw[e];rfl
 have ci:f.first+Ac W.δ.size f.width pos<W.δ.blocks∨f.blocks≤Ac W.δ.size f.width pos:=by
  by_cases hb:f.blocks≤Ac W.δ.size f.width pos
  ·exact .inr hb
  ·have:=h.live.fit _ (a3 _ (ae.live oM));simp only[Fl.ext] at this;left;rw[h.nn];omega
 have aj:∀i,i<f.width→AL .i64 (wd (t.col i))=t.col i:=fun i hi=>eL (fH ax i oM);generalize ak:Ac W.δ.size f.width pos=kb at*;have al:(([Ab bw bd ba bs,cd,ca,cs,[(bx,row (Dd bw f g.bb n a kb pos false) 180)],[(g.br,row (Ag buf) 174)]]:Hp).flatten).Perm
   (([Ab bw bd ba bs,cd,c1,[g.obj],cs,[(bx,row (Dd bw f g.bb n a kb pos false) 180)],[(g.br,row (Ag buf) 174)]]:Hp).flatten):=by
  simp only[List.flatten_cons,List.flatten_nil,List.append_nil,AT];refine BI _ (BI _ ?_);rw[←AT c1];exact DF _ az
 unfold Mo at ho;rw[ak] at ho;have a6:=fF t;have a7:=fG t;have am:=fD t;have an:=fE t f.width ac ax;by_cases ao:pos<min f.count (kb*Ad W.δ.size f.width)
 ·
  have ag:=ho.step ac ao;have aq:=ho.get ac ao ht;have a8:=ho.na;have bh:=ho.ns;have bi:=ho.bl;have bk:f.width≤(min f.count (kb*Ad W.δ.size f.width)-pos)*f.width:=D5 _ oM;have aa:Ac W.δ.size f.width (pos+1)=kb:=by rw[←ak];exact qV hp (by rw[ak];omega)
  refine Ct.convP (H2:=[Ab bw bd ba bs,cd,c1,[g.obj],cs,[(bx,row (Dd bw f g.bb n a kb pos false) 180)],[(g.br,row (Ag buf) 174)]])
   (R2:=fun v H'=>v= .tuple #[tv t,.bool true,Z9 Z8 0]∧H'=[Ab bw bd ba bs,cd,c1,[g.obj],cs,[(bx,row (Dd bw f g.bb n (a+f.width) kb (pos+1) false) 180)],[(g.br,row (Ag buf) 174)]]) ?_ al ?_
  ·rw[aw];unfold Dd Ab;have c5:¬((a:Int)=(n:Int)):=oM;refine cG func97 fun _=>?_;repeat(refine sA ?_;intros)
   rename_i b2 b5;refine G.loop (X:=Nat) (fun i=>i≤f.width) (fun i=>[(52,Z9 Z8 i),(51,Z9 Z8 f.width),(0,pv bx),(5,.pointer (some ⟨b5,0,none⟩)),(2,.pointer (some ⟨b2,0,none⟩))])
    (fun i=>[[(b2,row (Hu t 0) 33)],[(b5,row (Hu t i) 33)],[(bw,row [pv bd,pv ba,pv bs] 105)],cd,c1,[(g.bb,row [.slice (some ⟨g.br,0,none⟩) W.δ.size W.δ.size] 177)],cs,
     [(bx,row [pv bw,Z9 Z8 f.first,Z9 Z8 f.blocks,Z9 Z8 f.width,Z9 Z8 f.count,pv g.bb,Z9 Z8 ((n:Nat):Int),Z9 Z8 ((a:Nat):Int),Z9 Z8 ((kb:Nat):Int),Z9 Z8 pos,.bool false] 180)],[(g.br,row (Ag buf) 174)]])
    (fun i=>f.width-i) 0 oM (body:=?_)
   intro i hi;by_cases au:i<f.width
   ·have bp:(Ag buf)[a+i]? =some (.int .u64 (wd (t.col i))):=by unfold Ag;rw[BM,aq i au];rfl
    have bq:=aj i au;have bu:=am i oM;have bv:=a7 i oM;have bz:(((a:Nat):Int)+(i:Int)).toNat=a+i:=oM;repeat(refine sA ?_;intros)
    exact Dn.round (i+1) oM oM
   ·have a1:f.width=i:=oM;subst a1;rw[an,a6];unfold Ak;repeat(refine sA ?_;intros)
    (refine dP [[(bw,row [pv bd,pv ba,pv bs] 105)],cd,c1,[(g.bb,row [.slice (some ⟨g.br,0,none⟩) W.δ.size W.δ.size] 177)],cs,[(bx,row [pv bw,Z9 Z8 f.first,Z9 Z8 f.blocks,Z9 Z8 f.width,Z9 Z8 f.count,pv g.bb,Z9 Z8 ((n:Nat):Int),Z9 Z8 ((a+f.width:Nat):Int),Z9 Z8 ((kb:Nat):Int),Z9 Z8 ((pos+1:Nat):Int),.bool false] 180)],[(g.br,row (Ag buf) 174)]] ?_;
     exact⟨rfl,rfl⟩)
  ·rintro v H' ⟨rfl,rfl⟩;refine⟨_,.inl ⟨cd,c1++[g.obj],W.δ,buf,n,a+f.width,rfl,rfl,az.symm,h.dev,rfl,rfl,id,?_,rfl,?_⟩,?_⟩
   ·rw[aa,ak];omega
   ·unfold Mo;rw[aa];exact ag
   ·rw[aa];simp
 ·have ah:pos=kb*Ad W.δ.size f.width:=oM;have a9:kb<f.blocks:=by have h1:Ac W.δ.size f.width (pos+1)=kb+1:=fC hp ah;have h2:=Da (s:=W.δ.size) (k:=f.width) (show pos+1≤f.count by omega);rw[ae.blk];omega
  have bc:f.first+kb<W.δ.blocks:=oM;have b1:=ae.onto kb a9;have aa:Ac W.δ.size f.width (pos+1)=kb+1:=fC hp ah;have a8:a=n:=by have:=ho.na;rw[show min f.count (kb*Ad W.δ.size f.width)-pos=0 by omega] at this;omega
  subst a8;obtain⟨m,hm⟩:∃m,m=min (f.count-pos) (Ad W.δ.size f.width):=⟨_,rfl⟩
  obtain⟨ai,b3⟩:=ho.load ac ah hm;by_cases hf:W.δ.fault=0
  ·have b4:=qX bw bd ba bs W.δ cd h.dev bx f a a kb pos g.bb bc hf;have b6:=qT bw bd ba bs W.α ca h.ar f a a kb pos bx g Gs hg;refine Ct.mono (R:=fun v H'=>fI bw bd ba bs bx W Gs cs f g [(g.br,row (Ag buf) 174)] v H') ?_ (fun _ _ h=> .inr h);unfold Dd Ab at*;refine cG func97 fun _=>?_;repeat(refine sA ?_;intros)
   refine cL b4 ?_;rintro _ _ ⟨ab,rfl,av,rfl⟩;repeat(refine sA ?_;intros)
   refine cL b6 ?_;rintro _ _ ⟨be,α',rfl,b7,b8,b9,rfl⟩;repeat(refine sA ?_;intros)
   (refine dP [[(bw,row [pv bd,pv ba,pv bs] 105)],ab,be,cs,[(bx,row [pv bw,Z9 Z8 f.first,Z9 Z8 f.blocks,Z9 Z8 f.width,Z9 Z8 f.count,pv g.bb,Z9 Z8 a,Z9 Z8 a,Z9 Z8 kb,Z9 Z8 pos,.bool true] 180)],[(g.br,row (Ag buf) 174)]] ?_;
    exact⟨rfl,hf,ab,be,α',a,a,kb,pos,rfl,av,b7,b8,b9⟩)
  ·have cg:=qU bw bd ba bs W.δ cd c1 h.dev bx f a a kb pos g a2 buf _ ho.bl m hm oM a4 ac ho.posc a5 b3 bc b1 hf bf;have ay:pos<min f.count ((kb+1)*Ad W.δ.size f.width):=by rw[BH];omega
   generalize cj:Fh buf 0 (Bl f.width ((ts.drop (kb*Ad W.δ.size f.width)).take (Ad W.δ.size f.width)))=ad at*;have ag:=ai.step ac ay;have aq:=ai.get ac ay ht;have bh:=ai.ns;have bi:=ai.bl;have bk:f.width≤m*f.width:=D5 _ oM;refine Ct.convP (H2:=[Ab bw bd ba bs,cd,c1,[g.obj],cs,[(bx,row (Dd bw f g.bb a a kb pos false) 180)],[(g.br,row (Ag buf) 174)]])
    (R2:=fun v H'=>v= .tuple #[tv t,.bool true,Z9 Z8 0]∧∃ab,Dg bd W.δ.acted ab∧H'=[Ab bw bd ba bs,ab,c1,[g.obj],cs,[(bx,row (Dd bw f g.bb (m*f.width) (0+f.width) (kb+1) (pos+1) false) 180)],[(g.br,row (Ag ad) 174)]]) ?_ al ?_
   ·rw[aw] at*;unfold Dd Ab at*;refine cG func97 fun _=>?_;repeat(refine sA ?_;intros)
    refine cL cg ?_;rintro _ _ ⟨ab,rfl,av,rfl⟩;repeat(refine sA ?_;intros)
    rename_i b2 b5;refine G.loop (X:=Nat) (fun i=>i≤f.width) (fun i=>[(52,Z9 Z8 i),(51,Z9 Z8 f.width),(0,pv bx),(5,.pointer (some ⟨b5,0,none⟩)),(2,.pointer (some ⟨b2,0,none⟩))])
     (fun i=>[[(b2,row (Hu t 0) 33)],[(b5,row (Hu t i) 33)],[(bw,row [pv bd,pv ba,pv bs] 105)],ab,c1,[(g.bb,row [.slice (some ⟨g.br,0,none⟩) W.δ.size W.δ.size] 177)],cs,
      [(bx,row [pv bw,Z9 Z8 f.first,Z9 Z8 f.blocks,Z9 Z8 f.width,Z9 Z8 f.count,pv g.bb,Z9 Z8 ((m*f.width:Nat):Int),Z9 Z8 ((0:Nat):Int),Z9 Z8 ((kb+1:Nat):Int),Z9 Z8 pos,.bool false] 180)],[(g.br,row (Ag ad) 174)]])
     (fun i=>f.width-i) 0 oM (body:=?_)
    intro i hi;by_cases au:i<f.width
    ·have bp:(Ag ad)[0+i]? =some (.int .u64 (wd (t.col i))):=by unfold Ag;rw[BM,aq i au];rfl
     have bq:=aj i au;have bu:=am i oM;have bv:=a7 i oM;have bz:(((0:Nat):Int)+(i:Int)).toNat=0+i:=oM;repeat(refine sA ?_;intros)
     exact Dn.round (i+1) oM oM
    ·have a1:f.width=i:=oM;subst a1;rw[an,a6];unfold Ak;repeat(refine sA ?_;intros)
     (refine dP [[(bw,row [pv bd,pv ba,pv bs] 105)],ab,c1,[(g.bb,row [.slice (some ⟨g.br,0,none⟩) W.δ.size W.δ.size] 177)],cs,[(bx,row [pv bw,Z9 Z8 f.first,Z9 Z8 f.blocks,Z9 Z8 f.width,Z9 Z8 f.count,pv g.bb,Z9 Z8 ((m*f.width:Nat):Int),Z9 Z8 ((0+f.width:Nat):Int),Z9 Z8 ((kb+1:Nat):Int),Z9 Z8 ((pos+1:Nat):Int),.bool false] 180)],[(g.br,row (Ag ad) 174)]] ?_;
      exact⟨rfl,ab,av,rfl⟩)
   ·rintro v H' ⟨rfl,ab,av,rfl⟩;refine⟨_,.inl ⟨ab,c1++[g.obj],W.δ.acted,ad,m*f.width,0+f.width,rfl,rfl,az.symm,av,rfl,rfl,a0,?_,rfl,?_⟩,?_⟩
    ·rw[aa,ak,Nat.add_sub_cancel_left];rfl
    ·unfold Mo;rw[aa];exact ag
    ·rw[aa];simp
def Dh (bw bx:Nat) (W:Wk) (first nb k bound:Nat) (g:Gr) (ps:List T5) (cx cb:Aa):Prop:=
 g.n=W.δ.size∧∃buf,cx=[(bx,row (Cc bw first nb k ps.length bound g.bb ((ps.length%Ad W.δ.size k)*k) (ps.length/Ad W.δ.size k) false) 168)]∧cb=[(g.br,row (Ag buf) 174)]∧
  Il W.δ.disk W.δ.size k nb bound first ps buf
def Lo (bx:Nat) (cx:Aa):Prop:=∃bw first nb k cnt bound bb n a,cx=[(bx,row (Cc bw first nb k cnt bound bb n a true) 168)]
def De (bw bx:Nat) (W:Wk) (f:Fl) (ts:List T5) (g:Gr) (pos:Nat) (cx cb:Aa):Prop:=
 g.n=W.δ.size∧∃buf n a,cx=[(bx,row (Dd bw f g.bb n a (Ac W.δ.size f.width pos) pos false) 180)]∧cb=[(g.br,row (Ag buf) 174)]∧Mo W.δ.size f.width f.count ts pos buf n a
def Kv (bx:Nat) (cx:Aa):Prop:=∃bw f bb n a kb pos,cx=[(bx,row (Dd bw f bb n a kb pos true) 180)]
def Ap (Lv:List Ext) (W W':Wk):Prop:=∀x,inF Lv x→W'.δ.disk x=W.δ.disk x
theorem Ap.refl (Lv:List Ext) (W:Wk):Ap Lv W W:=fun _ _=>rfl
theorem Ap.trans {Lv:List Ext} {W W1 W2:Wk} (h:Ap Lv W W1) (h2:Ap Lv W1 W2):Ap Lv W W2:=fun x hx=>(h2 x hx).trans (h x hx)
theorem Ap.sub {Lv Lv':List Ext} {W W1:Wk} (h:Ap Lv W W1) (hs:∀e∈Lv',e∈Lv):Ap Lv' W W1:=fun x ⟨e,he,h2⟩=>h x ⟨e,hs e he,h2⟩
theorem fJ {σ:Sp} {live Lv:List Ext} {first nb:Nat} (hv:Ht σ live) (hl:Bm first nb Lv live) {d d':Nat→Option (List Int)} (h:∀x,¬(first≤x∧x<first+nb)→d' x=d x):∀x,inF Lv x→d' x=d x:=by
 intro x hx;apply h;rintro⟨h1,h2⟩;unfold Bm at hl;by_cases h0:nb=0
 ·omega
 ·rw[if_neg h0] at hl;exact(hv.perm hl).other (e:=(first,nb)) h1 h2 hx
theorem De.move {bw bx:Nat} {W W':Wk} {f:Fl} {ts:List T5} {g:Gr} {pos:Nat} {cx cb:Aa} (h:De bw bx W f ts g pos cx cb) (hs:W'.δ.size=W.δ.size):De bw bx W' f ts g pos cx cb:=by unfold De at*;rw[hs];exact h
theorem Dh.move {bw bx:Nat} {W W':Wk} {first nb k bound:Nat} {g:Gr} {ps:List T5} {cx cb:Aa} (h:Dh bw bx W first nb k bound g ps cx cb) (hs:W'.δ.size=W.δ.size) (hd:∀x,first≤x→x<first+nb→W'.δ.disk x=W.δ.disk x):Dh bw bx W' first nb k bound g ps cx cb:=by
 unfold Dh at*;rw[hs];obtain⟨h1,buf,h2,h3,h4⟩:=h;refine⟨h1,buf,h2,h3,{h4 with onto:=fun j hj=>?_}⟩;rw[←h4.onto j hj,hd]
 ·omega
 ·have hq:ps.length/Ad W.δ.size k≤nb:=by
   rw[h4.nbe];refine A5 ?_ (Da h4.cnt);unfold Ac;by_cases hh:Ad W.δ.size k=0
   ·rw[hh];simp
   ·exact B5 oM
  omega
theorem Vg (bw bd ba bs:Nat) (W:Wk) (cd ca cs:Aa) (h:Wc bd ba bs W cd ca cs) (bx first nb k bound:Nat) (g:Gr) (ps:List T5) (cx cb:Aa) (hw:Dh bw bx W first nb k bound g ps cx cb) (Gs:List Gr) (hg:W.α.gs.Perm (g::Gs)) (Lv:List Ext) (hl:Bm first nb Lv W.live) (ad:ps.length<bound) (t:T5) (ht:okT k t) (ac:W.δ.acts≤1000000000000):Ct AC 92 [pv bx,tv t] [Ab bw bd ba bs,cd,ca,cs,cx,cb] fun v H'=> ∃cd' ca' cs' W' cx' cb',H'=[Ab bw bd ba bs,cd',ca',cs',cx',cb']∧Wc bd ba bs W' cd' ca' cs'∧Ev W W' ((ps.length+1)/Ad W.δ.size k-ps.length/Ad W.δ.size k) 0∧Ap Lv W W'∧((v=Z9 Z8 0∧W'.α=W.α∧W'.σ=W.σ∧W'.live=W.live∧Dh bw bx W' first nb k bound g (ps++[t]) cx' cb')∨ (v=Z9 Z8 6∧W.δ.fault=0∧W'.δ=W.δ.failed∧W'.α.gs.Perm Gs∧W'.live.Perm Lv∧Lo bx cx')):=by
 obtain⟨aa,buf,rfl,rfl,ho⟩:=hw;refine(qL bw bd ba bs W cd ca cs h bx first nb k bound g Gs hg aa Lv hl ps buf ho ad t ht ac).mono ?_;rintro v H' (⟨rfl,cd',ca',δ',ab,rfl,hp,hd,e1,e2,e3,e4,e5,e6⟩|⟨rfl,hf,cb',cd',ca',cs',W',cnt,n,a,rfl,hW,hE,e1,e2,e3⟩)
 ·refine⟨cd',ca',cs,{W with δ:=δ'},_,_,rfl,⟨hd,h.ar.perm hp,h.sp,e2.trans h.nn,h.live⟩,⟨e1,rfl,⟨by rw[e4];exact Nat.le_add_right _ _,by rw[e4];exact AI _⟩,e3,rfl,AI _⟩,fJ h.live hl e5,.inl ⟨rfl,rfl,rfl,rfl,?_⟩⟩;unfold Dh;dsimp only;rw[e1];refine⟨aa,ab,by simp,rfl,e6⟩
 ·exact⟨cd',ca',cs',W',_,_,rfl,hW,hE.weak (AU _) (AI _),fun x _=>by rw[e1];rfl,.inr ⟨rfl,hf,e1,e2,e3,_,_,_,_,_,_,_,_,_,rfl⟩⟩
theorem Rp (bw bd ba bs:Nat) (W:Wk) (cd ca cs:Aa) (h:Wc bd ba bs W cd ca cs) (bx first nb k bound:Nat) (g:Gr) (ps:List T5) (cx cb:Aa) (hw:Dh bw bx W first nb k bound g ps cx cb) (Gs:List Gr) (hg:W.α.gs.Perm (g::Gs)) (Lv:List Ext) (hl:Bm first nb Lv W.live) (aa:W.δ.acts≤1000000000000):Ct AC 93 [pv bx] [Ab bw bd ba bs,cd,ca,cs,cx,cb] fun v H'=> ∃cd' ca' cs' W' cx' cb',H'=[Ab bw bd ba bs,cd',ca',cs',cx',cb']∧Wc bd ba bs W' cd' ca' cs'∧Ev W W' (Ac W.δ.size k ps.length-ps.length/Ad W.δ.size k) 0∧Ap Lv W W'∧W'.α.gs.Perm Gs∧Lo bx cx'∧((∃f,v= .tuple #[flv f,Z9 Z8 0]∧W'.live=(if f.blocks=0 then Lv else f.ext::Lv)∧f.width=k∧f.count=ps.length∧Be W'.δ.disk W.δ.size [f.ext] f ps)∨ (v= .tuple #[flv ⟨0,0,0,0⟩,Z9 Z8 6]∧W.δ.fault=0∧W'.δ=W.δ.failed∧W'.live.Perm Lv)):=by
 obtain⟨ab,buf,rfl,rfl,ho⟩:=hw;refine(qO bw bd ba bs W cd ca cs h bx first nb k bound g Gs hg ab Lv hl ps buf ho aa).mono ?_;rintro v H' (⟨cd',ca',cs',W',f,n,rfl,rfl,hW,hE,e1,e2,e3,e4,e5,e6,e7,e8⟩|⟨rfl,hf,cd',ca',cs',W',cnt,n,a,rfl,hW,hE,e1,e2,e3⟩)
 ·refine⟨cd',ca',cs',W',_,_,rfl,hW,{hE with acts:=⟨hE.acts.1,Nat.le_of_eq e1⟩},fJ h.live hl e8,e2,⟨_,_,_,_,_,_,_,_,_,rfl⟩,.inl ⟨f,rfl,e3,e4,e5,?_⟩⟩;refine⟨by rw[e4];exact ho.w1,by rw[e4];exact ho.w2,e5.symm,?_,by rw[e6,e4,e5],?_,?_,fun _=>List.mem_singleton.2 rfl⟩
  ·rw[e5];exact A5 ho.cnt ho.hb
  ·rw[e4];exact ho.fit
  ·rw[e4];exact e7
 ·exact⟨cd',ca',cs',W',_,_,rfl,hW,hE.weak (AU _) (AI _),fun x _=>by rw[e1];rfl,e2,⟨_,_,_,_,_,_,_,_,_,rfl⟩,.inr ⟨rfl,hf,e1,e3⟩⟩
theorem Za (bw bd ba bs:Nat) (W:Wk) (cd ca cs:Aa) (h:Wc bd ba bs W cd ca cs) (bx first nb k bound:Nat) (g:Gr) (ps:List T5) (cx cb:Aa) (hw:Dh bw bx W first nb k bound g ps cx cb) (Gs:List Gr) (hg:W.α.gs.Perm (g::Gs)) (Lv:List Ext) (hl:Bm first nb Lv W.live):Cb AC 90 [pv bx] [Ab bw bd ba bs,cd,ca,cs,cx,cb] fun v H'=> ∃cd' ca' cs' W' cx' cb',v= .tuple #[]∧H'=[Ab bw bd ba bs,cd',ca',cs',cx',cb']∧Wc bd ba bs W' cd' ca' cs'∧Ev W W' 0 0∧W'.δ=W.δ∧W'.α.gs.Perm Gs∧W'.live.Perm Lv∧Lo bx cx':=by
 obtain⟨aa,buf,rfl,rfl,ho⟩:=hw;refine(eN bw bd ba bs W cd ca cs h bx first nb k ps.length bound _ _ g Gs hg Lv hl [(g.br,row (Ag buf) 174)]).mono ?_;rintro v H' ⟨rfl,cd',ca',cs',W',cnt,n,a,rfl,hW,hE,e1,e2,e3⟩;exact⟨cd',ca',cs',W',_,_,rfl,rfl,hW,hE,e1,e2,e3,_,_,_,_,_,_,_,_,_,rfl⟩
theorem Oj (bx:Nat) (cx:Aa) (h:Lo bx cx):Cb AC 90 [pv bx] [cx] (fun v' H'=>v'= .tuple #[]∧H'=[cx]):=by obtain⟨bw,first,nb,k,cnt,bound,bb,n,a,rfl⟩:=h;exact qI bw first nb k cnt bound bb n a bx
theorem rA (bx:Nat) (cx:Aa) (h:Lo bx cx):CtQ AC 90 [pv bx] [cx] (.tuple #[]):=(Oj bx cx h).1
theorem Qe (bw bd ba bs:Nat) (W:Wk) (cd ca cs:Aa) (h:Wc bd ba bs W cd ca cs) (bx:Nat) (f:Fl) (ts:List T5) (Lv:List Ext) (ab:Be W.δ.disk W.δ.size Lv f ts) (aa:∀e∈Lv,e∈W.live) (g:Gr) (Gs:List Gr) (hg:W.α.gs.Perm (g::Gs)) (pos:Nat) (cx cb:Aa) (hr:De bw bx W f ts g pos cx cb) (t:T5) (ht:ts[pos]? =some t) (ae:W.δ.acts≤1000000000000):Ct AC 97 [pv bx] [Ab bw bd ba bs,cd,ca,cs,cx,cb] fun v H'=> ∃cd' ca' W' cx' cb',H'=[Ab bw bd ba bs,cd',ca',cs,cx',cb']∧Wc bd ba bs W' cd' ca' cs∧Ev W W' (Ac W.δ.size f.width (pos+1)-Ac W.δ.size f.width pos) 0∧W'.δ.disk=W.δ.disk∧W'.σ=W.σ∧W'.live=W.live∧((v= .tuple #[tv t,.bool true,Z9 Z8 0]∧W'.α=W.α∧De bw bx W' f ts g (pos+1) cx' cb')∨ (v= .tuple #[tv T5.zero,.bool false,Z9 Z8 6]∧W.δ.fault=0∧W'.δ=W.δ.failed∧W'.α.gs.Perm Gs∧Kv bx cx')):=by
 obtain⟨ac,buf,n,a,rfl,rfl,ho⟩:=hr;have ag:pos<f.count:=by have:=(AK.1 ht).1;have:=ab.len;omega
 refine(qZ bw bd ba bs W cd ca cs h bx f ts Lv ab aa g Gs hg ac pos n a buf ho ag t ht ae).mono ?_;rintro v H' (⟨cd',ca',δ',ad,n',a',rfl,rfl,hp,hd,e1,e2,e3,e4,e5,e6⟩|⟨rfl,hf,cd',ca',α',n',a',kb,ah,rfl,hd,hA,e1,e2⟩)
 ·refine⟨cd',ca',{W with δ:=δ'},_,_,rfl,⟨hd,h.ar.perm hp,h.sp,e2.trans h.nn,h.live⟩,⟨e1,rfl,⟨by rw[e4];exact Nat.le_add_right _ _,by rw[e4];exact AI _⟩,e3,rfl,AI _⟩,e5,rfl,rfl,.inl ⟨rfl,rfl,?_⟩⟩;unfold De;dsimp only;rw[e1];exact⟨ac,ad,n',a',rfl,rfl,e6⟩
 ·exact⟨cd',ca',{W with δ:=W.δ.failed,α:=α'},_,_,rfl,⟨hd,hA,h.sp,h.nn,h.live⟩,⟨rfl,rfl,⟨AI _,Nat.le_add_right _ _⟩,fun _=>rfl,e2,AI _⟩,rfl,rfl,rfl,.inr ⟨rfl,hf,rfl,e1,_,_,_,_,_,_,_,rfl⟩⟩
theorem Rq (bw bx:Nat) (W:Wk) (f:Fl) (ts:List T5) (g:Gr) (cx cb:Aa) (hr:De bw bx W f ts g f.count cx cb):CtQ AC 97 [pv bx] [cx] (.tuple #[tv T5.zero,.bool false,Z9 Z8 0]):=by
 obtain⟨aa,buf,n,a,rfl,rfl,ho⟩:=hr;exact qY bw bx f g.bb n a _
theorem Lp (bw bd ba bs:Nat) (W:Wk) (cd ca cs:Aa) (h:Wc bd ba bs W cd ca cs) (bx:Nat) (f:Fl) (ts:List T5) (g:Gr) (Gs:List Gr) (hg:W.α.gs.Perm (g::Gs)) (pos:Nat) (cx cb:Aa) (hr:De bw bx W f ts g pos cx cb):Cb AC 96 [pv bx] [Ab bw bd ba bs,ca,cx] fun v H'=> ∃ca' α' cx',v= .tuple #[]∧H'=[Ab bw bd ba bs,ca',cx']∧Wc bd ba bs {W with α:=α'} cd ca' cs∧Ev W {W with α:=α'} 0 0∧α'.gs.Perm Gs∧Kv bx cx':=by
 obtain⟨aa,buf,n,a,rfl,rfl,ho⟩:=hr;refine(fB bw bd ba bs W.α ca h.ar f n a _ pos bx g Gs hg).mono ?_;rintro v H' ⟨ca',α',rfl,hA,e1,e2,rfl⟩;exact⟨ca',α',_,rfl,rfl,⟨h.dev,hA,h.sp,h.nn,h.live⟩,⟨rfl,rfl,⟨AI _,AI _⟩,id,e2,AI _⟩,e1,_,_,_,_,_,_,_,rfl⟩
theorem Vh (bw bd ba bs:Nat) (W:Wk) (cd ca cs:Aa) (h:Wc bd ba bs W cd ca cs) (bx:Nat) (f:Fl) (ts:List T5) (g:Gr) (Gs:List Gr) (hg:W.α.gs.Perm (g::Gs)) (pos:Nat) (cx cb:Aa) (hr:De bw bx W f ts g pos cx cb):Ct AC 96 [pv bx] [Ab bw bd ba bs,ca,cx] fun v H'=> ∃ca' α' cx',v= .tuple #[]∧H'=[Ab bw bd ba bs,ca',cx']∧Wc bd ba bs {W with α:=α'} cd ca' cs∧Ev W {W with α:=α'} 0 0∧α'.gs.Perm Gs∧Kv bx cx':=(Lp bw bd ba bs W cd ca cs h bx f ts g Gs hg pos cx cb hr).1
theorem Vi (bx:Nat) (cx:Aa) (h:Kv bx cx):Cb AC 96 [pv bx] [cx] (fun v' H'=>v'= .tuple #[]∧H'=[cx]):=by obtain⟨bw,f,bb,n,a,kb,pos,rfl⟩:=h;exact qS bw f bb n a kb pos bx
theorem fK (bx:Nat) (cx:Aa) (h:Kv bx cx):CtQ AC 96 [pv bx] [cx] (.tuple #[]):=(Vi bx cx h).1
theorem Ol (bw bd ba bs:Nat) (W:Wk) (cd ca cs:Aa) (h:Wc bd ba bs W cd ca cs) (f:Fl) (ts:List T5) (Lv:List Ext) (aa:Be W.δ.disk W.δ.size Lv f ts) (hr:W.δ.size≤W.α.room-W.α.used):Ct AC 95 [pv bw,flv f] [Ab bw bd ba bs,cd,ca,cs] fun v H'=> ∃bx g ca' α' cx cb,v= .tuple #[pv bx,Z9 Z8 0]∧H'=[Ab bw bd ba bs,cd,ca',cs,cx,cb]∧Wc bd ba bs {W with α:=α'} cd ca' cs∧Ev W {W with α:=α'} 0 0∧α'.gs.Perm (g::W.α.gs)∧g.n=W.δ.size∧De bw bx {W with α:=α'} f ts g 0 cx cb:=by
 refine(qQ bw bd ba bs W cd ca cs h f aa.w1 aa.w2 aa.cnt aa.blk hr).mono ?_;rintro v H' ⟨bx,g,ca',α',rfl,rfl,hA,ab,e1,e2⟩;obtain⟨hs,_⟩:=h.dev.num;have hp:=Bh hs.1 aa.w1 aa.w2;refine⟨bx,g,ca',α',_,_,rfl,rfl,⟨h.dev,hA,h.sp,h.nn,h.live⟩,⟨rfl,rfl,⟨AI _,AI _⟩,id,e2,AI _⟩,e1,ab,ab,BT W.δ.size 0,0,0,?_,rfl,Mo.start hp aa.len⟩;show _=[(bx,row (Dd bw f g.bb 0 0 (Ac W.δ.size f.width 0) 0 false) 180)]
 rw[Ro hp]
theorem Om (bw bd ba bs:Nat) (W:Wk) (cd ca cs:Aa) (h:Wc bd ba bs W cd ca cs) (k bound:Nat) (h1:1≤k) (h2:k≤5) (hb:bound≤100000000) (hr:W.δ.size≤W.α.room-W.α.used):Ct AC 89 [pv bw,Z9 Z8 k,Z9 Z8 bound] [Ab bw bd ba bs,cd,ca,cs] fun v H'=> (Ac W.δ.size k bound≤big W.σ.free∧∃bx first g cd' ca' cs' W' cx cb,v= .tuple #[pv bx,Z9 Z8 0]∧H'=[Ab bw bd ba bs,cd',ca',cs',cx,cb]∧Wc bd ba bs W' cd' ca' cs'∧Ev W W' 0 (Ac W.δ.size k bound)∧W'.δ=W.δ∧W'.α.gs.Perm (g::W.α.gs)∧g.n=W.δ.size∧Bm first (Ac W.δ.size k bound) W.live W'.live∧Dh bw bx W' first (Ac W.δ.size k bound) k bound g [] cx cb)∨ (big W.σ.free<Ac W.δ.size k bound∧v= .tuple #[.pointer none,Z9 Z8 5]∧∃cd' ca' cs' W',H'=[Ab bw bd ba bs,cd',ca',cs']∧Wc bd ba bs W' cd' ca' cs'∧Ev W W' 0 0∧W'.δ=W.δ∧W'.live=W.live∧W'.α.gs.Perm W.α.gs):=by
 refine(qH bw bd ba bs W cd ca cs h k bound h1 h2 hb hr).mono ?_;obtain⟨hs,_⟩:=h.dev.num;have hp:=Bh hs.1 h1 h2;rintro v H' (⟨aa,bx,first,g,cd',ca',cs',W',rfl,rfl,hW,hE,e1,e2,e3,e4⟩|⟨hf,rfl,cd',ca',cs',W',rfl,hW,hE,e1,e2,e3,e4⟩)
 ·left;refine⟨aa,bx,first,g,cd',ca',cs',W',_,_,rfl,rfl,hW,hE,e1,e3,e2,?_,by rw[e1];exact e2,BT W.δ.size 0,?_,rfl,?_⟩
  ·unfold Bm;split at e4
   ·rename_i h0;rw[if_pos h0,e4.1]
   ·rename_i h0;rw[if_neg h0,e4]
  ·rw[e1];simp
  ·rw[e1];exact⟨h1,h2,hb,rfl,AU _,by simp,by simp,fun j hj=>by simp at hj,by simp⟩
 ·exact .inr ⟨hf,rfl,cd',ca',cs',W',rfl,hW,hE,e1,e3,e4⟩
theorem Rs (bw bd ba bs:Nat) (W:Wk) (cd ca cs:Aa) (h:Wc bd ba bs W cd ca cs) (f:Fl) (Lv:List Ext) (hl:Bm f.first f.blocks Lv W.live):Ct AC 82 [pv bw,flv f] [Ab bw bd ba bs,cs] fun v H'=> ∃cs' W',v=Z9 Z8 0∧H'=[Ab bw bd ba bs,cs']∧Wc bd ba bs W' cd ca cs'∧Ev W W' 0 0∧W'.δ=W.δ∧W'.α=W.α∧W'.live=Lv:=by
 unfold Bm at hl;unfold flv Ab;by_cases h0:f.blocks=0
 ·rw[if_pos h0] at hl;rw[h0];refine cG func82 fun _=>?_;repeat(refine sA ?_;intros)
  (refine dP [[(bw,row [pv bd,pv ba,pv bs] 105)],cs] ?_;exact⟨cs,{W with live:=Lv},rfl,rfl,⟨h.dev,h.ar,h.sp,h.nn,h.live.perm hl⟩,⟨rfl,rfl,⟨AI _,AI _⟩,id,rfl,AI _⟩,rfl,rfl,rfl⟩)
 ·rw[if_neg h0] at hl;have aa:=h.live.perm hl;obtain⟨⟨f1,f2⟩,f3⟩:=Qc aa;have ab:=Tg bs W.σ cs h.sp f.first f.blocks f1 f2 f3;refine cG func82 fun _=>?_;repeat(refine sA ?_;intros)
  refine cL ab ?_;rintro _ _ ⟨cs',σ',rfl,ac,e1,e3,e4,e5,rfl⟩;repeat(refine sA ?_;intros)
  (refine dP [[(bw,row [pv bd,pv ba,pv bs] 105)],cs'] ?_;exact⟨cs',{W with σ:=σ',live:=Lv},rfl,rfl,⟨h.dev,h.ar,ac,h.nn.trans e1.symm,Tk aa e1 e3 e4⟩,⟨rfl,e1,⟨AI _,AI _⟩,id,rfl,by show _≤big σ'.free+0;omega⟩,rfl,rfl,rfl⟩)
structure LayX where
 i:Nat
 cd:Aa
 ca:Aa
 cs:Aa
 cx:Aa
 cb:Aa
 W:Wk
theorem Lay_ct (bw bd ba bs:Nat) (W:Wk) (cd ca cs:Aa) (h:Wc bd ba bs W cd ca cs) (k:Nat) (h1:1≤k) (h2:k≤5) (p:Option Addr) (n cap:Nat) (ts:List T5) (c:Aa) (hv:RV p n ts c) (hn:n≤100000000) (be:∀t∈ts,okT k t) (hr:W.δ.size≤W.α.room-W.α.used) (hf:W.δ.fault= -1) (b1:W.δ.acts≤100000000000):Ct AC 73 [pv bw,Z9 Z8 k,.slice p n cap] [Ab bw bd ba bs,cd,ca,cs,c] fun v H'=> ∃cd' ca' cs' W',H'=[Ab bw bd ba bs,cd',ca',cs',c]∧Wc bd ba bs W' cd' ca' cs'∧Ev W W' (Ac W.δ.size k n) (Ac W.δ.size k n)∧Ap W.live W W'∧W'.α.gs.Perm W.α.gs∧((Ac W.δ.size k n≤big W.σ.free∧∃f,v= .tuple #[flv f,Z9 Z8 0]∧W'.live=(if f.blocks=0 then W.live else f.ext::W.live)∧f.width=k∧f.count=n∧Be W'.δ.disk W.δ.size [f.ext] f ts)∨ (big W.σ.free<Ac W.δ.size k n∧v= .tuple #[flv ⟨0,0,0,0⟩,Z9 Z8 5]∧W'.live=W.live∧W'.δ=W.δ)):=by
 have bf:=Om bw bd ba bs W cd ca cs h k n h1 h2 hn hr;have ax:=hv.1;obtain⟨⟨bg,b2⟩,_⟩:=h.dev.num;have hp:=Bh bg h1 h2;refine cG func73 fun _=>?_;repeat(refine sA ?_;intros)
 apply R.call
 ·exact rfl
 ·exact bf
 ·exact oA4
 ·exact rfl
 ·exact nle rfl
 rintro _ _ (⟨ay,bx,first,g,cd',ca',cs',W1,cx,cb,rfl,rfl,ai,aj,e1,e2,e3,e4,e5⟩|⟨ak,rfl,cd',ca',cs',W1,rfl,ai,aj,e1,e2,e3⟩)
 ·repeat(refine sA ?_;intros)
  rename_i b6;refine G.loop (X:=LayX) (fun x=>x.i≤n∧Wc bd ba bs x.W x.cd x.ca x.cs∧Ev W x.W (x.i/Ad W.δ.size k) (Ac W.δ.size k n)∧Ap W.live W x.W∧x.W.α.gs.Perm (g::W.α.gs)∧Bm first (Ac W.δ.size k n) W.live x.W.live∧Dh bw bx x.W first (Ac W.δ.size k n) k n g (ts.take x.i) x.cx x.cb)
   (fun x=>[(27,Z9 Z8 x.i),(26,Z9 Z8 n),(25,.slice p n cap),(8,pv bx),(6,.pointer (some ⟨b6,0,none⟩))])
   (fun x=>[[(b6,row [Z9 Z8 0,Z9 Z8 0,Z9 Z8 0,Z9 Z8 0] 42)],Ab bw bd ba bs,x.cd,x.ca,x.cs,x.cx,x.cb,c]) (fun x=>n-x.i) ⟨0,cd',ca',cs',cx,cb,W1⟩
   ⟨AU _,ai,by simpa using aj,fun x _=>by rw[e1],e2,e4,e5⟩ (body:=?_)
  rintro⟨i,az,a0,a1,a2,a3,W2⟩ ⟨hi,al,aa,am,ab,ac,ad⟩;dsimp only at hi al aa am ab ac ad⊢;have bh:=aa.acts;have a4:=aa.size;have b3:=aa.fault hf;have b4:i/Ad W.δ.size k≤n:=A5 (CW _ _) hi;by_cases a5:i<n
  ·obtain⟨b,off,b5,T,fz,rfl,rfl,an⟩:=hv.pos oM;have bi:=an i a5;have ao:i<ts.length:=oM;have bk:ts.getD i ⟨0,0,0,0,0⟩=ts[i]:=by simp[AP,ao]
   rw[bk] at bi;have aq:ts.take (i+1)=ts.take i++[ts[i]]:=by rw[BP];simp[ao]
   have a6:(ts.take i).length=i:=by simp;omega
   have a7:=Vg bw bd ba bs W2 az a0 a1 al bx first _ k n g (ts.take i) a2 a3 ad W.α.gs ab W.live ac oM ts[i] (be _ (B6 ao)) oM
   have bp:tv ts[i]= .agg (Ak ts[i]).toArray:=rfl;rw[bp] at a7;have bv:(Ak ts[i]).length=5:=rfl;have bz:(Ak ts[i]).all Value.oneCell'=true:=rfl;have bq:Bq [Z9 Z8 0,Z9 Z8 0,Z9 Z8 0,Z9 Z8 0,Z9 Z8 0] 0 (Ak ts[i])=Ak ts[i]:=rfl;have b7:((Ak ts[i]).drop 0).take 5=Ak ts[i]:=rfl;generalize Ak ts[i]=tc at*;repeat(refine sA ?_;intros)
   refine cL a7 ?_;rintro _ _ ⟨ae,ag,ah,W3,a8,a9,rfl,au,av,aw,⟨rfl,e6,e7,e8,e9⟩|⟨rfl,e6,_⟩⟩
   ·repeat(refine sA ?_;intros)
    refine Dn.round ⟨i+1,ae,ag,ah,a8,a9,W3⟩ ⟨a5,au,?_,am.trans aw,by rw[e6];exact ab,by rw[e8];exact ac,by rw[aq];exact e9⟩ oD;have:=aa.trans av;rw[a6,a4] at this;refine this.weak ?_ (AI _);have hm:i/Ad W.δ.size k≤(i+1)/Ad W.δ.size k:=B5 oM;dsimp only;omega
   ·omega
  ·obtain rfl:i=n:=by omega
   have aq:ts.take i=ts:=by rw[←ax];exact D4
   rw[aq] at ad;have bc:=Rp bw bd ba bs W2 az a0 a1 al bx first _ k i g ts a2 a3 ad W.α.gs ab W.live ac oM
   rw[a4,ax] at bc;repeat(refine sA ?_;intros)
   refine cL bc ?_;rintro _ _ ⟨ae,ag,ah,W3,a8,a9,rfl,au,av,aw,bu,b8,⟨f,rfl,e6,e7,e8,e9⟩|⟨rfl,e6,_⟩⟩
   ·repeat(refine sA ?_;intros)
    (refine dP [Ab bw bd ba bs,ae,ag,ah,c] ?_;refine⟨ae,ag,ah,W3,rfl,au,?_,am.trans aw,bu,.inl ⟨ay,f,rfl,e6,e7,e8,e9⟩⟩);have:=aa.trans av;refine this.weak ?_ (AI _);have hm:i/Ad W.δ.size k≤Ac W.δ.size k i:=by unfold Ac;exact B5 oM
    omega
   ·omega
 ·repeat(refine sA ?_;intros)
  (refine dP [Ab bw bd ba bs,cd',ca',cs',c] ?_;exact⟨cd',ca',cs',W1,rfl,ai,aj.weak (AU _) (AU _),fun x _=>by rw[e1],e3,.inr ⟨ak,rfl,e2,e1⟩⟩)
structure ListX where
 i:Nat
 cd:Aa
 ca:Aa
 cx:Aa
 cb:Aa
 W:Wk
 p:Option Addr
 cap:Nat
 co:Aa
theorem rB {ts:List T5} {i:Nat} (hi:i<ts.length):flat (ts.take (i+1))=flat (ts.take i)++Ak ts[i]:=by rw[BP,flat_append];simp[hi,flat]
theorem fL (bw bd ba bs:Nat) (W:Wk) (cd ca cs:Aa) (h:Wc bd ba bs W cd ca cs) (f:Fl) (ts:List T5) (Lv:List Ext) (ab:Be W.δ.disk W.δ.size Lv f ts) (au:∀e∈Lv,e∈W.live) (hr:W.δ.size≤W.α.room-W.α.used) (hf:W.δ.fault= -1) (b7:W.δ.acts≤100000000000) (b2:f.count≤1000000):Ct AC 41 [pv bw,flv f] [Ab bw bd ba bs,cd,ca,cs] fun v H'=> ∃cd' ca' W' p cap co,v= .tuple #[.slice p f.count cap,Z9 Z8 0]∧H'=[Ab bw bd ba bs,cd',ca',cs,co]∧Wc bd ba bs W' cd' ca' cs∧Ev W W' (Ac W.δ.size f.width f.count) 0∧W'.δ.disk=W.δ.disk∧W'.live=W.live∧W'.α.gs.Perm W.α.gs∧Vec 33 5 p f.count cap (flat ts) co:=by
 have av:=Ol bw bd ba bs W cd ca cs h f ts Lv ab hr;have aw:=ab.len;obtain⟨⟨a3,b8⟩,_⟩:=h.dev.num;have hp:=Bh a3 ab.w1 ab.w2;have a4:flv f= .agg #[Z9 Z8 f.first,Z9 Z8 f.blocks,Z9 Z8 f.width,Z9 Z8 f.count]:=rfl;rw[a4] at av⊢;refine Ct.introD func41 rfl ntmps41 (nle rfl) fun _=>?_;dsimp only[Cy,AD];repeat(refine st ?_;intros)
 refine cL av ?_;rintro _ _ ⟨bx,g,ac,α1,cx,cb,rfl,rfl,a5,a6,a7,b9,a8⟩;try dsimp only[AA,AB]
 repeat(refine st ?_;intros)
 refine G.loop (X:=ListX) (fun x=>x.i≤f.count∧Wc bd ba bs x.W x.cd x.ca cs∧Ev W x.W (Ac W.δ.size f.width x.i) 0∧x.W.δ.disk=W.δ.disk∧x.W.live=W.live∧x.W.α.gs.Perm (g::W.α.gs)∧De bw bx x.W f ts g x.i x.cx x.cb∧Vec 33 5 x.p x.i x.cap (flat (ts.take x.i)) x.co)
  (fun x=>[(6,pv bx),(8,.slice x.p x.i x.cap)])
  (fun x=>[Ab bw bd ba bs,x.cd,x.ca,cs,x.cx,x.cb,x.co]) (fun x=>f.count-x.i) ⟨0,cd,ac,cx,cb,{W with α:=α1},none,0,[]⟩
  ⟨AU _,a5,by rw[Ro hp];exact a6,rfl,rfl,a7,a8,Vec.nil _ _⟩ oA7 oA3 ?_
 rintro⟨i,ad,ac,al,am,W2,p,cap,co⟩ ⟨hi,an,aa,ae,ag,ah,ai,hV⟩;dsimp only at hi an aa ae ag ah ai hV⊢;have a9:=aa.acts;have ax:=aa.size;have b3:=aa.fault hf;have cg:Ac W.δ.size f.width i≤i:=by unfold Ac;rw[Nat.div_le_iff_le_mul_add_pred oM];have:=D5 i (show 0<Ad W.δ.size f.width by omega);omega
 by_cases bc:i<f.count
 ·have ay:i<ts.length:=oM;have az:=Qe bw bd ba bs W2 ad ac cs an bx f ts Lv (by rw[ae,ax];exact ab) (by rw[ag];exact au) g W.α.gs ah i al am ai ts[i] (AG ay) oM;have be:tv ts[i]= .agg (Ak ts[i]).toArray:=rfl;rw[be] at az;have b4:(Ak ts[i]).length=5:=rfl;have bf:(Ak ts[i]).length=1*5:=rfl;have b5:(Ak ts[i]).all Value.oneCell'=true:=rfl;have bg:Bq [Z9 Z8 0,Z9 Z8 0,Z9 Z8 0,Z9 Z8 0,Z9 Z8 0] 0 (Ak ts[i])=Ak ts[i]:=rfl;have ci:((Ak ts[i]).drop 0).take 5=Ak ts[i]:=rfl;have b6:((Ak ts[i]).drop 0).take (1*5)=Ak ts[i]:=rfl;have bh:=rB ay;generalize ts[i]=t at*;repeat(refine st ?_;intros)
  refine cL az ?_;rintro _ _ ⟨bi,aj,W3,a0,bk,rfl,ao,aq,bp,cj,bq,⟨rfl,e6,e9⟩|⟨rfl,e6,_⟩⟩;try dsimp only[AA,AB]
  ·repeat(refine st ?_;intros)
   rename_i p' ak c' bu;have a1:Vec 33 5 p' (i+1) ak (flat (ts.take i)++Ak t) c':=bu;rw[←bh] at a1;refine Dn.round ⟨i+1,bi,aj,a0,bk,W3,p',ak,c'⟩ ⟨bc,ao,?_,bp.trans ae,bq.trans ag,by rw[e6];exact ah,e9,a1⟩ oD;have:=aa.trans aq;rw[ax] at this;refine this.weak ?_ (AI _);have hm:Ac W.δ.size f.width i≤Ac W.δ.size f.width (i+1):=Da oM;dsimp only;omega
  ·omega
 ·have bv:f.count=i:=oM;subst bv;have a2:=Rq bw bx W2 f ts g al am ai;have bz:=(Lp bw bd ba bs W2 ad ac cs an bx f ts g W.α.gs ah f.count al am ai).2;have hz:tv T5.zero= .agg (Ak T5.zero).toArray:=rfl;rw[hz] at a2;repeat(refine st ?_;intros)
  refine cL a2 ?_;rintro _ _ ⟨rfl,rfl⟩;try dsimp only[AA,AB]
  repeat(refine st ?_;intros)
  refine Go.SL.Lv.call (hc:=bz) (h:=?_);rintro _ _ ⟨aj,α3,a0,rfl,rfl,ao,aq,b1,cm⟩;try dsimp only[AA,AB]
  (refine lN [Ab bw bd ba bs,ad,aj,cs,co] ?_;refine⟨ad,aj,{W2 with α:=α3},p,cap,co,rfl,rfl,ao,by simpa using aa.trans aq,ae,ag,b1,?_⟩);rw[←aw,D4] at hV;rw[←aw];exact hV
structure Seer (K:Type) where
 own:K→List Gr
 C:K→Aa
 J:Wk→K→Nat→Prop
 B:Wk→K→Int→Prop
 κ:Nat
structure Seer.Ok {K:Type} (Z:Seer K):Prop where
 stay:∀W W' r i,Z.J W r i→W'.δ.size=W.δ.size→W'.δ.disk=W.δ.disk→W'.σ=W.σ→W'.live=W.live→(W.δ.fault= -1→W'.δ.fault= -1)→Z.J W' r i
 flt:∀W W' r i,Z.J W r i→W.δ.fault=0→W'.δ=W.δ.failed→W'.σ=W.σ→W'.live=W.live→Z.B W' r 6
 stayB:∀W α r e,Z.B W r e→Z.B {W with α:=α} r e
def Zb (bw bd ba bs:Nat) {K:Type} (Z:Seer K) (size room:Nat) (f:Fl) (ts:List T5) (fid:Nat) (fs us:List Value):Prop:=
 ∀(aa:List Gr) (W:Wk) (cd ca cs:Aa) (r:K) (i:Nat) (t:T5),Wc bd ba bs W cd ca cs→W.α.gs.Perm (Z.own r++aa)→W.α.room=room→W.δ.size=size→Z.J W r i→ts[i]? =some t→W.δ.acts≤100000000000→
  Ct AC fid (fs++[tv t]++us) [Ab bw bd ba bs,cd,ca,cs,Z.C r] fun v H'=>
   ∃ab ac cs' W' r' e,v=Z9 Z8 e∧H'=[Ab bw bd ba bs,ab,ac,cs',Z.C r']∧Wc bd ba bs W' ab ac cs'∧Ev W W' Z.κ 0∧W'.α.gs.Perm (Z.own r'++aa)∧(e=0→Z.J W' r' (i+1))∧(e≠0→Z.B W' r' e)
structure OverX (K:Type) where
 i:Nat
 cd:Aa
 ca:Aa
 cs:Aa
 cx:Aa
 cb:Aa
 W:Wk
 r:K
theorem fM (bw bd ba bs:Nat) {K:Type} (Z:Seer K) (hZ:Z.Ok) (f:Fl) (ts:List T5) (Lv:List Ext) (al:Nat) (a7:Callable AC al) (fs us:List Value) (size room:Nat) (a9:Zb bw bd ba bs Z size room f ts al fs us) (W:Wk) (cd ca cs:Aa) (h:Wc bd ba bs W cd ca cs) (r:K) (aa:List Gr) (hg:W.α.gs.Perm (Z.own r++aa)) (b9:W.α.room=room) (a8:W.δ.size=size) (hJ:Z.J W r 0) (bc:∀W r i,Z.J W r i→Be W.δ.disk size Lv f ts∧∀e∈Lv,e∈W.live) (hr:W.δ.size≤W.α.room-W.α.used) (dt:W.δ.acts+Ac size f.width f.count+f.count*Z.κ≤100000000000) (du:f.count≤1000000):Ct AC 91 [pv bw,flv f,.func (.func al) fs.toArray us.toArray] [Ab bw bd ba bs,cd,ca,cs,Z.C r] fun v H'=> ∃cd' ca' cs' W' r' e,v=Z9 Z8 e∧H'=[Ab bw bd ba bs,cd',ca',cs',Z.C r']∧Wc bd ba bs W' cd' ca' cs'∧Ev W W' (Ac size f.width f.count+f.count*Z.κ) 0∧W'.α.gs.Perm (Z.own r'++aa)∧(e=0→Z.J W' r' f.count)∧(e≠0→Z.B W' r' e):=by
 obtain⟨⟨cg,dw⟩,dx,dy⟩:=h.dev.num;obtain⟨ad,ci⟩:=bc W r 0 hJ;have cj:=ad.w1;have cm:=ad.w2;have dz:=ad.len;have hp:=Bh cg cj cm;have be:=Ol bw bd ba bs W cd ca cs h f ts Lv (by rw[a8];exact ad) hr;have bf:flv f= .agg #[Z9 Z8 f.first,Z9 Z8 f.blocks,Z9 Z8 f.width,Z9 Z8 f.count]:=rfl;rw[bf] at be⊢;refine Ct.introD func91 rfl ntmps91 (nle rfl) fun _=>?_;dsimp only[Cy,AD];repeat(refine st ?_;intros)
 refine cL be ?_;rintro _ _ ⟨bx,g,cu,α1,cx,cb,rfl,rfl,cv,cw,cz,d0,c5⟩;try dsimp only[AA,AB]
 repeat(refine st ?_;intros)
 rename_i b4;have c6:Z.J {W with α:=α1} r 0:=hZ.stay _ _ _ _ hJ rfl rfl rfl rfl id;refine G.loop (X:=OverX K) (fun x=>x.i≤f.count∧Wc bd ba bs x.W x.cd x.ca x.cs∧Ev W x.W (Ac size f.width x.i+x.i*Z.κ) 0∧x.W.α.gs.Perm (g::(Z.own x.r++aa))∧Z.J x.W x.r x.i∧De bw bx x.W f ts g x.i x.cx x.cb)
  (fun _=>[(7,pv bx),(2,.func (.func al) fs.toArray us.toArray)]) (fun x=>[Ab bw bd ba bs,x.cd,x.ca,x.cs,Z.C x.r,x.cx,x.cb]) (fun x=>f.count-x.i) ⟨0,cd,cu,cs,cx,cb,{W with α:=α1},r⟩
  ⟨AU _,cv,cw.weak (AU _) (AI _),cz.trans (hg.cons _),c6,c5⟩ (body:=?_)
 rintro⟨i,am,bg,ab,aw,ax,W2,r2⟩ ⟨hi,ay,ac,an,ah,ae⟩;dsimp only at hi ay ac an ah ae⊢;have ai:W2.δ.size=size:=ac.size.trans a8;have bh:W2.α.room=room:=ac.room.trans b9;have dp:=ac.acts.2;obtain⟨bi,az⟩:=bc W2 r2 i ah;have d1:Ac size f.width i≤Ac size f.width f.count:=Da hi;have d2:i*Z.κ≤f.count*Z.κ:=BB _ hi;have hz:tv T5.zero= .agg #[Z9 Z8 T5.zero.c0,Z9 Z8 T5.zero.c1,Z9 Z8 T5.zero.c2,Z9 Z8 T5.zero.c3,Z9 Z8 T5.zero.c4]:=rfl;by_cases a0:i<f.count
 ·have bk:ts[i]? =some ts[i]:=AG oM;have bp:=Qe bw bd ba bs W2 am bg ab ay bx f ts Lv (by rw[ai];exact bi) az g _ an i aw ax ae _ bk oM;have c7:tv ts[i]= .agg #[Z9 Z8 (ts[i]).c0,Z9 Z8 (ts[i]).c1,Z9 Z8 (ts[i]).c2,Z9 Z8 (ts[i]).c3,Z9 Z8 (ts[i]).c4]:=rfl;rw[c7,hz,ai] at bp;have c8:=fun W cd ca cs=>a9 (g::aa) W cd ca cs r2 i ts[i];generalize ht:ts[i]=t at*;have bq:tv t= .agg #[Z9 Z8 t.c0,Z9 Z8 t.c1,Z9 Z8 t.c2,Z9 Z8 t.c3,Z9 Z8 t.c4]:=rfl;have d3:Ac size f.width (i+1)≤Ac size f.width f.count:=Da a0;have d4:Ac size f.width i≤Ac size f.width (i+1):=Da oM;have dq:(i+1)*Z.κ=i*Z.κ+Z.κ:=BH _ _;have dr:(i+1)*Z.κ≤f.count*Z.κ:=BB _ a0;repeat(refine st ?_;intros)
  refine cL bp ?_;rintro _ _ ⟨a1,a2,W3,ao,a3,rfl,bu,ag,c9,bv,bz,⟨rfl,b1,da⟩|⟨rfl,db,dc,dd,de⟩⟩;try dsimp only[AA,AB]
  ·have df:Z.J W3 r2 i:=hZ.stay _ _ _ _ ah ag.size c9 bv bz ag.fault;have ds:=ag.acts.2;have dg:W3.α.gs.Perm (Z.own r2++(g::aa)):=by rw[b1];exact an.trans B4.symm
   have hS:=c8 W3 a1 a2 ab bu dg (by rw[b1];exact bh) (ag.size.trans ai) df bk oM;rw[bq] at hS;repeat(refine st ?_;intros)
   apply R.callV
   ·exact rfl
   ·exact a7
   ·exact rfl
   ·exact hS
   ·exact oA4
   ·exact rfl
   ·exact nle rfl
   rintro _ _ ⟨aq,b2,au,W4,r4,e,rfl,rfl,b3,b5,dh,di,dj⟩;dsimp only[AA,AB];have b6:De bw bx W4 f ts g (i+1) ao a3:=da.move b5.size;have av:=(ac.trans ag).trans b5;have b7:W4.α.gs.Perm (g::(Z.own r4++aa)):=dh.trans B4;by_cases he:e=0
   ·subst he;repeat(refine st ?_;intros)
    refine Dn.round ⟨i+1,aq,b2,au,ao,a3,W4,r4⟩ ⟨a0,b3,av.weak oD (AI _),b7,di rfl,b6⟩ oD
   ·repeat(refine st ?_;intros)
    have aj:=Lp bw bd ba bs W4 aq b2 au b3 bx f ts g _ b7 (i+1) ao a3 b6;refine Go.SL.Lv.call (hc:=aj.2) (h:=?_);rintro _ _ ⟨ak,α5,dk,rfl,rfl,a4,a5,a6,dl⟩;try dsimp only[AA,AB]
    (refine lN [Ab bw bd ba bs,aq,ak,au,Z.C r4] ?_;exact⟨aq,ak,au,_,r4,e,rfl,rfl,a4,(av.trans a5).weak oM (AI _),a6,fun h0=>absurd h0 he,fun _=>hZ.stayB _ _ _ _ (dj he)⟩)
  ·have dm:Z.B W3 r2 6:=hZ.flt W2 W3 r2 i ah db dc bv bz;repeat(refine st ?_;intros)
   have aj:=Vi bx ao de;refine Go.SL.Lv.call (hc:=aj.2) (h:=?_);rintro _ _ ⟨rfl,rfl⟩;try dsimp only[AA,AB]
   (refine lN [Ab bw bd ba bs,a1,a2,ab,Z.C r2] ?_;exact⟨a1,a2,ab,W3,r2,6,rfl,rfl,bu,(ac.trans ag).weak oM (AI _),dd,fun h0=>by omega,fun _=>dm⟩)
 ·obtain rfl:i=f.count:=by omega
  have b8:=Rq bw bx W2 f ts g aw ax ae;rw[hz] at b8;repeat(refine st ?_;intros)
  refine cL b8 ?_;rintro _ _ ⟨rfl,rfl⟩;try dsimp only[AA,AB]
  repeat(refine st ?_;intros)
  have aj:=Lp bw bd ba bs W2 am bg ab ay bx f ts g _ an f.count aw ax ae;refine Go.SL.Lv.call (hc:=aj.2) (h:=?_);rintro _ _ ⟨ak,α5,dk,rfl,rfl,a4,a5,a6,dl⟩;try dsimp only[AA,AB]
  (refine lN [Ab bw bd ba bs,am,ak,ab,Z.C r2] ?_;exact⟨am,ak,ab,_,r2,0,rfl,rfl,a4,(ac.trans a5).weak oM (AI _),a6,fun _=>hZ.stay _ _ _ _ ah rfl rfl rfl rfl id,fun h0=>absurd rfl h0⟩)
def Im (bx:Nat):Value:= .func (.func 92) #[pv bx] #[]
def Vj (bx kk:Nat) (Pst:List T5→Aa→Prop) (Br:Aa→Prop) (bnd:Nat):Prop:=
 ∀ps X t,Pst ps X→okT kk t→ps.length<bnd→Ct AC 92 [pv bx,tv t] [X] fun v H'=>
  ∃X',H'=[X']∧((v=Z9 Z8 0∧Pst (ps++[t]) X')∨(v=Z9 Z8 6∧Br X'))
structure Aj (K:Type) where
 C:K→Hp
 outs:K→T5→List T5
 next:K→T5→K
 err:K→T5→Option Nat
def Bw {K:Type} (M:Aj K) (kk:Nat) (ok:K→T5→Prop) (mk:Nat) (fs us:List Value):Prop:=
 ∀bx Pst Br bnd,Vj bx kk Pst Br bnd→∀ps X k t,Pst ps X→ok k t→ps.length+(M.outs k t).length≤bnd→
  Ct AC mk (fs++[tv t,Im bx]++us) (X::M.C k) fun v H'=>∃X' k',H'=X'::M.C k'∧
   ((v=Z9 Z8 0∧M.err k t=none∧k'=M.next k t∧Pst (ps++M.outs k t) X')∨(v=Z9 Z8 6∧Br X')∨
    (∃n:Nat,M.err k t=some n∧n≠0∧v=Z9 Z8 n∧∃aa,Pst aa X'))
namespace Aj
variable {K:Type} (M:Aj K)
def st:K→List T5→K
 |k,[]=>k
 |k,t::ts=>st (M.next k t) ts
def all:K→List T5→List T5
 |_,[]=>[]
 |k,t::ts=>M.outs k t++all (M.next k t) ts
def bad:K→List T5→Option Nat
 |_,[]=>none
 |k,t::ts=>match M.err k t with
  |some n=>some n
  |none=>bad (M.next k t) ts
def oks (ok:K→T5→Prop):K→List T5→Prop
 |_,[]=>True
 |k,t::ts=>ok k t∧(M.err k t=none→oks ok (M.next k t) ts)
variable {M}
theorem st_app:∀(a b:List T5) (k:K),M.st k (a++b)=M.st (M.st k a) b
 |[],_,_=>rfl
 |t::a,b,k=>st_app a b (M.next k t)
theorem all_app:∀(a b:List T5) (k:K),M.all k (a++b)=M.all k a++M.all (M.st k a) b
 |[],_,_=>rfl
 |t::a,b,k=>by simp only[AA,all,st,all_app a b,AT]
theorem bad_app:∀(a b:List T5) (k:K),M.bad k (a++b)=(match M.bad k a with|some n=>some n|none=>M.bad (M.st k a) b)
 |[],_,_=>rfl
 |t::a,b,k=>by
  simp only[AA,bad,st];cases M.err k t with
  |some n=>rfl
  |none=>exact bad_app a b _
theorem oks_at {ok:K→T5→Prop}:∀{ts:List T5} {k:K} {i:Nat} {t:T5},M.oks ok k ts→M.bad k (ts.take i)=none→ts[i]? =some t→ok (M.st k (ts.take i)) t
 |[],_,_,_,_,_,h=>by simp at h
 |t::ts,k,0,u,h,_,h2=>by simp only[List.getElem?_cons_zero,BG] at h2;subst h2;exact h.1
 |t::ts,k,i+1,u,h,hb,h2=>by
  simp only[List.take_succ_cons,bad] at hb;cases he:M.err k t with
  |some n=>rw[he] at hb;cases hb
  |none=>
   rw[he] at hb;exact oks_at (ts:=ts) (h.2 he) hb (by simpa using h2)
theorem take_succ {ts:List T5} {i:Nat} {t:T5} (h:ts[i]? =some t):ts.take (i+1)=ts.take i++[t]:=by rw[BP,h];rfl
theorem all_le {ts:List T5} {k:K} (i:Nat):(M.all k (ts.take i)).length≤(M.all k ts).length:=by have:=congrArg List.length (all_app (M:=M) (ts.take i) (ts.drop i) k);rw[BV,AH] at this;omega
theorem bad_take {ts:List T5} {k:K} {i n:Nat} (h:M.bad k (ts.take i)=some n):M.bad k ts=some n:=by have:=bad_app (M:=M) (ts.take i) (ts.drop i) k;rw[BV,h] at this;exact this
theorem oks_app {ok:K→T5→Prop}:∀{a b:List T5} {k:K},M.oks ok k (a++b)→M.oks ok k a∧(M.bad k a=none→M.oks ok (M.st k a) b)
 |[],_,_,h=>⟨trivial,fun _=>h⟩
 |t::a,b,k,h=>by
  refine⟨⟨h.1,fun he=>(oks_app (h.2 he)).1⟩,fun hb=>?_⟩;simp only[bad] at hb;cases he:M.err k t with
  |some n=>rw[he] at hb;cases hb
  |none=>rw[he] at hb;exact(oks_app (h.2 he)).2 hb
theorem all_len {n:Nat} (h:∀k t,(M.outs k t).length≤n):∀(ts:List T5) (k:K),(M.all k ts).length≤ts.length*n
 |[],_=>AU _
 |t::ts,k=>by have h1:=h k t;have h2:=all_len h ts (M.next k t);simp only[all,AH,List.length_cons,BH];omega
end Aj
theorem fN (X:Aa) (H:Hp):(X::H).flatten.Perm ([X,H.flatten].flatten):=by simp
def Oo (bm bx2:Nat) (mk:Nat) (fs us:List Value) (bx:Nat):Hp:=[[(bm,row [.func (.func mk) fs.toArray us.toArray] 91)],[(bx2,row [pv bx] 122)]]
theorem rC {K:Type} (M:Aj K) (kk:Nat) (ok:K→T5→Prop) (mk:Nat) (ab:Callable AC mk) (fs us:List Value) (hM:Bw M kk ok mk fs us) (bm aa bx:Nat) (Pst:List T5→Aa→Prop) (Br:Aa→Prop) (bnd:Nat) (hP:Vj bx kk Pst Br bnd) (ps:List T5) (X:Aa) (k:K) (t:T5) (hX:Pst ps X) (hk:ok k t) (hb:ps.length+(M.outs k t).length≤bnd):Ct AC 171 [tv t,pv bm,pv aa] [[(bm,row [.func (.func mk) fs.toArray us.toArray] 91)],[(aa,row [pv bx] 122)],X,(M.C k).flatten] fun v H'=> ∃X' k',H'=[[(bm,row [.func (.func mk) fs.toArray us.toArray] 91)],[(aa,row [pv bx] 122)],X',(M.C k').flatten]∧((v=Z9 Z8 0∧M.err k t=none∧k'=M.next k t∧Pst (ps++M.outs k t) X')∨(v=Z9 Z8 6∧Br X')∨ (∃n:Nat,M.err k t=some n∧n≠0∧v=Z9 Z8 n∧∃ps',Pst ps' X')):=by
 have hC:Ct AC mk (fs++[tv t,Im bx]++us) [X,(M.C k).flatten] fun v H'=>∃X' k',H'=[X',(M.C k').flatten]∧
   ((v=Z9 Z8 0∧M.err k t=none∧k'=M.next k t∧Pst (ps++M.outs k t) X')∨(v=Z9 Z8 6∧Br X')∨
    (∃n:Nat,M.err k t=some n∧n≠0∧v=Z9 Z8 n∧∃ps',Pst ps' X')):=by
  refine Ct.convP (hM bx Pst Br bnd hP ps X k t hX hk hb) (fN _ _).symm ?_;rintro v H' ⟨X',k',rfl,h⟩;exact⟨_,⟨X',k',rfl,h⟩,fN _ _⟩
 have ac:tv t= .agg #[Z9 Z8 t.c0,Z9 Z8 t.c1,Z9 Z8 t.c2,Z9 Z8 t.c3,Z9 Z8 t.c4]:=rfl;rw[ac] at hC⊢;unfold Im at hC;refine cG func171 fun _=>?_;repeat(refine sA ?_;intros)
 apply R.callV
 ·exact rfl
 ·exact ab
 ·exact rfl
 ·exact hC
 ·exact oA4
 ·exact rfl
 ·exact nle rfl
 rintro _ _ ⟨X',k',rfl,h⟩;dsimp only[AA,AB];obtain⟨e,rfl⟩:∃e:Int,_=Value.int .i64 e:=by
  rcases h with⟨e,_⟩|⟨e,_⟩|⟨n,_,_,e,_⟩
  ·exact⟨_,e⟩
  ·exact⟨_,e⟩
  ·exact⟨_,e⟩
 repeat(refine sA ?_;intros)
 (refine dP [[(bm,row [.func (.func mk) fs.toArray us.toArray] 91)],[(aa,row [pv bx] 122)],X',(M.C k').flatten] ?_;exact⟨X',k',rfl,h⟩)
end Go.Proofs.YtaofijjjheiknaaGreat
namespace Go.Srt
set_option linter.unusedSectionVars false
structure Swo {α:Type} (lt:α→α→Bool):Prop where
 asym:∀a b,lt a b=true→lt b a=false
 ntrans:∀a b c,lt a b=false→lt b c=false→lt a c=false
variable {α:Type} {lt:α→α→Bool}
theorem Swo.irr (h:Swo lt) (a:α):lt a a=false:=by
 cases hl:lt a a with
 |false=>rfl
 |true=>have:=h.asym a a hl;rw[hl] at this;cases this
def eqv (lt:α→α→Bool) (a b:α):Bool:= !lt a b&& !lt b a
theorem Gm {a b:α}:eqv lt a b=true↔lt a b=false∧lt b a=false:=by simp[eqv]
theorem Tm (h:Swo lt) (a:α):eqv lt a a=true:=Gm.2 ⟨h.irr a,h.irr a⟩
theorem Vk {a b:α} (h:eqv lt a b=true):eqv lt b a=true:=Gm.2 ⟨(Gm.1 h).2,(Gm.1 h).1⟩
theorem Vl (h:Swo lt) {a b c:α} (h1:eqv lt a b=true) (h2:eqv lt b c=true):eqv lt a c=true:=
 Gm.2 ⟨h.ntrans _ _ _ (Gm.1 h1).1 (Gm.1 h2).1,h.ntrans _ _ _ (Gm.1 h2).2 (Gm.1 h1).2⟩
def Gg (once:Bool) (l:List α):List α:=if once then l.take 1 else l
def Sd (lt:α→α→Bool) (once:Bool) (l:List α):Prop:=l.Pairwise fun a b=>if once then lt a b=true else lt b a=false
def Sp (lt:α→α→Bool) (once:Bool) (l1 l2:List α):Prop:=∀x,Gg once (l1.filter (eqv lt x))=Gg once (l2.filter (eqv lt x))
theorem Sp.refl (once:Bool) (l:List α):Sp lt once l l:=fun _=>rfl
theorem Sp.symm {once:Bool} {l1 l2:List α} (h:Sp lt once l1 l2):Sp lt once l2 l1:=fun x=>(h x).symm
theorem Sp.trans {once:Bool} {l1 l2 l3:List α} (h:Sp lt once l1 l2) (h2:Sp lt once l2 l3):Sp lt once l1 l3:=fun x=>(h x).trans (h2 x)
theorem fO (once:Bool) (a b:List α):Gg once (a++b)=Gg once (Gg once a++Gg once b):=by
 cases once with
 |false=>rfl
 |true=>
  simp only[Gg,if_true];cases a with
  |nil=>cases b<;>simp
  |cons x a=>simp
theorem Sp.app {once:Bool} {a b c d:List α} (h1:Sp lt once a b) (h2:Sp lt once c d):Sp lt once (a++c) (b++d):=fun x=>by rw[List.filter_append,List.filter_append,fO,h1 x,h2 x,←fO]
theorem Sp.once_of {once:Bool} {a b:List α} (h:Sp lt false a b):Sp lt once a b:=fun x=>by have:=h x;simp only[Gg] at this;simp only[Bool.false_eq_true,if_false] at this;rw[this]
theorem Sp.swap (h:Swo lt) {once:Bool} {v x:List α} (hx:∀b∈x,∀a∈v,lt b a=true):Sp lt once (v++x) (x++v):=fun c=>by
 rw[List.filter_append,List.filter_append];by_cases hv:v.filter (eqv lt c)=[]
 ·rw[hv];simp
 ·have:x.filter (eqv lt c)=[]:=by rw[List.filter_eq_nil_iff];intro b hb aa;obtain⟨a,ha⟩:=List.exists_mem_of_ne_nil _ hv;obtain⟨ab,ac⟩:=List.mem_filter.1 ha;have h1:=Vl h (Vk aa) ac;have h2:=hx b hb a ab;rw[(Gm.1 h1).1] at h2;cases h2
  rw[this];simp
theorem fP (h:Swo lt) {once:Bool} {l:List α} (hs:Sd lt once l) (x:α):Gg once (l.filter (eqv lt x))=l.filter (eqv lt x):=by
 cases once with
 |false=>rfl
 |true=>
  have:(l.filter (eqv lt x)).Pairwise fun a b=>lt a b=true:=by have:=hs.sublist (List.filter_sublist (p:=eqv lt x));simpa using this
  have hm:∀a∈l.filter (eqv lt x),eqv lt x a=true:=fun a ha=>(List.mem_filter.1 ha).2;simp only[Gg,if_true];revert this hm;generalize l.filter (eqv lt x)=m;intro h1 h2
  match m,h1,h2 with
  |[],_,_=>rfl
  |[_],_,_=>rfl
  |a::b::m,h1,h2=>
   exfalso;have h3:=List.rel_of_pairwise_cons h1 (List.mem_cons_self (a:=b) (l:=m));have h4:=Vl h (Vk (h2 a oA19)) (h2 b oA19);rw[(Gm.1 h4).1] at h3;cases h3
theorem Sd.weak (h:Swo lt) {once:Bool} {l:List α} (hs:Sd lt once l):Sd lt false l:=by
 cases once with
 |false=>exact hs
 |true=>exact List.Pairwise.imp (fun {a b} aa=>by simpa using h.asym a b (by simpa using aa)) hs
theorem fQ (h:Swo lt):∀{l1 l2:List α},Sd lt false l1→Sd lt false l2→Sp lt false l1 l2→l1=l2
 |[],[],_,_,_=>rfl
 |[],b::l2,_,_,hp=>by have:=hp b;simp[Gg,Tm h] at this
 |a::l1,[],_,_,hp=>by have:=hp a;simp[Gg,Tm h] at this
 |a::l1,b::l2,h1,h2,hp=>by
  have aa:∀x,(a::l1).filter (eqv lt x)=(b::l2).filter (eqv lt x):=fun x=>by have:=hp x;simpa[Gg] using this
  have mem:∀x,x∈a::l1↔x∈b::l2:=fun x=>by
   have e:=aa x;constructor
   ·intro hm;exact(List.mem_filter.1 (e▸List.mem_filter.2 ⟨hm,Tm h x⟩)).1
   ·intro hm;exact(List.mem_filter.1 (e.symm▸List.mem_filter.2 ⟨hm,Tm h x⟩)).1
  have ab:lt b a=false:=by
   rcases List.mem_cons.1 ((mem b).2 List.mem_cons_self) with rfl|hm
   ·exact h.irr _
   ·simpa using List.rel_of_pairwise_cons h1 hm
  have ac:lt a b=false:=by
   rcases List.mem_cons.1 ((mem a).1 List.mem_cons_self) with rfl|hm
   ·exact h.irr _
   ·simpa using List.rel_of_pairwise_cons h2 hm
  have e1:eqv lt a b=true:=Gm.2 ⟨ac,ab⟩;have e:=aa a;simp only[List.filter_cons,Tm h,e1,if_true,List.cons.injEq] at e;obtain⟨rfl,_⟩:=e;congr 1;refine fQ h (List.Pairwise.of_cons h1) (List.Pairwise.of_cons h2) fun x=>?_;have:=aa x;simp only[List.filter_cons] at this;simp only[Gg,Bool.false_eq_true,if_false];split at this
  ·exact(List.cons.inj this).2
  ·exact this
theorem rD (h:Swo lt) {once:Bool} {l1 l2:List α} (h1:Sd lt once l1) (h2:Sd lt once l2) (hp:Sp lt once l1 l2):l1=l2:=
 fQ h (h1.weak h) (h2.weak h) fun x=>by have:=hp x;rw[fP h h1,fP h h2] at this;simpa[Gg] using this
variable [Inhabited α]
def sw (l:List α) (i j:Nat):List α:=(l.set i (l.getD j default)).set j (l.getD i default)
@[simp] theorem Zc (l:List α) (i j:Nat):(sw l i j).length=l.length:=by simp[sw]
theorem rE (P S:List α) (i:Nat) (h:i<P.length):(P++S).getD i default=P.getD i default:=by simp[List.getD_eq_getElem?_getD,List.getElem?_append_left h]
theorem rF (P S:List α) (i:Nat) (h:P.length≤i):(P++S).getD i default=S.getD (i-P.length) default:=by simp[List.getD_eq_getElem?_getD,List.getElem?_append_right h]
abbrev at_ (l:List α) (k:Nat):α:=l.getD k default
theorem Iw (l:List α) (i j k:Nat) (hi:i<l.length) (hj:j<l.length):at_ (sw l i j) k=if k=j then at_ l i else if k=i then at_ l j else at_ l k:=by
 unfold sw at_
 simp only[List.getD_eq_getElem?_getD,List.getElem?_set,List.length_set];by_cases h1:k=j
 ·subst h1;simp[hj]
 ·rw[if_neg (fun e=>h1 e.symm),if_neg h1];by_cases h2:k=i
  ·subst h2;simp[hi]
  ·rw[if_neg (fun e=>h2 e.symm),if_neg h2]
theorem fR {l1 l2:List α} (hl:l1.length=l2.length) (h:∀k,at_ l1 k=at_ l2 k):l1=l2:=by apply List.ext_getElem hl;intro k h1 h2;have:=h k;simpa[at_,List.getD_eq_getElem?_getD,h1,h2] using this
def Ci (l:List α) (a m b k:Nat):α:=if a≤k∧k<a+(b-m) then at_ l (k+(m-a)) else if a+(b-m)≤k∧k<b then at_ l (k-(b-m)) else at_ l k
def Kw (l:List α) (a b n k:Nat):α:=if a≤k∧k<a+n then at_ l (k+(b-a)) else if b≤k∧k<b+n then at_ l (k-(b-a)) else at_ l k
theorem rG {l c:List α} {a b n i:Nat} (aa:a+n≤b) (hn:b+n≤l.length) (hc:c.length=l.length) (h:∀k,at_ c k=Kw l a b i k) (hi:i<n):∀k,at_ (sw c (a+i) (b+i)) k=Kw l a b (i+1) k:=by
 intro k;rw[Iw _ _ _ _ oM oM];simp only[h,Kw]
 (repeat' split)<;>first|rfl|(exfalso;omega)|(congr 1;omega)
theorem rH {c c':List α} {m i j:Nat} (hi:i≤m) (aa:j<i) (h:∀k,at_ c' k=Kw c (m-i) m j k):∀k,Ci c' (m-(i-j)) m (m+j) k=Ci c (m-i) m (m+j) k:=by
 intro k;simp only[Ci,h,Kw]
 (repeat' split)<;>first|rfl|(exfalso;omega)|(congr 1;omega)
theorem rI {c c':List α} {m i j:Nat} (hi:i≤m) (aa:i<j) (h:∀k,at_ c' k=Kw c (m-i) (m+j-i) i k):∀k,Ci c' (m-i) m (m+(j-i)) k=Ci c (m-i) m (m+j) k:=by
 intro k;simp only[Ci,h,Kw]
 (repeat' split)<;>first|rfl|(exfalso;omega)|(congr 1;omega)
theorem rJ {c c':List α} {m i:Nat} (hi:i≤m) (h:∀k,at_ c' k=Kw c (m-i) m i k):∀k,at_ c' k=Ci c (m-i) m (m+i) k:=by
 intro k;simp only[Ci,h,Kw]
 (repeat' split)<;>first|rfl|(exfalso;omega)|(congr 1;omega)
theorem Vm (l:List α) {a m b:Nat} (h:a=m∨m=b) (h1:a≤m) (h2:m≤b):∀k,Ci l a m b k=at_ l k:=by
 intro k;simp only[Ci];split
 ·congr 1;omega
 ·split
  ·congr 1;omega
  ·rfl
theorem fS {l:List α} {a n:Nat} {x:α} (h:x∈(l.drop a).take n):∃k,a≤k∧k<a+n∧x=at_ l k:=by
 obtain⟨i,hi⟩:=List.getElem?_of_mem h;rw[List.getElem?_take] at hi;split at hi
 ·rename_i aa;rw[List.getElem?_drop] at hi;exact⟨a+i,oM,oM,by simp[at_,List.getD_eq_getElem?_getD,hi]⟩
 ·cases hi
theorem fT (l:List α) (a n k:Nat) (h:k<n):at_ ((l.drop a).take n) k=at_ l (a+k):=by simp[at_,List.getD_eq_getElem?_getD,List.getElem?_take,h]
theorem Tn (P S:List α) (k:Nat):at_ (P++S) k=if k<P.length then at_ P k else at_ S (k-P.length):=by
 split
 ·exact rE P S k oA17
 ·exact rF P S k oM
theorem cut4 (l:List α) {a m b:Nat} (h1:a≤m) (h2:m≤b) (hb:b≤l.length):l=l.take a++((l.drop a).take (m-a)++((l.drop m).take (b-m)++l.drop b)):=by
 have e1:(l.drop m).take (b-m)++l.drop b=l.drop m:=by have:=List.take_append_drop (b-m) (l.drop m);rwa[List.drop_drop,show m+(b-m)=b by omega] at this
 have e2:(l.drop a).take (m-a)++l.drop m=l.drop a:=by have:=List.take_append_drop (m-a) (l.drop a);rwa[List.drop_drop,show a+(m-a)=m by omega] at this
 rw[e1,e2,List.take_append_drop]
theorem rot_eq {l l':List α} {a m b:Nat} (h1:a≤m) (h2:m≤b) (hb:b≤l.length) (hl:l'.length=l.length) (hr:∀k,at_ l' k=Ci l a m b k):l'=l.take a++((l.drop m).take (b-m)++((l.drop a).take (m-a)++l.drop b)):=by
 apply fR
 ·simp;omega
 ·intro k;rw[hr,Tn,Tn,Tn];simp only[Ci,List.length_take,List.length_drop];have e1:min a l.length=a:=oM;have e2:min (b-m) (l.length-m)=b-m:=oM;have e3:min (m-a) (l.length-a)=m-a:=oM;rw[e1,e2,e3];by_cases k1:k<a
  ·rw[if_neg oM,if_neg oM,if_pos k1];simp[at_,List.getD_eq_getElem?_getD,List.getElem?_take,k1]
  ·rw[if_neg k1];by_cases k2:k-a<b-m
   ·rw[if_pos oM,if_pos k2,fT _ _ _ _ k2];congr 1;omega
   ·rw[if_neg k2,if_neg oM];by_cases k3:k-a-(b-m)<m-a
    ·rw[if_pos oM,if_pos k3,fT _ _ _ _ k3];congr 1;omega
    ·rw[if_neg oM,if_neg k3];simp[at_,List.getD_eq_getElem?_getD];congr 2;omega
theorem fU (h:Swo lt) {l l':List α} {a m b:Nat} (h1:a≤m) (h2:m≤b) (hb:b≤l.length) (hl:l'.length=l.length) (hr:∀k,at_ l' k=Ci l a m b k) (hc:∀i j,a≤i→i<m→m≤j→j<b→lt (at_ l j) (at_ l i)=true):Sp lt false l l':=by
 rw[rot_eq h1 h2 hb hl hr]
 conv=>lhs;rw[cut4 l h1 h2 hb]
 refine Sp.app (Sp.refl _ _) ?_;rw[←List.append_assoc,←List.append_assoc];refine Sp.app (Sp.swap h ?_) (Sp.refl _ _);intro x hx v hv;obtain⟨j,j1,j2,rfl⟩:=fS hx;obtain⟨i,i1,i2,rfl⟩:=fS hv;exact hc i j i1 oM j1 oM
def Seg (lt:α→α→Bool) (l:List α) (a b:Nat):Prop:=∀i j,a≤i→i<j→j<b→lt (at_ l j) (at_ l i)=false
def Ins (l l':List α) (a b:Nat):Prop:=(∀k,a≤k→k<b→∃k',a≤k'∧k'<b∧at_ l' k=at_ l k')∧(∀k,k<a∨b≤k→at_ l' k=at_ l k)∧l'.length=l.length
theorem Ins.refl (l:List α) (a b:Nat):Ins l l a b:=⟨fun k h1 h2=>⟨k,h1,h2,rfl⟩,fun _ _=>rfl,rfl⟩
theorem Ins.trans {l1 l2 l3:List α} {a b:Nat} (h:Ins l1 l2 a b) (h2:Ins l2 l3 a b):Ins l1 l3 a b:=
 ⟨fun k k1 k2=>by
  obtain⟨k',e1,e2,e3⟩:=h2.1 k k1 k2;obtain⟨aa,f1,f2,f3⟩:=h.1 k' e1 e2;exact⟨aa,f1,f2,e3.trans f3⟩,fun k hk=>(h2.2.1 k hk).trans (h.2.1 k hk),h2.2.2.trans h.2.2⟩
theorem Ins.wide {l l':List α} {a b c d:Nat} (h:Ins l l' a b) (h1:c≤a) (h2:b≤d):Ins l l' c d:=
 ⟨fun k k1 k2=>by
  by_cases hk:a≤k∧k<b
  ·obtain⟨k',e1,e2,e3⟩:=h.1 k hk.1 hk.2;exact⟨k',oM,oM,e3⟩
  ·exact⟨k,k1,k2,h.2.1 k oM⟩,fun k hk=>h.2.1 k oM,h.2.2⟩
theorem Ins.rot {l l':List α} {a m b:Nat} (h1:a≤m) (h2:m≤b) (hl:l'.length=l.length) (hr:∀k,at_ l' k=Ci l a m b k):Ins l l' a b:=by
 refine⟨fun k k1 k2=>?_,fun k hk=>?_,hl⟩
 ·rw[hr];unfold Ci;split
  ·exact⟨_,oM,oM,rfl⟩
  ·split
   ·exact⟨_,oM,oM,rfl⟩
   ·exact⟨k,k1,k2,rfl⟩
 ·rw[hr];unfold Ci;rw[if_neg oM,if_neg oM]
theorem Seg.out {l l':List α} {a b c d:Nat} (h:Seg lt l c d) (hi:Ins l l' a b) (hd:d≤a∨b≤c):Seg lt l' c d:=fun i j h1 h2 h3=>by rw[hi.2.1 i oM,hi.2.1 j oM];exact h i j h1 h2 h3
theorem rK (h:Swo lt) {l l1:List α} {a m b mid n start e ad ab:Nat} (ak:a<m) (aj:m<b) (s1:Seg lt l a m) (s2:Seg lt l m b) (ah:mid=(a+b)/2) (hn:n=mid+m) (he:e=n-start) (ac:ad=if mid<m then n-b else a) (aa:ab=if mid<m then mid else m) (ai:ad≤start) (al:start≤ab) (f1:start=ad∨lt (at_ l (n-start)) (at_ l (start-1))=false) (f2:start=ab∨lt (at_ l (n-1-start)) (at_ l start)=true) (hr:∀k,at_ l1 k=Ci l start m e k):(∀i j,start≤i→i<m→m≤j→j<e→lt (at_ l j) (at_ l i)=true)∧(Seg lt l1 a start∧Seg lt l1 start mid∧Seg lt l1 mid e∧Seg lt l1 e b)∧(∀i j,a≤i→i<mid→mid≤j→j<b→lt (at_ l1 j) (at_ l1 i)=false)∧a≤start∧start≤m∧m≤e∧e≤b∧start≤mid∧mid≤e:=by
 have ag:a≤start∧start≤m∧m≤e∧e≤b∧start≤mid∧mid≤e∧mid-start=e-m:=by split at ac<;>split at aa<;>omega
 obtain⟨b1,b2,b3,b4,b5,b6,b7⟩:=ag;have ae:∀i j,start≤i→i<m→m≤j→j<e→lt (at_ l j) (at_ l i)=true:=by
  intro i j i1 i2 j1 j2;rcases f2 with f2|f2
  ·exfalso;split at aa<;>omega
  ·rw[show n-1-start=e-1 by omega] at f2;cases hlt:lt (at_ l j) (at_ l i) with
   |true=>rfl
   |false=>
    exfalso;have g1:lt (at_ l (e-1)) (at_ l j)=false:=by
     by_cases hj:j=e-1
     ·subst hj;exact h.irr _
     ·exact s2 j (e-1) j1 oM oM
    have g2:lt (at_ l i) (at_ l start)=false:=by
     by_cases hj:i=start
     ·subst hj;exact h.irr _
     ·exact s1 start i b1 oM i2
    have:=h.ntrans _ _ _ g1 (h.ntrans _ _ _ hlt g2);rw[f2] at this;cases this
 have r1:∀k,k<start→at_ l1 k=at_ l k:=fun k hk=>by rw[hr,Ci,if_neg oM,if_neg oM]
 have r2:∀k,start≤k→k<mid→at_ l1 k=at_ l (k+(m-start)):=fun k h1 h2=>by rw[hr,Ci,if_pos oM]
 have r3:∀k,mid≤k→k<e→at_ l1 k=at_ l (k-(e-m)):=fun k h1 h2=>by rw[hr,Ci,if_neg oM,if_pos oM]
 have r4:∀k,e≤k→at_ l1 k=at_ l k:=fun k hk=>by rw[hr,Ci,if_neg oM,if_neg oM]
 refine⟨ae,⟨?_,?_,?_,?_⟩,?_,b1,b2,b3,b4,b5,b6⟩
 ·intro i j i1 i2 i3;rw[r1 i oM,r1 j i3];exact s1 i j i1 i2 oM
 ·intro i j i1 i2 i3;rw[r2 i i1 oM,r2 j oM i3];exact s2 _ _ oM oM oM
 ·intro i j i1 i2 i3;rw[r3 i i1 oM,r3 j oM i3];exact s1 _ _ oM oM oM
 ·intro i j i1 i2 i3;rw[r4 i i1,r4 j oM];exact s2 _ _ oM oM oM
 ·intro i j i1 i2 j1 j2;by_cases hi:i<start
  ·rw[r1 i hi];by_cases hj:j<e
   ·rw[r3 j j1 hj];exact s1 _ _ i1 oM oM
   ·rw[r4 j oM];rcases f1 with f1|f1
    ·exfalso;split at ac<;>omega
    ·rw[←he] at f1;have g1:lt (at_ l (start-1)) (at_ l i)=false:=by
      by_cases hh:i=start-1
      ·subst hh;exact h.irr _
      ·exact s1 _ _ i1 oM oM
     have g2:lt (at_ l j) (at_ l e)=false:=by
      by_cases hh:j=e
      ·subst hh;exact h.irr _
      ·exact s2 _ _ oM oM oM
     exact h.ntrans _ _ _ g2 (h.ntrans _ _ _ f1 g1)
  ·rw[r2 i oM i2];by_cases hj:j<e
   ·rw[r3 j j1 hj];exact h.asym _ _ (ae _ _ oM oM oM oM)
   ·rw[r4 j oM];exact s2 _ _ oM oM oM
theorem Zd {l:List α} {a mid b:Nat} (h1:Seg lt l a mid) (h2:Seg lt l mid b) (hc:∀i j,a≤i→i<mid→mid≤j→j<b→lt (at_ l j) (at_ l i)=false):Seg lt l a b:=by
 intro i j i1 i2 i3;by_cases hi:j<mid
 ·exact h1 i j i1 i2 hi
 ·by_cases hj:i<mid
  ·exact hc i j i1 hj oM i3
  ·exact h2 i j oM i2 i3
theorem rL {l l':List α} {a mid b:Nat} (hc:∀i j,a≤i→i<mid→mid≤j→j<b→lt (at_ l j) (at_ l i)=false) (h:Ins l l' a mid):∀i j,a≤i→i<mid→mid≤j→j<b→lt (at_ l' j) (at_ l' i)=false:=by
 intro i j i1 i2 j1 j2;obtain⟨k,k1,k2,k3⟩:=h.1 i i1 i2;rw[k3,h.2.1 j oM];exact hc k j k1 k2 j1 j2
theorem rM {l l':List α} {a mid b:Nat} (hc:∀i j,a≤i→i<mid→mid≤j→j<b→lt (at_ l j) (at_ l i)=false) (h:Ins l l' mid b):∀i j,a≤i→i<mid→mid≤j→j<b→lt (at_ l' j) (at_ l' i)=false:=by
 intro i j i1 i2 j1 j2;obtain⟨k,k1,k2,k3⟩:=h.1 j j1 j2;rw[k3,h.2.1 i oM];exact hc i k i1 i2 k1 k2
theorem sw_sp (h:Swo lt) {l:List α} {j:Nat} (hj:0<j) (hl:j<l.length) (aa:lt (at_ l j) (at_ l (j-1))=true):Sp lt false l (sw l j (j-1)):=by
 refine fU h (a:=j-1) (m:=j) (b:=j+1) oM oM oM oA19 ?_ ?_
 ·intro k;rw[Iw _ _ _ _ oM oM];unfold Ci;by_cases h1:k=j-1
  ·rw[if_pos h1,if_pos oM];congr 1;omega
  ·rw[if_neg h1];by_cases h2:k=j
   ·rw[if_pos h2,if_neg oM,if_pos oM];congr 1;omega
   ·rw[if_neg h2,if_neg oM,if_neg oM]
 ·intro i k i1 i2 k1 k2;rw[show i=j-1 by omega,show k=j by omega];exact aa
theorem sw_ins {l:List α} {i j a b:Nat} (hi:a≤i∧i<b) (hj:a≤j∧j<b) (hb:b≤l.length):Ins l (sw l i j) a b:=by
 refine⟨fun k k1 k2=>?_,fun k hk=>?_,by simp⟩
 ·rw[Iw _ _ _ _ oM oM];split
  ·exact⟨i,hi.1,hi.2,rfl⟩
  ·split
   ·exact⟨j,hj.1,hj.2,rfl⟩
   ·exact⟨k,k1,k2,rfl⟩
 ·rw[Iw _ _ _ _ oM oM,if_neg oM,if_neg oM]
def Nm (lt:α→α→Bool) (l:List α) (a i j:Nat):Prop:=(∀p q,a≤p→p<q→q≤i→p≠j→q≠j→lt (at_ l q) (at_ l p)=false)∧(∀q,j<q→q≤i→lt (at_ l q) (at_ l j)=false)
theorem Nm.start {l:List α} {a i:Nat} (h:Seg lt l a i):Nm lt l a i i:=⟨fun p q h1 h2 h3 h4 h5=>h p q h1 h2 oM,fun q h1 h2=>by omega⟩
theorem Nm.step (h:Swo lt) {l:List α} {a i j:Nat} (hd:Nm lt l a i j) (ab:a<j) (ac:j≤i) (hl:i<l.length) (aa:lt (at_ l j) (at_ l (j-1))=true):Nm lt (sw l j (j-1)) a i (j-1):=by
 obtain⟨h1,h2⟩:=hd;refine⟨fun p q p1 p2 p3 p4 p5=>?_,fun q q1 q2=>?_⟩
 ·rw[Iw _ _ _ _ oM oM,Iw _ _ _ _ oM oM,if_neg p5,if_neg p4];by_cases e1:q=j
  ·subst e1;rw[if_pos rfl,if_neg oM];exact h1 p (q-1) p1 oM oM oM oM
  ·rw[if_neg e1];by_cases e2:p=j
   ·subst e2;rw[if_pos rfl];exact h1 (p-1) q oM oM p3 oM e1
   ·rw[if_neg e2];exact h1 p q p1 p2 p3 e2 e1
 ·rw[Iw _ _ _ _ oM oM,Iw _ _ _ _ oM oM,if_neg oM,if_pos rfl];by_cases e1:q=j
  ·subst e1;rw[if_pos rfl];exact h.asym _ _ aa
  ·rw[if_neg e1];exact h2 q oM q2
theorem Nm.stop (h:Swo lt) {l:List α} {a i j:Nat} (hd:Nm lt l a i j) (hs:j=a∨lt (at_ l j) (at_ l (j-1))=false) (aa:a≤j):Seg lt l a (i+1):=by
 obtain⟨h1,h2⟩:=hd;intro p q p1 p2 p3;by_cases e1:p=j
 ·subst e1;exact h2 q p2 oM
 ·by_cases e2:q=j
  ·subst e2;rcases hs with hs|hs
   ·omega
   ·by_cases e3:p=q-1
    ·subst e3;exact hs
    ·exact h.ntrans _ _ _ hs (h1 p (q-1) p1 oM oM oM oM)
  ·exact h1 p q p1 p2 oM e1 e2
theorem seg_sd {l:List α} (h:Seg lt l 0 l.length):Sd lt false l:=by unfold Sd;rw[List.pairwise_iff_getElem];intro i j hi hj aa;have:=h i j oM aa hj;simpa[at_,List.getD_eq_getElem?_getD,hi,hj] using this
end Go.Srt
namespace Go.Proofs.YtaofijjjheiknaaGreat
open Go.SL Go.Spc Go.Tup Go.Srt
instance:Inhabited T5:=⟨⟨0,0,0,0,0⟩⟩
def fV (o:T5):List Value:=[Z9 Z8 o.c0,Z9 Z8 o.c1,Z9 Z8 o.c2,Z9 Z8 o.c3,Z9 Z8 o.c4]
def Gn (bb k n:Nat) (o:T5):List Value:=[pv bb,Z9 Z8 k,Z9 Z8 n,Z9 Z8 o.c0,Z9 Z8 o.c1,Z9 Z8 o.c2,Z9 Z8 o.c3,Z9 Z8 o.c4]
def Bo (bx:Nat) (g:Gr) (k:Nat) (o:T5) (ts:List T5) (rest:List Int):Hp:=
 [[(bx,row (Gn g.bb k ts.length o) 218)],[g.obj],[(g.br,row (Ag (Bl k ts++rest)) 174)]]
def T5.setCol (t:T5) (c:Nat) (v:Int):T5:=
 match c with
 |0=>{t with c0:=v}
 |1=>{t with c1:=v}
 |2=>{t with c2:=v}
 |3=>{t with c3:=v}
 |4=>{t with c4:=v}
 |_=>t
theorem rN (t:T5) (c:Nat) (v:Int) (h:c<5):(T5.setCol t c v).toList=t.toList.set c v:=by
 match c,h with
 |0,_=>rfl
 |1,_=>rfl
 |2,_=>rfl
 |3,_=>rfl
 |4,_=>rfl
theorem tw_set (t:T5) (k c:Nat) (v:Int) (h:c<k) (hk:k≤5):tw k (T5.setCol t c v)=(tw k t).set c (wd v):=by unfold tw;rw[rN t c v oM,List.take_set,List.map_set]
theorem fW (k c:Nat) (v:Int) (hc:c<k) (hk:k≤5):∀(ts:List T5) (i:Nat),i<ts.length→(Bl k ts).set (i*k+c) (wd v)=Bl k (ts.set i (T5.setCol (at_ ts i) c v))
 |[],_,h=>by simp at h
 |t::ts,0,_=>by
  simp only[Bl,A7,Nat.zero_mul,BU,List.set_cons_zero];rw[List.set_append_left _ _ (by rw[Kh t hk];exact hc)];show _=tw k (T5.setCol t c v)++_;rw[tw_set t k c v hc hk]
 |t::ts,i+1,h=>by have ih:=fW k c v hc hk ts i oA15;simp only[Bl,A7,List.set_cons_succ] at ih⊢;rw[List.set_append_right _ _ (by rw[Kh t hk,BH];omega),Kh t hk,show(i+1)*k+c-k=i*k+c by rw[BH];omega,ih];rfl
theorem fX (k c:Nat) (hc:c<k) (hk:k≤5):∀(ts:List T5) (i:Nat),i<ts.length→(Bl k ts)[i*k+c]? =some (wd ((at_ ts i).col c))
 |[],_,h=>by simp at h
 |t::ts,0,_=>by
  simp only[Bl,A7,Nat.zero_mul,BU];rw[BR (by rw[Kh t hk];exact hc),Vf t k c hc hk];rfl
 |t::ts,i+1,h=>by have ih:=fX k c hc hk ts i oA15;simp only[Bl,A7] at ih⊢;rw[List.getElem?_append_right (by rw[Kh t hk,BH];omega),Kh t hk,show(i+1)*k+c-k=i*k+c by rw[BH];omega,ih];rfl
theorem Tp {i n k c:Nat} (hi:i<n) (hc:c<k):i*k+c<n*k:=by have:(i+1)*k≤n*k:=BB _ hi;rw[BH] at this;omega
theorem Ze {k c:Nat} (hc:c<k) (hk:k≤5) {ts:List T5} {i:Nat} (hi:i<ts.length) {rest:List Int}:(Ag (Bl k ts++rest))[i*k+c]? =some (.int .u64 (wd ((at_ ts i).col c))):=by unfold Ag;rw[BM,BR (by rw[Nk hk];exact Tp hi hc),fX k c hc hk ts i hi];rfl
theorem fY {k c:Nat} (hc:c<k) (hk:k≤5) {ts:List T5} {i:Nat} (hi:i<ts.length) {rest:List Int} (v:Int):(Ag (Bl k ts++rest)).set (i*k+c) (.int .u64 (wd v))=Ag (Bl k (ts.set i (T5.setCol (at_ ts i) c v))++rest):=by rw[Th,List.set_append_left _ _ (by rw[Nk hk];exact Tp hi hc),fW k c v hc hk ts i hi]
theorem Zf (bx:Nat) (g:Gr) (k:Nat) (o:T5) (ts:List T5) (rest:List Int) (h1:1≤k) (h2:k≤5) (hg:g.n≤1000000000) (ao:ts.length*k≤g.n) (ai:∀t∈ts,okT k t) (i:Nat) (hi:i<ts.length):CtQ AC 233 [pv bx,Z9 Z8 i] (Bo bx g k o ts rest) (tv (at_ ts i)):=by
 have hm:at_ ts i∈ts:=by unfold at_;rw[AP,AG hi];exact B6 hi
 have aa:=ai _ hm;have ab:∀c,c<k→AL .i64 (wd ((at_ ts i).col c))=(at_ ts i).col c:=fun c hc=>eL (fH aa c oM);have aj:=fF (at_ ts i);have ak:=fG (at_ ts i);have ac:=fD (at_ ts i);have ad:=fE (at_ ts i) k h2 aa;have aq:i*k≤ts.length*k:=BB _ oM;have am:AL .i64 ((i:Int)*(k:Int))=((i*k:Nat):Int):=by rw[←Int.natCast_mul];exact Ah oM
 have ag:∀c,c<k→(Ag (Bl k ts++rest))[i*k+c]? =some (.int .u64 (wd ((at_ ts i).col c))):=fun c hc=>Ze hc h2 hi;have ah:∀c,c<k→i*k+c<ts.length*k:=fun c hc=>Tp hi hc;generalize hcells:Ag (Bl k ts++rest)=cells at*;generalize at_ ts i=t at*
 generalize hn:ts.length=n at*;unfold Bo Gn Gr.obj;rw[hcells,hn];generalize an:i*k=ik at*;refine cG func233 fun _=>?_;repeat(refine sv ?_;intros)
 rename_i b4 b5;refine G.loop (X:=Nat) (fun c=>c≤k) (fun c=>[(11,Z9 Z8 c),(10,Z9 Z8 k),(0,pv bx),(1,Z9 Z8 i),(5,.pointer (some ⟨b5,0,none⟩)),(4,.pointer (some ⟨b4,0,none⟩))])
  (fun c=>[[(b4,row (Hu t 0) 33)],[(b5,row (Hu t c) 33)],[(bx,row [pv g.bb,Z9 Z8 k,Z9 Z8 n,Z9 Z8 o.c0,Z9 Z8 o.c1,Z9 Z8 o.c2,Z9 Z8 o.c3,Z9 Z8 o.c4] 218)],[(g.bb,row [.slice (some ⟨g.br,0,none⟩) g.n g.n] 177)],[(g.br,row cells 174)]])
  (fun c=>k-c) 0 oM (body:=?_)
 intro c hc;by_cases ae:c<k
 ·have au:=ag c ae;have av:=ab c ae;have aw:=ac c oM;have ax:=ak c oM;have ay:=ah c ae;have az:((ik:Int)+(c:Int)).toNat=ik+c:=oM;repeat(refine sv ?_;intros)
  exact Dn.round (c+1) oM oM
 ·have al:k=c:=oM;subst al;rw[ad,aj];unfold Ak;repeat(refine sv ?_;intros)
  (refine dP [[(bx,row [pv g.bb,Z9 Z8 k,Z9 Z8 n,Z9 Z8 o.c0,Z9 Z8 o.c1,Z9 Z8 o.c2,Z9 Z8 o.c3,Z9 Z8 o.c4] 218)],[(g.bb,row [.slice (some ⟨g.br,0,none⟩) g.n g.n] 177)],[(g.br,row cells 174)]] ?_;exact⟨rfl,rfl⟩)
theorem rO (bx:Nat) (g:Gr) (k:Nat) (o:T5) (ts:List T5) (rest:List Int):CtQ AC 271 [pv bx] (Bo bx g k o ts rest) (Z9 Z8 ts.length):=by
 unfold Bo Gn;refine cG func271 fun _=>?_;repeat(refine sA ?_;intros)
 (refine dP [[(bx,row [pv g.bb,Z9 Z8 k,Z9 Z8 ts.length,Z9 Z8 o.c0,Z9 Z8 o.c1,Z9 Z8 o.c2,Z9 Z8 o.c3,Z9 Z8 o.c4] 218)],[g.obj],[(g.br,row (Ag (Bl k ts++rest)) 174)]] ?_;exact⟨rfl,rfl⟩)
def ltO (o:T5) (a b:T5):Bool:=decide (Cz o a b<0)
theorem Ee (o:T5):Swo (ltO o) where
 asym:=fun a b h=>by simp only[ltO,decide_eq_true_eq,decide_eq_false_iff_not] at*;have:=Mm o a b;omega
 ntrans:=fun a b c h1 h2=>by simp only[ltO,decide_eq_false_iff_not] at*;have e1:=Mm o a b;have e2:=Mm o b c;have e3:=Mm o a c;have:=Ve o c b a oM oM;omega
theorem rP (bx:Nat) (g:Gr) (k:Nat) (o:T5) (ts:List T5) (rest:List Int) (h1:1≤k) (h2:k≤5) (hg:g.n≤1000000000) (aa:ts.length*k≤g.n) (ab:∀t∈ts,okT k t) (i j:Nat) (hi:i<ts.length) (hj:j<ts.length):CtQ AC 272 [pv bx,Z9 Z8 i,Z9 Z8 j] (Bo bx g k o ts rest) (.bool (ltO o (at_ ts i) (at_ ts j))):=by
 have hA:=Zf bx g k o ts rest h1 h2 hg aa ab i hi;have hB:=Zf bx g k o ts rest h1 h2 hg aa ab j hj;have hC:CtQ AC 244 [tv (at_ ts i),tv (at_ ts j),.agg (fV o).toArray] [] (Z9 Z8 (Cz o (at_ ts i) (at_ ts j))):=Ys _ _ _ _ _ _ _ _ _ _ _ _ _ _ _;generalize tv (at_ ts i)=va at*;generalize tv (at_ ts j)=vb at*;have ac:ltO o (at_ ts i) (at_ ts j)=dec (Cz o (at_ ts i) (at_ ts j)<0):=by rw[Gc];rfl
 rw[ac];generalize Cz o (at_ ts i) (at_ ts j)=c at*;unfold Bo Gn at*;unfold fV at hC;refine cG func272 fun _=>?_;repeat(refine sA ?_;intros)
 (refine dP [[(bx,row [pv g.bb,Z9 Z8 k,Z9 Z8 ts.length,Z9 Z8 o.c0,Z9 Z8 o.c1,Z9 Z8 o.c2,Z9 Z8 o.c3,Z9 Z8 o.c4] 218)],[g.obj],[(g.br,row (Ag (Bl k ts++rest)) 174)]] ?_;exact⟨rfl,rfl⟩)
def mix (c:Nat) (a b:T5):T5:=⟨if 0<c then a.c0 else b.c0,if 1<c then a.c1 else b.c1,if 2<c then a.c2 else b.c2,if 3<c then a.c3 else b.c3,if 4<c then a.c4 else b.c4⟩
theorem fZ (a b:T5):mix 0 a b=b:=rfl
theorem gA (c:Nat) (a b:T5) (h:c<5):T5.setCol (mix c a b) c (a.col c)=mix (c+1) a b:=by
 match c,h with
 |0,_=>rfl
 |1,_=>rfl
 |2,_=>rfl
 |3,_=>rfl
 |4,_=>rfl
theorem gB (c:Nat) (a b:T5) (h:c<5):(mix c a b).col c=b.col c:=by
 match c,h with
 |0,_=>rfl
 |1,_=>rfl
 |2,_=>rfl
 |3,_=>rfl
 |4,_=>rfl
theorem gC (k:Nat) (a b:T5) (h:k≤5) (ha:∀i,k≤i→a.col i=0) (hb:∀i,k≤i→b.col i=0):mix k a b=a:=by
 have a0:=ha 0;have a1:=ha 1;have a2:=ha 2;have a3:=ha 3;have a4:=ha 4;have b0:=hb 0;have b1:=hb 1;have b2:=hb 2;have b3:=hb 3;have b4:=hb 4;obtain⟨x0,x1,x2,x3,x4⟩:=a;obtain⟨y0,y1,y2,y3,y4⟩:=b;simp only[T5.col] at*
 match k,h with
 |0,_=>simp_all [mix]
 |1,_=>simp_all [mix]
 |2,_=>simp_all [mix]
 |3,_=>simp_all [mix]
 |4,_=>simp_all [mix]
 |5,_=>simp[mix]
theorem Rt (ts:List T5) (i j:Nat) (t:T5) (hi:i<ts.length):at_ (ts.set i t) j=if j=i then t else at_ ts j:=by
 unfold at_
 simp only[AP,List.getElem?_set];by_cases h:i=j
 ·subst h;simp[hi]
 ·rw[if_neg h,if_neg (fun e=>h e.symm)]
def swc (ts:List T5) (i j c:Nat):List T5:=(ts.set i (mix c (at_ ts j) (at_ ts i))).set j (mix c (at_ ts i) (at_ ts j))
theorem rQ (bx:Nat) (g:Gr) (k:Nat) (o:T5) (ts:List T5) (rest:List Int) (h1:1≤k) (h2:k≤5) (hg:g.n≤1000000000) (ay:ts.length*k≤g.n) (ad:∀t∈ts,okT k t) (i j:Nat) (hi:i<ts.length) (hj:j<ts.length) (ah:i≠j):Ct AC 273 [pv bx,Z9 Z8 i,Z9 Z8 j] (Bo bx g k o ts rest) fun v H'=>v= .tuple #[]∧H'=Bo bx g k o (sw ts i j) rest:=by
 have az:i*k≤ts.length*k:=BB _ oM;have a0:j*k≤ts.length*k:=BB _ oM;have a1:AL .i64 ((i:Int)*(k:Int))=((i*k:Nat):Int):=by rw[←Int.natCast_mul];exact Ah oM
 have a2:AL .i64 ((j:Int)*(k:Int))=((j*k:Nat):Int):=by rw[←Int.natCast_mul];exact Ah oM
 have ab:∀q,q<ts.length→at_ ts q∈ts:=fun q hq=>by unfold at_;rw[AP,AG hq];exact B6 hq
 have ai:swc ts i j k=sw ts i j:=by unfold swc sw;rw[gC k _ _ h2 (ad _ (ab j hj)).2 (ad _ (ab i hi)).2,gC k _ _ h2 (ad _ (ab i hi)).2 (ad _ (ab j hj)).2]
 have aj:swc ts i j 0=ts:=by
  unfold swc;rw[fZ,fZ];apply fR
  ·simp
  ·intro q;rw[Rt _ _ _ _ (by simpa using hj),Rt _ _ _ _ hi];split
   ·rename_i e;rw[e]
   ·split
    ·rename_i e;rw[e]
    ·rfl
 have aa:∀c,(swc ts i j c).length=ts.length:=fun c=>by simp[swc]
 have ae:∀c,at_ (swc ts i j c) i=mix c (at_ ts j) (at_ ts i):=fun c=>by unfold swc;rw[Rt _ _ _ _ (by simpa using hj),if_neg ah,Rt _ _ _ _ hi,if_pos rfl]
 have ag:∀c,at_ (swc ts i j c) j=mix c (at_ ts i) (at_ ts j):=fun c=>by unfold swc;rw[Rt _ _ _ _ (by simpa using hj),if_pos rfl]
 have an:∀c,c<k→(Ag (Bl k (swc ts i j c)++rest))[i*k+c]? =some (.int .u64 (wd ((at_ ts i).col c))):=fun c hc=>by rw[Ze hc h2 (by rw[aa];exact hi),ae,gB _ _ _ oM]
 have ao:∀c,c<k→(Ag (Bl k (swc ts i j c)++rest))[j*k+c]? =some (.int .u64 (wd ((at_ ts j).col c))):=fun c hc=>by rw[Ze hc h2 (by rw[aa];exact hj),ag,gB _ _ _ oM]
 obtain⟨M,hM⟩:∃M:Nat→List Value,∀c,c<k→(Ag (Bl k (swc ts i j c)++rest)).set (i*k+c) (.int .u64 (wd ((at_ ts j).col c)))=M c∧(M c).set (j*k+c) (.int .u64 (wd ((at_ ts i).col c)))=Ag (Bl k (swc ts i j (c+1))++rest):=by
  refine⟨fun c=>(Ag (Bl k (swc ts i j c)++rest)).set (i*k+c) (.int .u64 (wd ((at_ ts j).col c))),fun c hc=>⟨rfl,?_⟩⟩;dsimp only;rw[fY hc h2 (by rw[aa];exact hi),fY hc h2 (by simp[aa];exact hj)];congr 2;congr 1;rw[Rt _ _ _ _ (by rw[aa];exact hi),if_neg (fun e=>ah e.symm),ae,ag,gA _ _ _ oM,gA _ _ _ oM];have e:∀(l:List T5) (A B A' B':T5),(((l.set i A).set j B).set i A').set j B'=(l.set i A').set j B':=fun l A B A' B'=>by rw[List.set_comm (l:=l.set i A) B A' (fun e=>ah e.symm),List.set_set,List.set_set]
  exact e ts _ _ _ _
 have ak:∀c,(Ag (Bl k (swc ts i j c)++rest)).length=ts.length*k+rest.length:=fun c=>by rw[Ni,AH,Nk h2,aa]
 have aq:∀c,c<k→(M c).length=ts.length*k+rest.length:=fun c hc=>by rw[←(hM c hc).1,List.length_set,ak]
 have al:∀c,c<k→i*k+c<ts.length*k:=fun c hc=>Tp hi hc;have am:∀c,c<k→j*k+c<ts.length*k:=fun c hc=>Tp hj hc;have au:Bo bx g k o ts rest=Bo bx g k o (swc ts i j 0) rest:=by rw[aj]
 have av:Bo bx g k o (sw ts i j) rest=Bo bx g k o (swc ts i j k) rest:=by rw[ai]
 rw[au,av];unfold Bo Gn Gr.obj;simp only[aa];generalize hC:(fun c=>Ag (Bl k (swc ts i j c)++rest))=C at*;have aw:∀c,Ag (Bl k (swc ts i j c)++rest)=C c:=fun c=>by rw[←hC]
 simp only[aw] at*;generalize i*k=ik at*;generalize j*k=jk at*;generalize hn:ts.length=n at*;refine cG func273 fun _=>?_;repeat(refine sv ?_;intros)
 refine G.loop (X:=Nat) (fun c=>c≤k) (fun c=>[(13,Z9 Z8 c),(12,Z9 Z8 k),(0,pv bx),(1,Z9 Z8 i),(2,Z9 Z8 j)])
  (fun c=>[[(bx,row [pv g.bb,Z9 Z8 k,Z9 Z8 n,Z9 Z8 o.c0,Z9 Z8 o.c1,Z9 Z8 o.c2,Z9 Z8 o.c3,Z9 Z8 o.c4] 218)],[(g.bb,row [.slice (some ⟨g.br,0,none⟩) g.n g.n] 177)],[(g.br,row (C c) 174)]])
  (fun c=>k-c) 0 oM (body:=?_)
 intro c hc;by_cases ac:c<k
 ·have h3:=an c ac;have h4:=ao c ac;obtain⟨h5,h6⟩:=hM c ac;have h7:=aq c ac;have h8:=ak c;have h9:=al c ac;have a3:=am c ac;have e1:((ik:Int)+(c:Int)).toNat=ik+c:=oM;have e2:((jk:Int)+(c:Int)).toNat=jk+c:=oM;repeat(refine sv ?_;intros)
  exact Dn.round (c+1) oM oM
 ·have ax:k=c:=oM;subst ax;repeat(refine sv ?_;intros)
  (refine dE [[(bx,row [pv g.bb,Z9 Z8 k,Z9 Z8 n,Z9 Z8 o.c0,Z9 Z8 o.c1,Z9 Z8 o.c2,Z9 Z8 o.c3,Z9 Z8 o.c4] 218)],[(g.bb,row [.slice (some ⟨g.br,0,none⟩) g.n g.n] 177)],[(g.br,row (C k) 174)]] ?_;exact⟨rfl,rfl⟩)
instance:Meth AC 216 "Less" 272:=Meth.of (by kernel_rfl)
instance:Meth AC 216 "Swap" 273:=Meth.of (by kernel_rfl)
instance:Meth AC 216 "Len" 271:=Meth.of (by kernel_rfl)
abbrev Fw (bx:Nat):Value:= .iface 216 (pv bx)
structure Dk (g:Gr) (k n:Nat) (ts:List T5):Prop where
 k1:1≤k
 k5:k≤5
 gn:g.n≤1000000000
 fit:n*k≤g.n
 len:ts.length=n
 ok:∀t∈ts,okT k t
theorem sw_mem {ts:List T5} {i j:Nat} (hi:i<ts.length) (hj:j<ts.length) {t:T5} (h:t∈sw ts i j):t∈ts:=by
 have hm:∀q,q<ts.length→at_ ts q∈ts:=fun q hq=>by unfold at_;rw[AP,AG hq];exact B6 hq
 unfold sw at h;rcases List.mem_or_eq_of_mem_set h with h|h
 ·rcases List.mem_or_eq_of_mem_set h with h|h
  ·exact h
  ·rw[h];exact hm j hj
 ·rw[h];exact hm i hi
theorem Dk.sw {g:Gr} {k n:Nat} {ts:List T5} (h:Dk g k n ts) {i j:Nat} (hi:i<n) (hj:j<n):Dk g k n (sw ts i j):=
 {h with len:=(by rw[Zc];exact h.len),ok:=fun t ht=>h.ok t (sw_mem (by rw[h.len];exact hi) (by rw[h.len];exact hj) ht)}
theorem Dk.n_le {g:Gr} {k n:Nat} {ts:List T5} (h:Dk g k n ts):n≤1000000000:=A5 (Nat.le_mul_of_pos_right n h.k1) (A5 h.fit h.gn)
theorem Vn {g:Gr} {k n:Nat} {ts:List T5} (h:Dk g k n ts) (bx:Nat) (o:T5) (rest:List Int) (i j:Nat) (hi:i<n) (hj:j<n):CtQ AC 272 [pv bx,Z9 Z8 i,Z9 Z8 j] (Bo bx g k o ts rest) (.bool (ltO o (at_ ts i) (at_ ts j))):=
 rP bx g k o ts rest h.k1 h.k5 h.gn (by rw[h.len];exact h.fit) h.ok i j (by rw[h.len];exact hi) (by rw[h.len];exact hj)
theorem Vo {g:Gr} {k n:Nat} {ts:List T5} (h:Dk g k n ts) (bx:Nat) (o:T5) (rest:List Int) (i j:Nat) (hi:i<n) (hj:j<n) (aa:i≠j):Ct AC 273 [pv bx,Z9 Z8 i,Z9 Z8 j] (Bo bx g k o ts rest) fun v H'=>v= .tuple #[]∧H'=Bo bx g k o (sw ts i j) rest:=
 rQ bx g k o ts rest h.k1 h.k5 h.gn (by rw[h.len];exact h.fit) h.ok i j (by rw[h.len];exact hi) (by rw[h.len];exact hj) aa
theorem Seg.mono {α:Type} [Inhabited α] {lt:α→α→Bool} {l:List α} {a b c d:Nat} (h:Seg lt l a b) (h1:a≤c) (h2:d≤b):Seg lt l c d:=fun i j i1 i2 i3=>h i j oM i2 oM
section
variable (bx:Nat) (g:Gr) (k n:Nat) (o:T5) (rest:List Int)
theorem Zg (ts:List T5) (h:Dk g k n ts) (a b m:Nat) (ac:a+m≤b) (hb:b+m≤n):Ct AC 253 [Fw bx,Z9 Z8 a,Z9 Z8 b,Z9 Z8 m] (Bo bx g k o ts rest) fun v H'=> v= .tuple #[]∧∃ts',H'=Bo bx g k o ts' rest∧Dk g k n ts'∧∀q,at_ ts' q=Kw ts a b m q:=by
 have ad:=h.n_le;refine cG func253 fun _=>?_;repeat(refine sA ?_;intros)
 refine G.loop (X:=Nat×List T5) (fun x=>x.1≤m∧Dk g k n x.2∧∀q,at_ x.2 q=Kw ts a b x.1 q) (fun x=>[(8,Z9 Z8 x.1),(0,Fw bx),(1,Z9 Z8 a),(2,Z9 Z8 b),(3,Z9 Z8 m)])
  (fun x=>Bo bx g k o x.2 rest) (fun x=>m-x.1) (0,ts) ⟨AU _,h,fun q=>by unfold Kw;rw[if_neg oM,if_neg oM]⟩ (body:=?_)
 rintro⟨i,us⟩ ⟨hi,aa,hq⟩;dsimp only at hi aa hq⊢;by_cases ab:i<m
 ·have hS:=Vo aa bx o rest (a+i) (b+i) oM oM oM;have e1:AL .i64 ((a:Int)+(i:Int))=((a+i:Nat):Int):=by rw[←DE];exact Ah oM
  have e2:AL .i64 ((b:Int)+(i:Int))=((b+i:Nat):Int):=by rw[←DE];exact Ah oM
  repeat(refine sA ?_;intros)
  refine R.invoke (hct:=hS) (h:=?_);rintro _ _ ⟨rfl,rfl⟩;repeat(refine sA ?_;intros)
  exact Dn.round (i+1,sw us (a+i) (b+i)) ⟨ab,aa.sw oM oM,rG ac (by rw[h.len];exact hb) (by rw[aa.len,h.len]) hq ab⟩ oD
 ·obtain rfl:i=m:=by omega
  repeat(refine sA ?_;intros)
  (refine dE (Bo bx g k o us rest) ?_;exact⟨rfl,us,rfl,aa,hq⟩)
theorem rR (ts:List T5) (h:Dk g k n ts) (a m b:Nat) (am:a<m) (al:m<b) (hb:b≤n):Ct AC 251 [Fw bx,Z9 Z8 a,Z9 Z8 m,Z9 Z8 b] (Bo bx g k o ts rest) fun v H'=> v= .tuple #[]∧∃ts',H'=Bo bx g k o ts' rest∧Dk g k n ts'∧∀q,at_ ts' q=Ci ts a m b q:=by
 have an:=h.n_le;have e1:AL .i64 ((m:Int)-(a:Int))=((m-a:Nat):Int):=by rw[Ah oM];omega
 have e2:AL .i64 ((b:Int)-(m:Int))=((b-m:Nat):Int):=by rw[Ah oM];omega
 refine cG func251 fun _=>?_;repeat(refine sA ?_;intros)
 refine G.loop (X:=Nat×Nat×List T5) (fun x=>0<x.1∧x.1≤m∧0<x.2.1∧m+x.2.1≤n∧Dk g k n x.2.2∧∀q,Ci x.2.2 (m-x.1) m (m+x.2.1) q=Ci ts a m b q)
  (fun x=>[(9,Z9 Z8 x.2.1),(8,Z9 Z8 x.1),(0,Fw bx),(2,Z9 Z8 m)])
  (fun x=>Bo bx g k o x.2.2 rest) (fun x=>x.1+x.2.1) (m-a,b-m,ts) ⟨oD,oD,oD,oD,h,fun q=>by dsimp only;rw[show m-(m-a)=a by omega,show m+(b-m)=b by omega]⟩ (body:=?_)
 rintro⟨i,j,us⟩ ⟨ag,ad,ah,ai,ae,hq⟩;dsimp only at ag ad ah ai ae hq⊢;have e3:AL .i64 ((m:Int)-(i:Int))=((m-i:Nat):Int):=by rw[Ah oM];omega
 by_cases aj:i=j
 ·subst aj;have hS:=Zg bx g k n o rest us ae (m-i) m i oM oM;repeat(refine sA ?_;intros)
  refine cL hS ?_;rintro _ _ ⟨rfl,ab,rfl,aa,ac⟩;repeat(refine sA ?_;intros)
  (refine dE (Bo bx g k o ab rest) ?_;exact⟨rfl,ab,rfl,aa,fun q=>by rw[←hq];exact rJ ad ac q⟩)
 ·by_cases ak:j<i
  ·have hS:=Zg bx g k n o rest us ae (m-i) m j oM oM;have e4:AL .i64 ((i:Int)-(j:Int))=((i-j:Nat):Int):=by rw[Ah oM];omega
   repeat(refine sA ?_;intros)
   refine cL hS ?_;rintro _ _ ⟨rfl,ab,rfl,aa,ac⟩;repeat(refine sA ?_;intros)
   exact Dn.round (i-j,j,ab) ⟨oM,oM,oM,oM,aa,fun q=>by rw[←hq];exact rH ad ak ac q⟩ oD
  ·have hS:=Zg bx g k n o rest us ae (m-i) (m+j-i) i oM oM;have e4:AL .i64 ((j:Int)-(i:Int))=((j-i:Nat):Int):=by rw[Ah oM];omega
   have e5:AL .i64 ((m:Int)+(j:Int))=((m+j:Nat):Int):=by rw[←DE];exact Ah oM
   have e6:AL .i64 (((m+j:Nat):Int)-(i:Int))=((m+j-i:Nat):Int):=by rw[Ah oM];omega
   repeat(refine sA ?_;intros)
   refine cL hS ?_;rintro _ _ ⟨rfl,ab,rfl,aa,ac⟩;repeat(refine sA ?_;intros)
   exact Dn.round (i,j-i,ab) ⟨oD,oD,oD,oD,aa,fun q=>by rw[←hq];exact rI ad oM ac q⟩ oD
def Srt (o:T5) (ts ts':List T5) (a b:Nat):Prop:=Go.Srt.Sp (ltO o) false ts ts'∧Ins ts ts' a b
theorem gF (ts:List T5) (h:Dk g k n ts) (a b:Nat) (aq:a≤b) (hb:b≤n):Ct AC 248 [Fw bx,Z9 Z8 a,Z9 Z8 b] (Bo bx g k o ts rest) fun v H'=> v= .tuple #[]∧∃ts',H'=Bo bx g k o ts' rest∧Dk g k n ts'∧Srt o ts ts' a b∧Seg (ltO o) ts' a b:=by
 have au:=h.n_le;have ah:=Ee o;refine cG func248 fun _=>?_;repeat(first|(refine st ?_;intros)|refine cq hL ?_)
 refine G.loop (X:=Nat×List T5) (fun x=>a<x.1∧(x.1≤b∨x.1=a+1)∧Dk g k n x.2∧Srt o ts x.2 a b∧Seg (ltO o) x.2 a x.1)
  (fun x=>[(6,Z9 Z8 x.1),(0,Fw bx),(1,Z9 Z8 a),(2,Z9 Z8 b)])
  (fun x=>Bo bx g k o x.2 rest) (fun x=>b+1-x.1) (a+1,ts) ⟨Nat.lt_succ_self _,.inr rfl,h,⟨Go.Srt.Sp.refl _ _,Ins.refl _ _ _⟩,fun i j i1 i2 i3=>by dsimp only at i3;omega⟩ (body:=?_)
 rintro⟨i,us⟩ ⟨am,an,ai,⟨aj,ae⟩,ag⟩;dsimp only at am an ai aj ae ag⊢;by_cases hi:i<b
 ·repeat(first|(refine st ?_;intros)|refine cq hL ?_)
  refine G.loop (X:=Nat×List T5) (fun x=>a≤x.1∧x.1≤i∧Dk g k n x.2∧Srt o ts x.2 a b∧Nm (ltO o) x.2 a i x.1)
   (fun x=>[(7,Z9 Z8 x.1),(6,Z9 Z8 i),(0,Fw bx),(1,Z9 Z8 a),(2,Z9 Z8 b)])
   (fun x=>Bo bx g k o x.2 rest) (fun x=>x.1) (i,us) ⟨oD,AI _,ai,⟨aj,ae⟩,Nm.start ag⟩ (body:=?_)
  rintro⟨j,vs⟩ ⟨ak,al,aa,⟨ad,ab⟩,ac⟩;dsimp only at ak al aa ad ab ac⊢;by_cases ao:a<j
  ·have hL:=Vn aa bx o rest j (j-1) oM oM;have e1:AL .i64 ((j:Int)-1)=((j-1:Nat):Int):=by rw[Ah oM];omega
   cases hlt:ltO o (at_ vs j) (at_ vs (j-1)) with
   |true=>
    rw[hlt] at hL;have hS:=Vo aa bx o rest j (j-1) oM oM oM;repeat(first|(refine st ?_;intros)|refine cq hL ?_)
    refine R.invoke (hct:=hS) (h:=?_);rintro _ _ ⟨rfl,rfl⟩;try dsimp only[AA,AB]
    repeat(first|(refine st ?_;intros)|refine cq hL ?_)
    refine Dn.round (j-1,sw vs j (j-1)) ⟨oM,oM,aa.sw oM oM,⟨ad.trans (sw_sp ah oM (by rw[aa.len];omega) hlt),ab.trans (sw_ins oM oM (by rw[aa.len];omega))⟩,ac.step ah ao al (by rw[aa.len];omega) hlt⟩ oD
   |false=>
    rw[hlt] at hL;repeat(first|(refine st ?_;intros)|refine cq hL ?_)
    exact Dn.round (i+1,vs) ⟨oM,.inl oM,aa,⟨ad,ab⟩,ac.stop ah (.inr hlt) ak⟩ oD
  ·repeat(first|(refine st ?_;intros)|refine cq hL ?_)
   exact Dn.round (i+1,vs) ⟨oM,.inl oM,aa,⟨ad,ab⟩,ac.stop ah (.inl oM) ak⟩ oD
 ·repeat(first|(refine st ?_;intros)|refine cq hL ?_)
  (refine dE (Bo bx g k o us rest) ?_;exact⟨rfl,us,rfl,ai,⟨aj,ae⟩,Seg.mono ag (AI _) oM⟩)
end
end Go.Proofs.YtaofijjjheiknaaGreat
namespace Go.Srt
variable {α:Type} {lt:α→α→Bool} [Inhabited α]
theorem rot_up {l c:List α} {a k:Nat} (hk:a≤k) (hl:k+1<c.length) (h:∀q,at_ c q=Ci l a (a+1) (k+1) q):∀q,at_ (sw c k (k+1)) q=Ci l a (a+1) (k+2) q:=by
 intro q;rw[Iw _ _ _ _ oM oM];simp only[h,Ci]
 (repeat' split)<;>first|rfl|(exfalso;omega)|(congr 1;omega)
theorem rS {l c:List α} {m k:Nat} (hk:0<k) (aa:k≤m) (hl:m<c.length) (h:∀q,at_ c q=Ci l k m (m+1) q):∀q,at_ (sw c k (k-1)) q=Ci l (k-1) m (m+1) q:=by
 intro q;rw[Iw _ _ _ _ oM oM];simp only[h,Ci]
 (repeat' split)<;>first|rfl|(exfalso;omega)|(congr 1;omega)
theorem ins1 (h:Swo lt) {l l1:List α} {a m b i:Nat} (hm:m=a+1) (h1:m≤i) (h2:i≤b) (s2:Seg lt l m b) (f1:i=m∨lt (at_ l (i-1)) (at_ l a)=true) (f2:i=b∨lt (at_ l i) (at_ l a)=false) (hr:∀q,at_ l1 q=Ci l a m i q):(∀x y,a≤x→x<m→m≤y→y<i→lt (at_ l y) (at_ l x)=true)∧Seg lt l1 a b:=by
 subst hm;have hC:∀y,a+1≤y→y<i→lt (at_ l y) (at_ l a)=true:=by
  intro y y1 y2;rcases f1 with f1|f1
  ·omega
  ·cases hlt:lt (at_ l y) (at_ l a) with
   |true=>rfl
   |false=>
    exfalso;have g1:lt (at_ l (i-1)) (at_ l y)=false:=by
     by_cases hy:y=i-1
     ·subst hy;exact h.irr _
     ·exact s2 _ _ y1 oM oM
    have:=h.ntrans _ _ _ g1 hlt;rw[f1] at this;cases this
 have hD:∀y,i≤y→y<b→lt (at_ l y) (at_ l a)=false:=by
  intro y y1 y2;rcases f2 with f2|f2
  ·omega
  ·by_cases hy:y=i
   ·subst hy;exact f2
   ·exact h.ntrans _ _ _ (s2 _ _ h1 oM y2) f2
 refine⟨fun x y x1 x2 y1 y2=>by rw[show x=a by omega];exact hC y y1 y2,?_⟩;intro p q p1 p2 p3;rw[hr,hr];unfold Ci;by_cases c1:q<i-1
 ·rw[if_pos oM,if_pos oM];exact s2 _ _ oM oM oM
 ·by_cases c2:q=i-1
  ·rw[if_neg oM,if_pos oM,if_pos oM];rw[show q-(i-(a+1))=a by omega];exact h.asym _ _ (hC _ oM oM)
  ·rw[if_neg oM,if_neg oM];by_cases c3:p<i-1
   ·rw[if_pos oM];exact s2 _ _ oM oM oM
   ·by_cases c4:p=i-1
    ·rw[if_neg oM,if_pos oM,show p-(i-(a+1))=a by omega];exact hD _ oM p3
    ·rw[if_neg oM,if_neg oM];exact s2 _ _ oM oM oM
theorem ins2 (h:Swo lt) {l l1:List α} {a m b i:Nat} (hb:b=m+1) (h1:a≤i) (h2:i≤m) (s1:Seg lt l a m) (f1:i=a∨lt (at_ l m) (at_ l (i-1))=false) (f2:i=m∨lt (at_ l m) (at_ l i)=true) (hr:∀q,at_ l1 q=Ci l i m b q):(∀x y,i≤x→x<m→m≤y→y<b→lt (at_ l y) (at_ l x)=true)∧Seg lt l1 a b:=by
 subst hb;have hC:∀x,i≤x→x<m→lt (at_ l m) (at_ l x)=true:=by
  intro x x1 x2;rcases f2 with f2|f2
  ·omega
  ·cases hlt:lt (at_ l m) (at_ l x) with
   |true=>rfl
   |false=>
    exfalso;have g1:lt (at_ l x) (at_ l i)=false:=by
     by_cases hy:x=i
     ·subst hy;exact h.irr _
     ·exact s1 _ _ h1 oM x2
    have:=h.ntrans _ _ _ hlt g1;rw[f2] at this;cases this
 have hD:∀x,a≤x→x<i→lt (at_ l m) (at_ l x)=false:=by
  intro x x1 x2;rcases f1 with f1|f1
  ·omega
  ·by_cases hy:x=i-1
   ·subst hy;exact f1
   ·exact h.ntrans _ _ _ f1 (s1 _ _ x1 oM oM)
 refine⟨fun x y x1 x2 y1 y2=>by rw[show y=m by omega];exact hC x x1 x2,?_⟩;intro p q p1 p2 p3;rw[hr,hr];unfold Ci;by_cases c1:q<i
 ·rw[if_neg oM,if_neg oM,if_neg oM,if_neg oM];exact s1 _ _ p1 p2 oM
 ·by_cases c2:q=i
  ·rw[if_pos oM,if_neg oM,if_neg oM,show q+(m-i)=m by omega];exact hD _ p1 oM
  ·rw[if_neg oM,if_pos oM];by_cases c3:p<i
   ·rw[if_neg oM,if_neg oM];exact s1 _ _ p1 oM oM
   ·by_cases c4:p=i
    ·rw[if_pos oM,show p+(m-i)=m by omega];exact h.asym _ _ (hC _ oM oM)
    ·rw[if_neg oM,if_pos oM];exact s1 _ _ oM oM oM
end Go.Srt
