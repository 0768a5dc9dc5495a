/-
  Parts of the proof, put together (14). No condition.
-/
import Derived.Test.YtaofijjjheiknaaGreatQ13
set_option linter.unusedVariables false
set_option linter.unusedSimpArgs false
set_option linter.unnecessarySimpa false
set_option maxHeartbeats 4000000
open Go.IntKind renaming wrap→AL
open Go.Proofs.Tryz renaming prog→AC,results197→DT
open List renaming cons_append→AA,nil_append→AB,mem_cons_self→AE,mem_cons_of_mem→AF,length_append→AH,length_cons→AJ,mem_map→AN,length_nil→AO,length_map→AR,mem_of_getElem?→AY,map_cons→AZ,pairwise_map→BA,map_nil→CG,length_singleton→CY
open List.Perm renaming swap→CS
open Nat renaming reduceAdd→AD,le_refl→AI,zero_le→AU,le_trans→A5,mul_le_mul_right→BB
open Go.Proofs.Tryz
open Go.Value renaming int→Z9
open Go.IntKind renaming i64→Z8
namespace Go.Proofs.YtaofijjjheiknaaGreat
open Go.SL Go.Spc Go.Tup Go.Srt
def Eo (bn n:Nat):Aj Unit:=⟨fun _=>[[(bn,row [Z9 Z8 n] 3)]],fun _ t=>if Fq n t then[⟨t.c0,0,0,0,0⟩] else[],fun _ _=>(),fun _ t=>if Fq n t then none else some 3⟩
theorem chkC_C (bn n:Nat) (k:Unit):(Eo bn n).C k=[[(bn,row [Z9 Z8 n] 3)]]:=rfl
theorem yU (bn n:Nat):Bw (Eo bn n) 1 (fun _ t=>okT 3 t) 183 [] [pv bn]:=by
 rintro bx Pst Br bnd hP ps X ⟨⟩ t hX hk hb;have aa:tv t= .agg #[Z9 Z8 t.c0,Z9 Z8 t.c1,Z9 Z8 t.c2,Z9 Z8 t.c3,Z9 Z8 t.c4]:=rfl;rw[aa];unfold Im;simp only[AB,AA];show Ct _ _ _ [X,[(bn,row [Z9 Z8 n] 3)]] _;have ti:=Dp hk;by_cases h:Fq n t
 ·simp only[Eo,if_pos h,CY] at hb;have ab:=hP ps X ⟨t.c0,0,0,0,0⟩ hX (Ov ti.1) hb;unfold Fq at h;obtain⟨h0,h1,h2,h3,h4⟩:=h;refine cG func183 fun _=>?_;repeat(refine sA ?_;intros)
  refine R.callV (hct:=by exact ab) (h:=?_);rintro _ _ ⟨X',rfl,⟨rfl,ac⟩|⟨rfl,hB⟩⟩
  ·repeat(refine sA ?_;intros)
   (refine dP [X',[(bn,row [Z9 Z8 n] 3)]] ?_;exact⟨X',(),rfl,.inl ⟨rfl,if_pos ⟨h0,h1,h2,h3,h4⟩,(by trivial),by simpa[Eo,Fq,h0,h1,h2,h3,h4] using ac⟩⟩)
  ·repeat(refine sA ?_;intros)
   (refine dP [X',[(bn,row [Z9 Z8 n] 3)]] ?_;exact⟨X',(),rfl,.inr (.inl ⟨rfl,hB⟩)⟩)
 ·have hn:(Eo bn n).err () t=some 3:=if_neg h;unfold Fq at h;by_cases h0:t.c0<0
  ·refine cG func183 fun _=>?_;repeat(refine sA ?_;intros)
   (refine dP [X,[(bn,row [Z9 Z8 n] 3)]] ?_;exact⟨X,(),rfl,.inr (.inr ⟨3,hn,by decide,rfl,ps,hX⟩)⟩)
  by_cases h1:t.c1<0
  ·refine cG func183 fun _=>?_;repeat(refine sA ?_;intros)
   (refine dP [X,[(bn,row [Z9 Z8 n] 3)]] ?_;exact⟨X,(),rfl,.inr (.inr ⟨3,hn,by decide,rfl,ps,hX⟩)⟩)
  by_cases h2:t.c2<0
  ·refine cG func183 fun _=>?_;repeat(refine sA ?_;intros)
   (refine dP [X,[(bn,row [Z9 Z8 n] 3)]] ?_;exact⟨X,(),rfl,.inr (.inr ⟨3,hn,by decide,rfl,ps,hX⟩)⟩)
  by_cases h3:(n:Int)≤t.c1
  ·refine cG func183 fun _=>?_;repeat(refine sA ?_;intros)
   (refine dP [X,[(bn,row [Z9 Z8 n] 3)]] ?_;exact⟨X,(),rfl,.inr (.inr ⟨3,hn,by decide,rfl,ps,hX⟩)⟩)
  have h4:(n:Int)≤t.c2:=oM;refine cG func183 fun _=>?_;repeat(refine sA ?_;intros)
  (refine dP [X,[(bn,row [Z9 Z8 n] 3)]] ?_;exact⟨X,(),rfl,.inr (.inr ⟨3,hn,by decide,rfl,ps,hX⟩)⟩)
theorem mA {bn n:Nat}:∀{ts:List T5} {k:Unit},(∀t∈ts,Fq n t)→(Eo bn n).all k ts=ts.map fun t=>⟨t.c0,0,0,0,0⟩
 |[],_,_=>rfl
 |t::ts,k,h=>by simp only[Aj.all,AZ];rw[mA fun u hu=>h u (AF _ hu)];have:(Eo bn n).outs k t=[⟨t.c0,0,0,0,0⟩]:=if_pos (h t AE);rw[this];rfl
theorem mB {bn n:Nat}:∀{ts:List T5} {k:Unit},((Eo bn n).bad k ts=none↔∀t∈ts,Fq n t)∧((Eo bn n).bad k ts=none∨(Eo bn n).bad k ts=some 3)
 |[],_=>⟨by simp[Aj.bad],.inl rfl⟩
 |t::ts,k=>by
  obtain⟨i1,i2⟩:=mB (bn:=bn) (n:=n) (ts:=ts) (k:=());simp only[Aj.bad];by_cases h:Fq n t
  ·rw[show(Eo bn n).err k t=none from if_pos h];dsimp only;exact⟨by rw[show(Eo bn n).next k t=() from rfl,i1];simp[h],i2⟩
  ·rw[show(Eo bn n).err k t=some 3 from if_neg h];exact⟨by simp[h],.inr rfl⟩
theorem mC (bn n:Nat) (k:Unit) (t:T5):((Eo bn n).outs k t).length≤1:=by unfold Eo;dsimp only;split<;>simp
def Qt (t:T5):List T5:=(if t.c1=t.c2 then[] else[⟨t.c1,t.c2,t.c0,0,0⟩])
theorem ckE:Bw (Cq [] (Qt)) 3 (fun _ t=>okT 3 t) 184 [] []:=mkU fun _ _ _ _ _ _ t s=>by
 by_cases h1:t.c1=t.c2
 ·exact mL0 s func184 (show Qt t=_ from if_pos h1)
 ·exact mL1 s func184 (show Qt t=_ from if_neg h1)
def Qu (t:T5):List T5:=[t,⟨t.c1,t.c0,t.c2,0,0⟩]
theorem hkB:Bw (Cq [] (Qu)) 3 (fun _ t=>okT 3 t) 186 [] []:=by
 rintro bx Pst Br bnd hP ps X ⟨⟩ t hX hk hb;have ac:tv t= .agg #[Z9 Z8 t.c0,Z9 Z8 t.c1,Z9 Z8 t.c2,Z9 Z8 t.c3,Z9 Z8 t.c4]:=rfl;rw[ac];unfold Im;simp only[AB,AA];show Ct _ _ _ [X] _;have ti:=Dp hk;have ho:(Cq [] (Qu)).outs () t=[t,⟨t.c1,t.c0,t.c2,0,0⟩]:=by show Qu t=_;unfold Qu;rfl
 have ag:ps.length+2≤bnd:=by rw[ho] at hb;exact hb
 have aa:=hP ps X t hX hk oM;rw[show tv t= .agg #[Z9 Z8 t.c0,Z9 Z8 t.c1,Z9 Z8 t.c2,Z9 Z8 t.c3,Z9 Z8 t.c4] from rfl] at aa;have ab:=fun X' h=>hP (ps++[t]) X' ⟨t.c1,t.c0,t.c2,0,0⟩ h (by first|exact hk|exact Iv oA2 oA2 oA2) (by rw[AH,CY];omega);rw[show tv ⟨t.c1,t.c0,t.c2,0,0⟩= .agg #[Z9 Z8 t.c1,Z9 Z8 t.c0,Z9 Z8 t.c2,Z9 Z8 0,Z9 Z8 0] from rfl] at ab;refine cG func186 fun _=>?_;repeat(refine sA ?_;intros)
 refine R.callV (hct:=by exact aa) (h:=?_);rintro _ _ ⟨X',rfl,⟨rfl,ad⟩|⟨rfl,hB⟩⟩
 ·repeat(refine sA ?_;intros)
  refine R.callV (hct:=by exact ab _ ad) (h:=?_);rintro _ _ ⟨X2,rfl,⟨rfl,ae⟩|⟨rfl,hB⟩⟩
  ·repeat(refine sA ?_;intros)
   (refine dP [X2] ?_;exact⟨X2,(),rfl,.inl ⟨rfl,rfl,(by trivial),by rw[ho];simpa using ae⟩⟩)
  ·repeat(refine sA ?_;intros)
   (refine dP [X2] ?_;exact⟨X2,(),rfl,.inr (.inl ⟨rfl,hB⟩)⟩)
 ·repeat(refine sA ?_;intros)
  (refine dP [X'] ?_;exact⟨X',(),rfl,.inr (.inl ⟨rfl,hB⟩)⟩)
def Nw (bl:Nat):Aj Int:=⟨fun k=>[[(bl,row [Z9 Z8 k] 2)]],fun k t=>if t.c0=k then[] else[t],fun _ t=>t.c0,fun _ _=>none⟩
theorem fstM_C (bl:Nat) (k:Int):(Nw bl).C k=[[(bl,row [Z9 Z8 k] 2)]]:=rfl
theorem cD (bl:Nat):∀(ts:List T5) (k:Int),(Nw bl).all k ts=Iu k ts
 |[],_=>rfl
 |t::ts,k=>by
  simp only[Aj.all,Iu];rw[show(Nw bl).next k t=t.c0 from rfl,cD bl ts];show(if t.c0=k then[] else[t])++_=_;by_cases h:t.c0=k
  ·rw[if_pos h,if_pos h,h];rfl
  ·rw[if_neg h,if_neg h];rfl
theorem fst_mk (bl:Nat):Bw (Nw bl) 3 (fun _ t=>okT 3 t) 187 [] [pv bl]:=by
 rintro bx Pst Br bnd hP ps X k t hX hk hb;have aa:tv t= .agg #[Z9 Z8 t.c0,Z9 Z8 t.c1,Z9 Z8 t.c2,Z9 Z8 t.c3,Z9 Z8 t.c4]:=rfl;rw[aa];unfold Im;simp only[AB,AA];show Ct _ _ _ [X,[(bl,row [Z9 Z8 k] 2)]] _;have ti:=Dp hk;by_cases h:t.c0=k
 ·have ho:(Nw bl).outs k t=[]:=if_pos h;have hn:(Nw bl).next k t=k:=h;refine cG func187 fun _=>?_;repeat(refine sA ?_;intros)
  (refine dP [X,[(bl,row [Z9 Z8 k] 2)]] ?_;exact⟨X,k,rfl,.inl ⟨rfl,rfl,hn.symm,by rw[ho,List.append_nil];exact hX⟩⟩)
 ·have ho:(Nw bl).outs k t=[t]:=if_neg h;have ac:ps.length+1≤bnd:=by rw[ho] at hb;exact hb
  have ab:=hP ps X t hX hk ac;rw[aa] at ab;refine cG func187 fun _=>?_;repeat(refine sA ?_;intros)
  refine R.callV (hct:=by exact ab) (h:=?_);rintro _ _ ⟨X',rfl,⟨rfl,ad⟩|⟨rfl,hB⟩⟩
  ·repeat(refine sA ?_;intros)
   (refine dP [X',[(bl,row [Z9 Z8 t.c0] 2)]] ?_;exact⟨X',t.c0,rfl,.inl ⟨rfl,rfl,rfl,by rw[ho];exact ad⟩⟩)
  ·repeat(refine sA ?_;intros)
   (refine dP [X',[(bl,row [Z9 Z8 t.c0] 2)]] ?_;exact⟨X',t.c0,rfl,.inr (.inl ⟨rfl,hB⟩)⟩)
def hkSF (t:T5):List T5:=[t]
theorem hkS:Bw (Cq [] (hkSF)) 3 (fun _ t=>okT 3 t) 188 [] []:=mkU fun _ _ _ _ _ _ t s=>mL1 s func188 (show hkSF t=[t] from rfl)
theorem lkHook (p:Jp) (fa fb:Fl) (b8 b4 b5:Nat) (J:Jb) (A T:Nat) (ts:List T5) (Rl:Fl→Int→Prop) (hL:Iz p J fa fb 1 2 3 A T ts Rl):Er p J 189 [pv b8,pv b4,pv b5] (Cu p.bj b8 b4 b5 fa fb) A T none ts fun f e Hx'=>Hx'=Cu p.bj b8 b4 b5 fa fb∧Rl f e:=lM hL func189
def Pn (t:T5):List T5:=(if t.c2=t.c3 then(if t.c0<t.c1 then[⟨t.c0,t.c0,0,0,0⟩] else[⟨t.c0,t.c1,0,0,0⟩]) else[⟨t.c0,t.c1,0,0,0⟩])
theorem hkH:Bw (Cq [] (Pn)) 2 (fun _ t=>okT 4 t) 190 [] []:=mkU fun _ _ _ _ _ _ t s=>by
 by_cases h1:t.c2=t.c3
 ·by_cases h2:t.c0<t.c1
  ·exact mL1 s func190 (show Pn t=_ from (if_pos h1).trans (if_pos h2))
  ·exact mL1 s func190 (show Pn t=_ from (if_pos h1).trans (if_neg h2))
 ·exact mL1 s func190 (show Pn t=_ from if_neg h1)
def rtSF (t:T5):List T5:=[t]
theorem rtS:Bw (Cq [] (rtSF)) 2 (fun _ t=>okT 2 t) 193 [] []:=mkU fun _ _ _ _ _ _ t s=>mL1 s func193 (show rtSF t=[t] from rfl)
theorem yV (p:Jp) (fa fb:Fl) (b8 b4 b5:Nat) (J:Jb) (A T:Nat) (ts:List T5) (Rl:Fl→Int→Prop) (hL:Iz p J fa fb 1 1 2 A T ts Rl):Er p J 194 [pv b8,pv b4,pv b5] (Cu p.bj b8 b4 b5 fa fb) A T none ts fun f e Hx'=>Hx'=Cu p.bj b8 b4 b5 fa fb∧Rl f e:=lM hL func194
def Nx (bt:Nat):Aj Bool:=⟨fun k=>[[(bt,row [.bool k] 4)]],fun _ t=>[⟨t.c0,t.c2,0,0,0⟩],fun k t=>k||decide (t.c1≠t.c2),fun _ _=>none⟩
theorem trnM_C (bt:Nat) (k:Bool):(Nx bt).C k=[[(bt,row [.bool k] 4)]]:=rfl
theorem cE (bt:Nat):∀(ts:List T5) (k:Bool),(Nx bt).all k ts=ts.map fun t=>⟨t.c0,t.c2,0,0,0⟩
 |[],_=>rfl
 |t::ts,k=>by simp only[Aj.all,cE bt ts,AZ];rfl
theorem mD (bt:Nat):∀(ts:List T5) (k:Bool),(Nx bt).st k ts=(k||ts.any fun t=>decide (t.c1≠t.c2))
 |[],k=>by simp[Aj.st]
 |t::ts,k=>by simp only[Aj.st,mD bt ts,List.any_cons];show((k||decide (t.c1≠t.c2))||_)=_;rw[Bool.or_assoc]
theorem trn_mk (bt:Nat):Bw (Nx bt) 2 (fun _ t=>okT 3 t) 195 [] [pv bt]:=by
 rintro bx Pst Br bnd hP ps X k t hX hk hb;have ac:tv t= .agg #[Z9 Z8 t.c0,Z9 Z8 t.c1,Z9 Z8 t.c2,Z9 Z8 t.c3,Z9 Z8 t.c4]:=rfl;rw[ac];unfold Im;simp only[AB,AA];show Ct _ _ _ [X,[(bt,row [.bool k] 4)]] _;have ti:=Dp hk;have ad:ps.length+1≤bnd:=hb;have ab:=hP ps X ⟨t.c0,t.c2,0,0,0⟩ hX (Hk ti.1 ti.2.2.1) ad;rw[show tv ⟨t.c0,t.c2,0,0,0⟩= .agg #[Z9 Z8 t.c0,Z9 Z8 t.c2,Z9 Z8 0,Z9 Z8 0,Z9 Z8 0] from rfl] at ab;cases k with
 |true=>
  refine cG func195 fun _=>?_;repeat(refine sA ?_;intros)
  refine R.callV (hct:=by exact ab) (h:=?_);rintro _ _ ⟨X',rfl,⟨rfl,aa⟩|⟨rfl,hB⟩⟩
  ·repeat(refine sA ?_;intros)
   (refine dP [X',[(bt,row [.bool true] 4)]] ?_;exact⟨X',true,rfl,.inl ⟨rfl,rfl,rfl,aa⟩⟩)
  ·repeat(refine sA ?_;intros)
   (refine dP [X',[(bt,row [.bool true] 4)]] ?_;exact⟨X',true,rfl,.inr (.inl ⟨rfl,hB⟩)⟩)
 |false=>
  by_cases h:t.c1=t.c2
  ·have hn:(Nx bt).next false t=false:=by show(false||decide (t.c1≠t.c2))=false;simp[h]
   have hd:dec (t.c1≠t.c2)=false:=Jq fun hh=>hh h;refine cG func195 fun _=>?_;repeat(refine sA ?_;intros)
   try rw[hd]
   refine R.callV (hct:=by exact ab) (h:=?_);rintro _ _ ⟨X',rfl,⟨rfl,aa⟩|⟨rfl,hB⟩⟩
   ·repeat(refine sA ?_;intros)
    (refine dP [X',[(bt,row [.bool false] 4)]] ?_;exact⟨X',false,rfl,.inl ⟨rfl,rfl,hn.symm,aa⟩⟩)
   ·repeat(refine sA ?_;intros)
    (refine dP [X',[(bt,row [.bool false] 4)]] ?_;exact⟨X',false,rfl,.inr (.inl ⟨rfl,hB⟩)⟩)
  ·have hn:(Nx bt).next false t=true:=by show(false||decide (t.c1≠t.c2))=true;simp[h]
   have hd:dec (t.c1≠t.c2)=true:=Dt h;refine cG func195 fun _=>?_;repeat(refine sA ?_;intros)
   try rw[hd]
   refine R.callV (hct:=by exact ab) (h:=?_);rintro _ _ ⟨X',rfl,⟨rfl,aa⟩|⟨rfl,hB⟩⟩
   ·repeat(refine sA ?_;intros)
    (refine dP [X',[(bt,row [.bool true] 4)]] ?_;exact⟨X',true,rfl,.inl ⟨rfl,rfl,hn.symm,aa⟩⟩)
   ·repeat(refine sA ?_;intros)
    (refine dP [X',[(bt,row [.bool true] 4)]] ?_;exact⟨X',true,rfl,.inr (.inl ⟨rfl,hB⟩)⟩)
theorem nR {a b c d:Int} (ha:Av a) (hb:Av b) (hc:Av c) (hd:d=0):okT 3 ⟨a,b,c,0,d⟩:=by subst hd;exact Iv ha hb hc
theorem okT2z {a b c d:Int} (ha:Av a) (hb:Av b) (hc:c=0) (hd:d=0):okT 2 ⟨a,b,0,c,d⟩:=by subst hc hd;exact Hk ha hb
def Ny (f0:Nat) (f1:Nat) (f3:Nat) (t:T5):List T5:=(if t.c3= -1 then[⟨t.c0,t.c1,t.c2,0,t.c4⟩] else[⟨t.c3,t.c1,t.c2,0,t.c4⟩])
theorem lk30 (bf:Nat) (bc:Nat) (f0:Nat) (f1:Nat) (f3:Nat):Bw (Cq [[(bf,row [Z9 Z8 f0,Z9 Z8 f1,Z9 Z8 ((3:Nat):Int),Z9 Z8 f3] 42)],[(bc,row [Z9 Z8 ((0:Nat):Int)] 3)]] (Ny f0 f1 f3)) 3 (fun _ t=>okT 4 t) 197 [] [pv bf,pv bc]:=by
 rintro bx Pst Br bnd hP ps X ⟨⟩ t hX hk hb;have ac:tv t= .agg #[Z9 Z8 t.c0,Z9 Z8 t.c1,Z9 Z8 t.c2,Z9 Z8 t.c3,Z9 Z8 t.c4]:=rfl;rw[ac];unfold Im;simp only[AB,AA];show Ct _ _ _ [X,[(bf,row [Z9 Z8 f0,Z9 Z8 f1,Z9 Z8 ((3:Nat):Int),Z9 Z8 f3] 42)],[(bc,row [Z9 Z8 ((0:Nat):Int)] 3)]] _;have ti:=Dp hk;by_cases h1:t.c3= -1
 ·
  have ho:(Cq [[(bf,row [Z9 Z8 f0,Z9 Z8 f1,Z9 Z8 ((3:Nat):Int),Z9 Z8 f3] 42)],[(bc,row [Z9 Z8 ((0:Nat):Int)] 3)]] (Ny f0 f1 f3)).outs () t=[⟨t.c0,t.c1,t.c2,0,t.c4⟩]:=by show Ny f0 f1 f3 t=_;unfold Ny;rw[if_pos h1]
  have ad:ps.length+1≤bnd:=by rw[ho] at hb;exact hb
  have aa:=hP ps X ⟨t.c0,t.c1,t.c2,0,t.c4⟩ hX oA0 oM;rw[show tv ⟨t.c0,t.c1,t.c2,0,t.c4⟩= .agg #[Z9 Z8 t.c0,Z9 Z8 t.c1,Z9 Z8 t.c2,Z9 Z8 0,Z9 Z8 t.c4] from rfl] at aa;refine cG func197 fun _=>?_;repeat(refine sA ?_;intros)
  refine R.callV (hct:=by exact aa) (h:=?_);rintro _ _ ⟨X',rfl,⟨rfl,ab⟩|⟨rfl,hB⟩⟩
  ·repeat(refine sA ?_;intros)
   (refine Dn.post (Hr:=[X',[(bf,row [Z9 Z8 f0,Z9 Z8 f1,Z9 Z8 ((3:Nat):Int),Z9 Z8 f3] 42)],[(bc,row [Z9 Z8 ((0:Nat):Int)] 3)]]) DT (hR:=?_);exact⟨X',(),rfl,.inl ⟨rfl,rfl,(by trivial),by rw[ho];exact ab⟩⟩)
  ·repeat(refine sA ?_;intros)
   (refine Dn.post (Hr:=[X',[(bf,row [Z9 Z8 f0,Z9 Z8 f1,Z9 Z8 ((3:Nat):Int),Z9 Z8 f3] 42)],[(bc,row [Z9 Z8 ((0:Nat):Int)] 3)]]) DT (hR:=?_);exact⟨X',(),rfl,.inr (.inl ⟨rfl,hB⟩)⟩)
 ·
  have ho:(Cq [[(bf,row [Z9 Z8 f0,Z9 Z8 f1,Z9 Z8 ((3:Nat):Int),Z9 Z8 f3] 42)],[(bc,row [Z9 Z8 ((0:Nat):Int)] 3)]] (Ny f0 f1 f3)).outs () t=[⟨t.c3,t.c1,t.c2,0,t.c4⟩]:=by show Ny f0 f1 f3 t=_;unfold Ny;rw[if_neg h1]
  have ad:ps.length+1≤bnd:=by rw[ho] at hb;exact hb
  have aa:=hP ps X ⟨t.c3,t.c1,t.c2,0,t.c4⟩ hX oA0 oM;rw[show tv ⟨t.c3,t.c1,t.c2,0,t.c4⟩= .agg #[Z9 Z8 t.c3,Z9 Z8 t.c1,Z9 Z8 t.c2,Z9 Z8 0,Z9 Z8 t.c4] from rfl] at aa;refine cG func197 fun _=>?_;repeat(refine sA ?_;intros)
  refine R.callV (hct:=by exact aa) (h:=?_);rintro _ _ ⟨X',rfl,⟨rfl,ab⟩|⟨rfl,hB⟩⟩
  ·repeat(refine sA ?_;intros)
   (refine Dn.post (Hr:=[X',[(bf,row [Z9 Z8 f0,Z9 Z8 f1,Z9 Z8 ((3:Nat):Int),Z9 Z8 f3] 42)],[(bc,row [Z9 Z8 ((0:Nat):Int)] 3)]]) DT (hR:=?_);exact⟨X',(),rfl,.inl ⟨rfl,rfl,(by trivial),by rw[ho];exact ab⟩⟩)
  ·repeat(refine sA ?_;intros)
   (refine Dn.post (Hr:=[X',[(bf,row [Z9 Z8 f0,Z9 Z8 f1,Z9 Z8 ((3:Nat):Int),Z9 Z8 f3] 42)],[(bc,row [Z9 Z8 ((0:Nat):Int)] 3)]]) DT (hR:=?_);exact⟨X',(),rfl,.inr (.inl ⟨rfl,hB⟩)⟩)
def Nz (f0:Nat) (f1:Nat) (f3:Nat) (t:T5):List T5:=(if t.c3= -1 then[⟨t.c0,t.c1,t.c2,0,t.c4⟩] else[⟨t.c0,t.c3,t.c2,0,t.c4⟩])
theorem lk31 (bf:Nat) (bc:Nat) (f0:Nat) (f1:Nat) (f3:Nat):Bw (Cq [[(bf,row [Z9 Z8 f0,Z9 Z8 f1,Z9 Z8 ((3:Nat):Int),Z9 Z8 f3] 42)],[(bc,row [Z9 Z8 ((1:Nat):Int)] 3)]] (Nz f0 f1 f3)) 3 (fun _ t=>okT 4 t) 197 [] [pv bf,pv bc]:=by
 rintro bx Pst Br bnd hP ps X ⟨⟩ t hX hk hb;have ac:tv t= .agg #[Z9 Z8 t.c0,Z9 Z8 t.c1,Z9 Z8 t.c2,Z9 Z8 t.c3,Z9 Z8 t.c4]:=rfl;rw[ac];unfold Im;simp only[AB,AA];show Ct _ _ _ [X,[(bf,row [Z9 Z8 f0,Z9 Z8 f1,Z9 Z8 ((3:Nat):Int),Z9 Z8 f3] 42)],[(bc,row [Z9 Z8 ((1:Nat):Int)] 3)]] _;have ti:=Dp hk;by_cases h1:t.c3= -1
 ·
  have ho:(Cq [[(bf,row [Z9 Z8 f0,Z9 Z8 f1,Z9 Z8 ((3:Nat):Int),Z9 Z8 f3] 42)],[(bc,row [Z9 Z8 ((1:Nat):Int)] 3)]] (Nz f0 f1 f3)).outs () t=[⟨t.c0,t.c1,t.c2,0,t.c4⟩]:=by show Nz f0 f1 f3 t=_;unfold Nz;rw[if_pos h1]
  have ad:ps.length+1≤bnd:=by rw[ho] at hb;exact hb
  have aa:=hP ps X ⟨t.c0,t.c1,t.c2,0,t.c4⟩ hX oA0 oM;rw[show tv ⟨t.c0,t.c1,t.c2,0,t.c4⟩= .agg #[Z9 Z8 t.c0,Z9 Z8 t.c1,Z9 Z8 t.c2,Z9 Z8 0,Z9 Z8 t.c4] from rfl] at aa;refine cG func197 fun _=>?_;repeat(refine sA ?_;intros)
  refine R.callV (hct:=by exact aa) (h:=?_);rintro _ _ ⟨X',rfl,⟨rfl,ab⟩|⟨rfl,hB⟩⟩
  ·repeat(refine sA ?_;intros)
   (refine Dn.post (Hr:=[X',[(bf,row [Z9 Z8 f0,Z9 Z8 f1,Z9 Z8 ((3:Nat):Int),Z9 Z8 f3] 42)],[(bc,row [Z9 Z8 ((1:Nat):Int)] 3)]]) DT (hR:=?_);exact⟨X',(),rfl,.inl ⟨rfl,rfl,(by trivial),by rw[ho];exact ab⟩⟩)
  ·repeat(refine sA ?_;intros)
   (refine Dn.post (Hr:=[X',[(bf,row [Z9 Z8 f0,Z9 Z8 f1,Z9 Z8 ((3:Nat):Int),Z9 Z8 f3] 42)],[(bc,row [Z9 Z8 ((1:Nat):Int)] 3)]]) DT (hR:=?_);exact⟨X',(),rfl,.inr (.inl ⟨rfl,hB⟩)⟩)
 ·
  have ho:(Cq [[(bf,row [Z9 Z8 f0,Z9 Z8 f1,Z9 Z8 ((3:Nat):Int),Z9 Z8 f3] 42)],[(bc,row [Z9 Z8 ((1:Nat):Int)] 3)]] (Nz f0 f1 f3)).outs () t=[⟨t.c0,t.c3,t.c2,0,t.c4⟩]:=by show Nz f0 f1 f3 t=_;unfold Nz;rw[if_neg h1]
  have ad:ps.length+1≤bnd:=by rw[ho] at hb;exact hb
  have aa:=hP ps X ⟨t.c0,t.c3,t.c2,0,t.c4⟩ hX oA0 oM;rw[show tv ⟨t.c0,t.c3,t.c2,0,t.c4⟩= .agg #[Z9 Z8 t.c0,Z9 Z8 t.c3,Z9 Z8 t.c2,Z9 Z8 0,Z9 Z8 t.c4] from rfl] at aa;refine cG func197 fun _=>?_;repeat(refine sA ?_;intros)
  refine R.callV (hct:=by exact aa) (h:=?_);rintro _ _ ⟨X',rfl,⟨rfl,ab⟩|⟨rfl,hB⟩⟩
  ·repeat(refine sA ?_;intros)
   (refine Dn.post (Hr:=[X',[(bf,row [Z9 Z8 f0,Z9 Z8 f1,Z9 Z8 ((3:Nat):Int),Z9 Z8 f3] 42)],[(bc,row [Z9 Z8 ((1:Nat):Int)] 3)]]) DT (hR:=?_);exact⟨X',(),rfl,.inl ⟨rfl,rfl,(by trivial),by rw[ho];exact ab⟩⟩)
  ·repeat(refine sA ?_;intros)
   (refine Dn.post (Hr:=[X',[(bf,row [Z9 Z8 f0,Z9 Z8 f1,Z9 Z8 ((3:Nat):Int),Z9 Z8 f3] 42)],[(bc,row [Z9 Z8 ((1:Nat):Int)] 3)]]) DT (hR:=?_);exact⟨X',(),rfl,.inr (.inl ⟨rfl,hB⟩)⟩)
def Oa (f0:Nat) (f1:Nat) (f3:Nat) (t:T5):List T5:=(if t.c2= -1 then[⟨t.c0,t.c1,0,t.c3,t.c4⟩] else[⟨t.c0,t.c2,0,t.c3,t.c4⟩])
theorem lk21 (bf:Nat) (bc:Nat) (f0:Nat) (f1:Nat) (f3:Nat):Bw (Cq [[(bf,row [Z9 Z8 f0,Z9 Z8 f1,Z9 Z8 ((2:Nat):Int),Z9 Z8 f3] 42)],[(bc,row [Z9 Z8 ((1:Nat):Int)] 3)]] (Oa f0 f1 f3)) 2 (fun _ t=>okT 3 t) 197 [] [pv bf,pv bc]:=by
 rintro bx Pst Br bnd hP ps X ⟨⟩ t hX hk hb;have ac:tv t= .agg #[Z9 Z8 t.c0,Z9 Z8 t.c1,Z9 Z8 t.c2,Z9 Z8 t.c3,Z9 Z8 t.c4]:=rfl;rw[ac];unfold Im;simp only[AB,AA];show Ct _ _ _ [X,[(bf,row [Z9 Z8 f0,Z9 Z8 f1,Z9 Z8 ((2:Nat):Int),Z9 Z8 f3] 42)],[(bc,row [Z9 Z8 ((1:Nat):Int)] 3)]] _;have ti:=Dp hk;by_cases h1:t.c2= -1
 ·
  have ho:(Cq [[(bf,row [Z9 Z8 f0,Z9 Z8 f1,Z9 Z8 ((2:Nat):Int),Z9 Z8 f3] 42)],[(bc,row [Z9 Z8 ((1:Nat):Int)] 3)]] (Oa f0 f1 f3)).outs () t=[⟨t.c0,t.c1,0,t.c3,t.c4⟩]:=by show Oa f0 f1 f3 t=_;unfold Oa;rw[if_pos h1]
  have ad:ps.length+1≤bnd:=by rw[ho] at hb;exact hb
  have aa:=hP ps X ⟨t.c0,t.c1,0,t.c3,t.c4⟩ hX oA1 oM;rw[show tv ⟨t.c0,t.c1,0,t.c3,t.c4⟩= .agg #[Z9 Z8 t.c0,Z9 Z8 t.c1,Z9 Z8 0,Z9 Z8 t.c3,Z9 Z8 t.c4] from rfl] at aa;refine cG func197 fun _=>?_;repeat(refine sA ?_;intros)
  refine R.callV (hct:=by exact aa) (h:=?_);rintro _ _ ⟨X',rfl,⟨rfl,ab⟩|⟨rfl,hB⟩⟩
  ·repeat(refine sA ?_;intros)
   (refine Dn.post (Hr:=[X',[(bf,row [Z9 Z8 f0,Z9 Z8 f1,Z9 Z8 ((2:Nat):Int),Z9 Z8 f3] 42)],[(bc,row [Z9 Z8 ((1:Nat):Int)] 3)]]) DT (hR:=?_);exact⟨X',(),rfl,.inl ⟨rfl,rfl,(by trivial),by rw[ho];exact ab⟩⟩)
  ·repeat(refine sA ?_;intros)
   (refine Dn.post (Hr:=[X',[(bf,row [Z9 Z8 f0,Z9 Z8 f1,Z9 Z8 ((2:Nat):Int),Z9 Z8 f3] 42)],[(bc,row [Z9 Z8 ((1:Nat):Int)] 3)]]) DT (hR:=?_);exact⟨X',(),rfl,.inr (.inl ⟨rfl,hB⟩)⟩)
 ·
  have ho:(Cq [[(bf,row [Z9 Z8 f0,Z9 Z8 f1,Z9 Z8 ((2:Nat):Int),Z9 Z8 f3] 42)],[(bc,row [Z9 Z8 ((1:Nat):Int)] 3)]] (Oa f0 f1 f3)).outs () t=[⟨t.c0,t.c2,0,t.c3,t.c4⟩]:=by show Oa f0 f1 f3 t=_;unfold Oa;rw[if_neg h1]
  have ad:ps.length+1≤bnd:=by rw[ho] at hb;exact hb
  have aa:=hP ps X ⟨t.c0,t.c2,0,t.c3,t.c4⟩ hX oA1 oM;rw[show tv ⟨t.c0,t.c2,0,t.c3,t.c4⟩= .agg #[Z9 Z8 t.c0,Z9 Z8 t.c2,Z9 Z8 0,Z9 Z8 t.c3,Z9 Z8 t.c4] from rfl] at aa;refine cG func197 fun _=>?_;repeat(refine sA ?_;intros)
  refine R.callV (hct:=by exact aa) (h:=?_);rintro _ _ ⟨X',rfl,⟨rfl,ab⟩|⟨rfl,hB⟩⟩
  ·repeat(refine sA ?_;intros)
   (refine Dn.post (Hr:=[X',[(bf,row [Z9 Z8 f0,Z9 Z8 f1,Z9 Z8 ((2:Nat):Int),Z9 Z8 f3] 42)],[(bc,row [Z9 Z8 ((1:Nat):Int)] 3)]]) DT (hR:=?_);exact⟨X',(),rfl,.inl ⟨rfl,rfl,(by trivial),by rw[ho];exact ab⟩⟩)
  ·repeat(refine sA ?_;intros)
   (refine Dn.post (Hr:=[X',[(bf,row [Z9 Z8 f0,Z9 Z8 f1,Z9 Z8 ((2:Nat):Int),Z9 Z8 f3] 42)],[(bc,row [Z9 Z8 ((1:Nat):Int)] 3)]]) DT (hR:=?_);exact⟨X',(),rfl,.inr (.inl ⟨rfl,hB⟩)⟩)
theorem lk30is (f0 f1 f3:Nat) (t:T5):Ny f0 f1 f3 t=[Kc 3 0 t]:=by unfold Ny Kc Dq;simp only[T5.col];by_cases h:t.c3= -1<;>simp[h]
theorem lk31is (f0 f1 f3:Nat) (t:T5):Nz f0 f1 f3 t=[Kc 3 1 t]:=by unfold Nz Kc Dq;simp only[T5.col];by_cases h:t.c3= -1<;>simp[h]
theorem lk21is (f0 f1 f3:Nat) (t:T5):Oa f0 f1 f3 t=[Kc 2 1 t]:=by unfold Oa Kc Dq;simp only[T5.col];by_cases h:t.c2= -1<;>simp[h]
theorem jn2 (bx:Nat) (t:T5) (X:Aa) (Rr:Value→Aa→Prop) (h:PutC bx ((fun t=>t) t) X Rr):Ct AC 192 [tv t,Im bx] [X] (Wh Rr):=by
 have aa:tv t= .agg #[Z9 Z8 t.c0,Z9 Z8 t.c1,Z9 Z8 t.c2,Z9 Z8 t.c3,Z9 Z8 t.c4]:=rfl;rw[aa];unfold Im;refine cG func192 fun _=>?_;repeat(refine sA ?_;intros)
 refine R.callV (hct:=by exact h) (h:=?_);rintro _ _ ⟨X',rfl,hR⟩;repeat(refine sA ?_;intros)
 (refine dP [X'] ?_;exact⟨X',rfl,hR⟩)
def jn1F (t:T5):List T5:=[⟨t.c2,0,0,0,0⟩]
theorem jn1:Bw (Cq [] (jn1F)) 1 (fun _ t=>okT 3 t) 191 [] []:=mkU fun _ _ _ _ _ _ t s=>mL1 s func191 (show jn1F t=[⟨t.c2,0,0,0,0⟩] from rfl)
def ls1F (t:T5):List T5:=[⟨t.c1,t.c0,0,0,0⟩]
theorem ls1:Bw (Cq [] (ls1F)) 2 (fun _ t=>okT 2 t) 198 [] []:=mkU fun _ _ _ _ _ _ t s=>mL1 s func198 (show ls1F t=[⟨t.c1,t.c0,0,0,0⟩] from rfl)
def nm1F (t:T5):List T5:=[t]
theorem nm1:Bw (Cq [] (nm1F)) 3 (fun _ t=>okT 3 t) 199 [] []:=mkU fun _ _ _ _ _ _ t s=>mL1 s func199 (show nm1F t=[t] from rfl)
theorem lkN2 (p:Jp) (fa fb:Fl) (b8 b4 b5:Nat) (J:Jb) (A T:Nat) (ts:List T5) (Rl:Fl→Int→Prop) (hL:Iz p J fa fb 0 1 1 A T ts Rl):Er p J 200 [pv b8,pv b4,pv b5] (Cu p.bj b8 b4 b5 fa fb) A T none ts fun f e Hx'=>Hx'=Cu p.bj b8 b4 b5 fa fb∧Rl f e:=lM hL func200
theorem lkN3 (p:Jp) (fa fb:Fl) (b8 b4 b5:Nat) (J:Jb) (A T:Nat) (ts:List T5) (Rl:Fl→Int→Prop) (hL:Iz p J fa fb 0 2 2 A T ts Rl):Er p J 201 [pv b8,pv b4,pv b5] (Cu p.bj b8 b4 b5 fa fb) A T none ts fun f e Hx'=>Hx'=Cu p.bj b8 b4 b5 fa fb∧Rl f e:=lM hL func201
def cpLF (t:T5):List T5:=(if t.c0=t.c1 then[] else[t])
theorem cpL:Bw (Cq [] (cpLF)) 3 (fun _ t=>okT 3 t) 151 [] []:=mkU fun _ _ _ _ _ _ t s=>by
 by_cases h1:t.c0=t.c1
 ·exact mL0 s func151 (show cpLF t=_ from if_pos h1)
 ·exact mL1 s func151 (show cpLF t=_ from if_neg h1)
def Sx (bj b8 b4 bc b5 bf:Nat) (fa fb f:Fl) (key:Nat):Hp:=[[(b8,row [pv bj] 84)],[(b4,row (fl4 fa) 42)],[(bc,row [Z9 Z8 key] 3)],[(b5,row (fl4 fb) 42)],[(bf,row (fl4 f) 42)]]
theorem lkLook (p:Jp) (fa fb f:Fl) (b8 b4 bc b5 bf:Nat) (J:Jb) (A T:Nat) (ts:List T5) (Rl:Fl→Int→Prop) (key to:Nat) (ag:f.width=to) (hL:Iz p J fa fb key 1 to A T ts Rl):Er p J 196 [pv b8,pv b4,pv bc,pv b5,pv bf] (Sx p.bj b8 b4 bc b5 bf fa fb f key) A T none ts fun f' e Hx'=>Hx'=Sx p.bj b8 b4 bc b5 bf fa fb f key∧Rl f' e:=by
 subst ag;intro W cd ca cs held ph ac hW ah;have hL:=hL W cd ca cs held hW ah;have aa:=eQ0;have ab:=eQ2;rw[aa fa,aa fb] at hL;unfold Bp Sx;rw[ab fa,ab fb,ab f];refine cG func196 fun _=>?_;repeat(refine sv ?_;intros)
 refine cX hL ?_;rintro _ _ ⟨f',e,ad,ae,cs',W',rfl,rfl,ai,hS,hR⟩;dsimp only[AA,AB];refine nx ?_;rw[aa];repeat(refine sv ?_;intros)
 (refine dP [[(p.bj,row [pv p.bw,Z9 Z8 0,.slice ph held.length ac] 98)],Ab p.bw p.bd p.ba p.bs,ad,ae,cs',[(b8,row [pv p.bj] 84)],[(b4,row [Z9 Z8 fa.first,Z9 Z8 fa.blocks,Z9 Z8 fa.width,Z9 Z8 fa.count] 42)],[(bc,row [Z9 Z8 key] 3)],[(b5,row [Z9 Z8 fb.first,Z9 Z8 fb.blocks,Z9 Z8 fb.width,Z9 Z8 fb.count] 42)],[(bf,row [Z9 Z8 f.first,Z9 Z8 f.blocks,Z9 Z8 f.width,Z9 Z8 f.count] 42)]] ?_;exact⟨f',e,ad,ae,cs',W',_,rfl,rfl,ai,hS,rfl,hR⟩)
section
variable {p:Jp} {B m k a s0:Nat} {e:Int} {er:Option Nat} {Gf:List (Fl×List T5)} {C:Aa}
def Qv (p:Jp) (B k a s0:Nat) (e:Int) (er:Option Nat) (G':List (Fl×List T5)) (w col b c n:Nat) (hts ts:List T5) (v:Value) (H':Hp):Prop:=
 ∃g C' e',v=flv g∧H'=[C']∧Ao p B k a (s0+3) e' er ((g,Du w col hts ts)::G') C'∧FB b c w n e' g∧(e'=0→e=0)
theorem cF (hR:Rm p B m k a) (hJ:Ao p B k a s0 0 er Gf C) (f0 f1 w f3:Nat) (fin:Fl) (ts hts:List T5) (G':List (Fl×List T5)) (col:Nat) (oc:Int) (F:T5→List T5) (hM:∀bf bc,Bw (Cq [[(bf,row [Z9 Z8 f0,Z9 Z8 f1,Z9 Z8 w,Z9 Z8 f3] 42)],[(bc,row [Z9 Z8 col] 3)]] F) w (fun _ t=>okT (w+1) t) 197 [] [pv bf,pv bc]) (ad:∀t,F t=[Kc w col t]) (aj:ordC col=⟨oc,0,0,0,0⟩) (ag:Ge ⟨oc,0,0,0,0⟩=true) (bu:AL .i64 ((col:Int)+1)=oc) (al:∀l:List T5,(srt (ltO ⟨oc,0,0,0,0⟩) false l).Pairwise fun a c=>a.col col≤c.col col) (a0:col<w) (hw:1≤w∧w≤3) {b c n bi ci ni:Nat} (hF:FB b c w n 0 ⟨f0,f1,w,f3⟩) (ay:FB bi ci 2 ni 0 fin) (hP:Pk (⟨f0,f1,w,f3⟩,ts) Gf G') (a3:(fin,hts)∈G') (a1:∀t∈ts,okT w t) (az:ts.length=n) (ak:∀t∈hts,okT 2 t) (ae:hts.Pairwise fun a c=>a.c0<c.c0) (hb:b≤1000) (bk:bi≤1000∧ci≤1000) (bq:b≤c∨(w≤3∧b≤2*c)) (ai:c≤B) (a2:b≤B) (hT:Cf c≤m) (hk:Gf.length+2≤k) (bp:s0≤9900):Ct AC 150 [pv p.bj,flv ⟨f0,f1,w,f3⟩,Z9 Z8 col,flv fin] [C] (Qv p B k a s0 0 er G' w col b c n hts ts):=by
 have aa:=eQ0;have ab:=eQ2;have a4:tv ⟨oc,0,0,0,0⟩= .agg #[Z9 Z8 oc,Z9 Z8 0,Z9 Z8 0,Z9 Z8 0,Z9 Z8 0]:=rfl;have hB:=hR.bs;have bv:f3=n:=(hF.ok rfl).2;have a5:=hF.cnt;dsimp only at a5;have a6:=hP.perm.length_eq;rw[AJ] at a6;have ah:=Fp hR hJ ⟨f0,f1,w,f3⟩ ts G' ⟨oc,0,0,0,0⟩ ag false hF hP hb ai hT oM;rw[aa,a4] at ah;dsimp only at ah;rw[aa,aa fin];dsimp only;refine cG func150 fun _=>?_;repeat(refine sA ?_;intros)
 repeat(refine sA ?_;intros)
 refine cX ah ?_;rintro _ _ ⟨g1,C1,e1,rfl,rfl,a7,am,bz⟩;dsimp only[AA,AB];refine nx ?_;try rw[aa]
 have an:=fun b8 b4 bc b5 bf=>Kl hR a7 196 inferInstance g1 fin (srt (ltO ⟨oc,0,0,0,0⟩) false ts) hts col 1 w (w+1) B oA5 (.inl (AF _ a3)) (fun J A T a8 R h=>lkLook p g1 fin ⟨f0,f1,w,f3⟩ b8 b4 bc b5 bf J A T a8 R col w rfl h) am (ay.mono fun _=>rfl) (by have:=am.blk;omega) a0 oM oM oM oM
  (fun _=>al _) (fun _=>ae) (.inl a2) (AI _) (by simp only[AJ];omega) oM
 simp only[Sx,ab] at an;repeat(refine sA ?_;intros)
 refine cX (an _ _ _ _ _) ?_;rintro _ _ ⟨g2,C2,e2,rfl,rfl,a9,ao,b1⟩;dsimp only[AA,AB];refine nx ?_;try rw[aa]
 have bg:=ao.cnt;have bh:=ao.blk;have aq:=fun bf bc b=>Fy hR a9 _ F w f3 c 1 oM 197 inferInstance _ (okT (w+1)) (hM bf bc) (fun t _=>by rw[ad];exact AI _) oM g2 ((srt (ltO ⟨oc,0,0,0,0⟩) false ts).map (Bf hts col 1 w)) oA5 oM
  (fun _ t ht=>by
   obtain⟨u,hu,rfl⟩:=AN.1 ht;have:=Ly ak col 1 w oM (a1 u (Io hu));rwa[show max w (w+1)=w+1 by omega] at this) (fun _=>by rw[El ad,AR,AR,(Bs _).length_eq];omega) oM ai (by simp only[AJ];omega) oM b
 simp only[ab] at aq;repeat(refine sA ?_;intros)
 refine cX (aq _ _ _) ?_;rintro _ _ ⟨g3,C3,e3,rfl,rfl,be,ac,b2⟩;dsimp only[AA,AB];refine nx ?_;try rw[aa]
 have au:=fun b=>Ia hR be [(g1,srt (ltO ⟨oc,0,0,0,0⟩) false ts),(g2,(srt (ltO ⟨oc,0,0,0,0⟩) false ts).map (Bf hts col 1 w))] ((g3,_)::G') (.cons (.there (.there .here)) (.cons (.there .here) .nil)) oA19 _ 2 _ (Nq b g1 g2);simp only[ab,AZ,CG,AA,AB] at au;repeat(refine sA ?_;intros)
 refine cX (au _) ?_;rintro _ _ ⟨C4,rfl,rfl,av⟩;dsimp only[AA,AB];refine nx ?_;repeat(refine sA ?_;intros)
 have aw:((srt (ltO ⟨oc,0,0,0,0⟩) false ts).map (Bf hts col 1 w)).flatMap F=Du w col hts ts:=by rw[El ad];unfold Du;rw[aj]
 have ax:(Du w col hts ts).length=n:=by unfold Du;rw[AR,AR,(Bs _).length_eq];exact az
 rw[aw] at av ac;rw[ax] at ac;(refine dP [C4] ?_;exact⟨g3,C4,e3,rfl,rfl,av,⟨by have:=ac.cnt;omega,ac.blk,ac.ok⟩,fun _=>rfl⟩)
theorem cH (hR:Rm p B m k a) (hJ:Ao p B k a s0 e er Gf C) (he:e≠0) (f fin:Fl) (ts hts:List T5) (G':List (Fl×List T5)) (col w:Nat) (oc:Int) (ac:Ge ⟨oc,0,0,0,0⟩=true) (ax:AL .i64 ((col:Int)+1)=oc) {b c n:Nat} (hF:FB b c w n e f) (hP:Pk (f,ts) Gf G') (hb:b≤1000) (ak:c≤B) (hT:Cf c≤m) (hk:Gf.length+2≤k) (ay:s0≤9900):Ct AC 150 [pv p.bj,flv f,Z9 Z8 col,flv fin] [C] (Qv p B k a s0 e er G' w col b c n hts ts):=by
 have aa:=eQ0;have ab:=eQ2;have al:tv ⟨oc,0,0,0,0⟩= .agg #[Z9 Z8 oc,Z9 Z8 0,Z9 Z8 0,Z9 Z8 0,Z9 Z8 0]:=rfl;have hz:=eQ1;have am:=hP.perm.length_eq;rw[AJ] at am;have ae:=Fp hR hJ f ts G' ⟨oc,0,0,0,0⟩ ac false hF hP hb ak hT oM;rw[aa,al] at ae;rw[aa,aa fin];refine cG func150 fun _=>?_;repeat(refine sA ?_;intros)
 repeat(refine sA ?_;intros)
 refine cX ae ?_;rintro _ _ ⟨g1,C1,e1,rfl,rfl,an,az,ao⟩;dsimp only[AA,AB];refine nx ?_;try rw[aa]
 have ag:e1≠0:=fun h=>he (ao h);have ah:=fun b8 b4 bc b5 bf=>SRun hR an 196 inferInstance [pv b8,pv b4,pv bc,pv b5,pv bf] (Sx p.bj b8 b4 bc b5 bf g1 fin f col) 0 0 1 none ((srt (ltO ⟨oc,0,0,0,0⟩) false ts).map (Bf hts col 1 w)) oM oM (b:=0) (c:=0) (w:=0) (n:=0) (fun h=>absurd h ag) oM (by simp only[AJ];omega);simp only[Sx,ab] at ah;repeat(refine sA ?_;intros)
 refine cX (ah _ _ _ _ _) ?_;rintro _ _ ⟨g2,C2,e2,rfl,rfl,ai,a0,aq⟩;dsimp only[AA,AB];refine nx ?_;try rw[aa]
 rw[Ms] at ai;have ad:e2≠0:=fun h=>ag (aq h);have au:=fun x1 x2 x3 x4=>lK ai ad (Du w col hts ts) (by simp only[AJ];omega) x1 x2 x3 x4;repeat(refine sA ?_;intros)
 refine cX (au _ _ _ _) ?_;rintro _ _ ⟨C3,rfl,rfl,av⟩;dsimp only[AA,AB];rw[hz];refine nx ?_;have aj:=fun b=>Ia hR av [(g1,srt (ltO ⟨oc,0,0,0,0⟩) false ts),(g2,(srt (ltO ⟨oc,0,0,0,0⟩) false ts).map (Bf hts col 1 w))] ((⟨0,0,0,0⟩,_)::G') (.cons (.there (.there .here)) (.cons (.there .here) .nil)) oA19 _ 2 _ (Nq b g1 g2);simp only[ab,AZ,CG,AA,AB] at aj;repeat(refine sA ?_;intros)
 refine cX (aj _) ?_;rintro _ _ ⟨C4,rfl,rfl,aw⟩;dsimp only[AA,AB];refine nx ?_;repeat(refine sA ?_;intros)
 (refine dP [C4] ?_;exact⟨⟨0,0,0,0⟩,C4,e2,rfl,rfl,aw,⟨AU _,AU _,fun h=>absurd h ad⟩,fun h=>absurd h ad⟩)
theorem yW (l:List T5):(srt (ltO ⟨1,0,0,0,0⟩) false l).Pairwise fun a c=>a.col 0≤c.col 0:=Sh l
theorem mE (l:List T5):(srt (ltO ⟨2,0,0,0,0⟩) false l).Pairwise fun a c=>a.col 1≤c.col 1:=bT l
theorem Xk (hR:Rm p B m k a) (hJ:Ao p B k a s0 e er Gf C) (f fin:Fl) (ts hts:List T5) (G':List (Fl×List T5)) (col w:Nat) (al:(col=0∧w=3)∨(col=1∧w=3)∨(col=1∧w=2)) {b c n bi ci ni:Nat} (hF:FB b c w n e f) (ae:FB bi ci 2 ni e fin) (hP:Pk (f,ts) Gf G') (ak:(fin,hts)∈G') (ai:e=0→∀t∈ts,okT w t) (ah:e=0→ts.length=n) (ad:e=0→∀t∈hts,okT 2 t) (aa:e=0→hts.Pairwise fun a c=>a.c0<c.c0) (hb:b≤1000) (ag:bi≤1000∧ci≤1000) (am:b≤c∨b≤2*c) (ab:c≤B) (aj:b≤B) (hT:Cf c≤m) (hk:Gf.length+2≤k) (ac:s0≤9900):Ct AC 150 [pv p.bj,flv f,Z9 Z8 col,flv fin] [C] (Qv p B k a s0 e er G' w col b c n hts ts):=by
 have f1:Ge (⟨1,0,0,0,0⟩:T5)=true:=by decide
 have f2:Ge (⟨2,0,0,0,0⟩:T5)=true:=by decide
 by_cases he:e=0
 ·subst he;obtain⟨q0,q1,q2,q3⟩:=f;obtain rfl:q2=w:=(hF.ok rfl).1;rcases al with⟨rfl,rfl⟩|⟨rfl,rfl⟩|⟨rfl,rfl⟩
  ·exact cF hR hJ q0 q1 3 q3 fin ts hts G' 0 1 _ (fun bf bc=>lk30 bf bc q0 q1 q3) (lk30is q0 q1 q3) rfl f1 oA18 yW oM oM hF ae hP ak (ai rfl) (ah rfl) (ad rfl) (aa rfl) hb ag oM ab aj hT hk ac
  ·exact cF hR hJ q0 q1 3 q3 fin ts hts G' 1 2 _ (fun bf bc=>lk31 bf bc q0 q1 q3) (lk31is q0 q1 q3) rfl f2 oA18 mE oM oM hF ae hP ak (ai rfl) (ah rfl) (ad rfl) (aa rfl) hb ag oM ab aj hT hk ac
  ·exact cF hR hJ q0 q1 2 q3 fin ts hts G' 1 2 _ (fun bf bc=>lk21 bf bc q0 q1 q3) (lk21is q0 q1 q3) rfl f2 oA18 mE oM oM hF ae hP ak (ai rfl) (ah rfl) (ad rfl) (aa rfl) hb ag oM ab aj hT hk ac
 ·rcases al with⟨rfl,rfl⟩|⟨rfl,rfl⟩|⟨rfl,rfl⟩
  ·exact cH hR hJ he f fin ts hts G' 0 3 1 f1 oA18 hF hP hb ab hT hk ac
  ·exact cH hR hJ he f fin ts hts G' 1 3 2 f2 oA18 hF hP hb ab hT hk ac
  ·exact cH hR hJ he f fin ts hts G' 1 2 2 f2 oA18 hF hP hb ab hT hk ac
end
def nmT (i:Nat):T5:=⟨(i:Int),(i:Int),0,0,0⟩
def nmL (n:Nat):List T5:=(List.range n).map nmT
theorem mF (n:Nat):(nmL n).length=n:=by simp[nmL]
theorem yX (n:Nat):nmL (n+1)=nmL n++[nmT n]:=by unfold nmL;rw[List.range_succ,List.map_append];rfl
def Qw (bj b2 b3 n:Nat):Hp:=[[(b2,row [pv bj] 84)],[(b3,row [Z9 Z8 n] 3)]]
structure NucX where
 i:Nat
 W:Wk
 cd:Aa
 ca:Aa
 cs:Aa
 cx:Aa
 cb:Aa
theorem yY (p:Jp) (hp:p.Ok) (J:Jb) (he:J.e=0) (n:Nat) (hn:n≤100000) (b2 b3:Nat) (A T:Nat) (hT:Ac p.size 2 n≤T) (aq:Ou p J T) (hA:n+2≤A) (dr:J.acts+A≤1000000000):Er p J 185 [pv b2,pv b3] (Qw p.bj b2 b3 n) A T none (nmL n) fun f e Hx'=>Hx'=Qw p.bj b2 b3 n∧FB n (Ac p.size 2 n) 2 n e f:=by
 intro W cd ca cs held ph aa hW ac;obtain⟨⟨b1,ds⟩,_⟩:=hW.dev.num;have dt:=ac.used hp hW;have a3:=ac.big hW he aq;have dm:=ac.acts;have b4:=Om p.bw p.bd p.ba p.bs W cd ca cs hW 2 n oM oM oM oM;have du:Ac W.δ.size 2 n≤T:=by rw[ac.size];exact hT
 have hz:=eQ1;have hh:1≤Ad W.δ.size 2:=Bh b1 oM oM;have ad:∀(W':Wk) (ai aj cs':Aa) (f:Fl) (e:Int),Wc p.bd p.ba p.bs W' ai aj cs'→W'.α.gs.Perm W.α.gs→Ev W W' (n+2) (Ac W.δ.size 2 n)→Ap W.live W W'→
   ((e=0∧W'.live.Perm (Az f W.live)∧f.width=2∧f.count=n∧Be W'.δ.disk W.δ.size [f.ext] f (nmL n))∨(e=6∧f=⟨0,0,0,0⟩∧W.δ.fault≠-1∧W'.live.Perm W.live))→
   Wg p W A T none (nmL n) (fun f e Hx'=>Hx'=Qw p.bj b2 b3 n∧FB n (Ac p.size 2 n) 2 n e f)
    (Bp p.bj p.bw 0 ph held.length aa) (.tuple #[flv f,Z9 Z8 e]) (Bp p.bj p.bw 0 ph held.length aa::Ab p.bw p.bd p.ba p.bs::ai::aj::cs'::Qw p.bj b2 b3 n):=by
  intro W' ai aj cs' f e h0 h1 h2 h3 h4;refine⟨f,e,ai,aj,cs',W',_,rfl,rfl,h0,⟨h1,h2.room,h2.size,h2.n,by have:=h2.acts.2;omega,by have:=h2.big;omega,h2.fault,h3,?_⟩,rfl,?_⟩
  ·rcases h4 with⟨a,b,_,_,c⟩|⟨a,b,c,d⟩
   ·exact .inl ⟨a,rfl,b,c⟩
   ·exact .inr ⟨oM,b,d,.inl ⟨a,c⟩⟩
  ·rcases h4 with⟨a,b,c1,c2,c⟩|⟨a,rfl,c,d⟩
   ·exact⟨oM,by rw[c.blk,c1,c2,ac.size];exact AI _,fun _=>⟨c1,c2⟩⟩
   ·exact⟨AU _,AU _,fun h=>by omega⟩
 unfold Bp Qw at ad⊢;refine Ct.introD func185 rfl ntmps185 (nle rfl) fun _=>?_;dsimp only[Cy,AD];repeat(refine sv ?_;intros)
 refine cX b4 ?_;rintro _ _ (⟨dp,bx,first,g,b5,b6,b7,W1,cx,cb,rfl,rfl,b8,b9,e1,e2,e3,e4,e5⟩|⟨cg,_⟩);rotate_left
 ·exact absurd a3 oM
 dsimp only[AA,AB];refine nx ?_;have dq:W1.δ.size=W.δ.size:=by rw[e1]
 repeat(refine sv ?_;intros)
 rename_i bz;refine G.loop (X:=NucX) (fun x=>x.i≤n∧Wc p.bd p.ba p.bs x.W x.cd x.ca x.cs∧Ev W x.W x.i (Ac W.δ.size 2 n)∧Ap W.live W x.W∧x.W.α.gs.Perm (g::W.α.gs)∧Bm first (Ac W.δ.size 2 n) W.live x.W.live∧Dh p.bw bx x.W first (Ac W.δ.size 2 n) 2 n g (nmL x.i) x.cx x.cb)
  (fun x=>[(23,Z9 Z8 x.i),(22,Z9 Z8 n),(4,pv bx),(2,pv bz),(1,pv b3),(0,pv b2)])
  (fun x=>[[(p.bj,row [pv p.bw,Z9 Z8 0,.slice ph held.length aa] 98)],Ab p.bw p.bd p.ba p.bs,x.cd,x.ca,x.cs,[(b2,row [pv p.bj] 84)],[(b3,row [Z9 Z8 n] 3)],x.cx,x.cb,[(bz,row [Z9 Z8 0,Z9 Z8 0,Z9 Z8 0,Z9 Z8 0] 42)]])
  (fun x=>n-x.i) ⟨0,W1,b5,b6,b7,cx,cb⟩ ⟨AU _,b8,b9,fun x _=>by rw[e1],e2,e4,e5⟩ (body:=?_)
 rintro⟨i,W2,a4,a5,a6,a7,a8⟩ ⟨hi,au,ab,ak,av,aw,ax⟩;dsimp only at hi au ab ak av aw ax⊢;have dw:=ab.acts.2;have an:W2.δ.size=W.δ.size:=ab.size;have a9:1≤Ad W2.δ.size 2:=by rw[an];exact hh
 by_cases bc:i<n;rotate_left
 ·obtain rfl:i=n:=by omega
  have ci:=aD p.bw p.bd p.ba p.bs W2 a4 a5 a6 au bx first (Ac W.δ.size 2 i) 2 i g (nmL i) a7 a8 ax W.α.gs av W.live aw oM a9
  repeat(refine sv ?_;intros)
  refine cL ci ?_;rintro _ _ ⟨cj,cm,cu,W4,cv,cw,f,e,rfl,rfl,cz,c5,c6,c7,c8,hr⟩;try dsimp only[AA,AB]
  have c9:flv f= .agg #[Z9 Z8 f.first,Z9 Z8 f.blocks,Z9 Z8 f.width,Z9 Z8 f.count]:=rfl;rw[c9];have hD:=Mt p.bw p.bd p.ba p.bs W4 cj cm cu cz bx first (Ac W.δ.size 2 i) 2 i g W.α.gs W4.live cv cw (.inr ⟨c7,.refl _,c8⟩)
  repeat(refine sv ?_;intros)
  refine Go.SL.Lv.call (hc:=hD) (h:=?_);rintro _ _ ⟨ae,ag,ah,W5,da,db,rfl,ay,az,al,a0,am⟩;try dsimp only[AA,AB]
  have hE:=((ab.trans c5).trans az).weak (k':=i+2) (m':=Ac W.δ.size 2 i) oM oM;have hK:=ak.trans c6;have a1:Ap W.live W W5:=fun x hx=>by rw[al];exact hK x hx
  (refine lN [[(p.bj,row [pv p.bw,Z9 Z8 0,.slice ph held.length aa] 98)],Ab p.bw p.bd p.ba p.bs,ae,ag,ah,[(b2,row [pv p.bj] 84)],[(b3,row [Z9 Z8 i] 3)]] ?_;refine ad W5 ae ag ah f e ay a0 hE a1 ?_);rw[an,mF] at hr;rcases hr with⟨rfl,a2,dc,dd,be⟩|⟨rfl,rfl,de,a2⟩
  ·exact .inl ⟨rfl,am.trans a2,dc,dd,by rw[al];exact be⟩
  ·exact .inr ⟨rfl,rfl,Ki ab de,am.trans a2⟩
 have dx:AL .i64 ((i:Int)+1)=((i+1:Nat):Int):=by rw[Ah oM];omega
 have bf:=aC p.bw p.bd p.ba p.bs W2 a4 a5 a6 au bx first (Ac W.δ.size 2 n) 2 n g _ a7 a8 ax W.α.gs av W.live aw (by rw[mF];exact bc) (nmT i) (Hk (by unfold Av;omega) (by unfold Av;omega)) oM a9
 have df:tv (nmT i)= .agg #[Z9 Z8 i,Z9 Z8 i,Z9 Z8 0,Z9 Z8 0,Z9 Z8 0]:=rfl;rw[df] at bf;repeat(refine sv ?_;intros)
 refine cL bf ?_;rintro _ _ ⟨bg,bh,bi,W3,bk,bp,e,rfl,rfl,bq,dg,bu,dh⟩;try dsimp only[AA,AB]
 have ao:=ab.trans dg;rcases dh with⟨rfl,di,dj,bv⟩|⟨rfl,dk,dl⟩
 ·repeat(refine sv ?_;intros)
  rw[←yX] at bv;exact Dn.round ⟨i+1,W3,bg,bh,bi,bk,bp⟩ ⟨bc,bq,ao.weak (AI _) oM,ak.trans bu,di,dj,bv⟩ oD
 ·have hD:=Mt p.bw p.bd p.ba p.bs W3 bg bh bi bq bx first (Ac W.δ.size 2 n) 2 n g W.α.gs W.live bk bp dl
  repeat(refine sv ?_;intros)
  refine Go.SL.Lv.call (hc:=hD) (h:=?_);rintro _ _ ⟨ae,ag,ah,W5,da,db,rfl,ay,az,al,a0,am⟩;try dsimp only[AA,AB]
  have hE:=(ao.trans az).weak (k':=n+2) (m':=Ac W.δ.size 2 n) oM oM;have hK:=ak.trans bu;have a1:Ap W.live W W5:=fun x hx=>by rw[al];exact hK x hx
  (refine lN [[(p.bj,row [pv p.bw,Z9 Z8 0,.slice ph held.length aa] 98)],Ab p.bw p.bd p.ba p.bs,ae,ag,ah,[(b2,row [pv p.bj] 84)],[(b3,row [Z9 Z8 n] 3)]] ?_;exact ad W5 ae ag ah ⟨0,0,0,0⟩ 6 ay a0 hE a1 (.inr ⟨rfl,rfl,Ki ab dk,am⟩))
theorem yZ {p:Jp} {B m k a s0:Nat} {e:Int} {er:Option Nat} {Gf:List (Fl×List T5)} {C:Aa} (hR:Rm p B m k a) (hJ:Ao p B k a s0 e er Gf C) (n c:Nat) (hn:n≤2*c) (ad:c≤B) (al:n≤1000) (hk:Gf.length+1≤k) (am:s0≤9900):Ct AC 146 [pv p.bj,Z9 Z8 n] [C] fun v H'=>∃f C' e',v=flv f∧H'=[C']∧Ao p B k a (s0+1) e' er ((f,nmL n)::Gf) C'∧FB n c 2 n e' f∧(e'=0→e=0):=by
 have hB:=hR.bs;have an:=hR.acts;have hm:=hR.le;have h2:s0*30000≤10000*30000:=Nat.mul_le_mul oM (AI _);have aa:=nbS (s:=p.size) (w:=2) (n:=n) (c:=c) hR.ok.size.1 oM oM (.inr ⟨oM,hn⟩);have ab:=fun b2 b3=>SRun hR hJ 185 inferInstance [pv b2,pv b3] (Qw p.bj b2 b3 n) (n+2) c 1 none (nmL n) oM oM (b:=n) (c:=c) (w:=2) (n:=n) (fun he x y hx=>by
  subst he;have hS:=yY p hR.ok ⟨0,er,Gf,x,y⟩ rfl n oM b2 b3 (n+2) c aa (hR.fits hJ.len hJ.blk oM _ _ _ _) (AI _) oD;intro W cd ca cs held ph cap h1 h2;refine(hS W cd ca cs held ph cap h1 h2).mono ?_;rintro v H' ⟨f,e,ae,ag,cs',W',ah,a1,a2,a3,a4,a5,a6⟩;exact⟨f,e,ae,ag,cs',W',ah,a1,a2,a3,a4,a5,⟨a6.cnt,A5 a6.blk aa,a6.ok⟩⟩) ad hk
 simp only[Qw,Ms] at ab;have ac:=eQ0;refine cG func146 fun _=>?_;repeat(refine sA ?_;intros)
 refine cX (ab _ _) ?_;rintro _ _ ⟨f1,C1,e1,rfl,rfl,ai,aj,ak⟩;dsimp only[AA,AB];rw[ac];refine nx ?_;repeat(refine sA ?_;intros)
 (refine dP [C1] ?_;exact⟨f1,C1,e1,rfl,rfl,ai,aj,ak⟩)
theorem Ao.perm {p:Jp} {B k a s0:Nat} {e:Int} {er:Option Nat} {Gf Gf':List (Fl×List T5)} {C:Aa} (h:Ao p B k a s0 e er Gf C) (hp:Gf.Perm Gf'):Ao p B k a s0 e er Gf' C:=by obtain⟨⟨W,cd,ca,cs,held,ph,cap,ch,h1,hW,hV,aa⟩,hl,hb⟩:=h;exact⟨⟨W,cd,ca,cs,held,ph,cap,ch,h1,hW,hV,{aa with ok:=fun h=>⟨(aa.ok h).1.trans hp,(aa.ok h).2⟩}⟩,by rw[←hp.length_eq];exact hl,fun x hx=>hb x (hp.mem_iff.2 hx)⟩
theorem Ao.more {p:Jp} {B k a s0 s1:Nat} {e:Int} {er:Option Nat} {Gf:List (Fl×List T5)} {C:Aa} (h:Ao p B k a s0 e er Gf C) (hs:s0≤s1):Ao p B k a s1 e er Gf C:=by have h1:s0*30000≤s1*30000:=BB _ hs;exact⟨h.job.weak rfl rfl rfl oD oD,h.len,h.blk⟩
theorem mG (x y z:Option Nat):(x.or y).or z=x.or (y.or z):=by cases x<;>rfl
theorem mH (t:T5):Pn t=[Pi t]:=by
 unfold Pn Pi;by_cases h1:t.c2=t.c3
 ·by_cases h2:t.c0<t.c1<;>simp[h1,h2]
 ·simp[h1]
def Ig (n:Nat) (l:List T5):Option Nat:=if Ic n l then none else some 3
def Ob (n:Nat) (l:List T5):List T5:=srt (ltO o1) true ((Eo 0 n).all () l)
theorem cI (bn n:Nat):∀(l:List T5) (k:Unit),(Eo bn n).all k l=(Eo 0 n).all k l∧(Eo bn n).bad k l=(Eo 0 n).bad k l
 |[],_=>⟨rfl,rfl⟩
 |t::l,k=>by obtain⟨h1,h2⟩:=cI bn n l ();simp only[Aj.all,Aj.bad];rw[show(Eo bn n).next k t=() from rfl,h1,h2];exact⟨rfl,rfl⟩
theorem mI (n:Nat) (l:List T5):((Eo 0 n).bad () l).or (if(Ob n l).length≠l.length then some 3 else none)=Ig n l:=by
 obtain⟨h1,h2⟩:=mB (bn:=0) (n:=n) (ts:=l) (k:=());unfold Ig;rcases h2 with h2|h2
 ·have h3:=h1.1 h2;rw[h2];have e1:Ob n l=srt (ltO o1) true (l.map fun t=>(⟨t.c0,0,0,0,0⟩:T5)):=by unfold Ob;rw[mA h3]
  have e2:=jA (l.map fun t=>(⟨t.c0,0,0,0,0⟩:T5));rw[←e1,AR,BA] at e2;show(if _ then _ else _)=_;by_cases h:(Ob n l).length=l.length
  ·rw[if_neg oA15,if_pos ⟨h3,e2.1 h⟩]
  ·rw[if_pos h,if_neg fun hh=>h (e2.2 hh.2)]
 ·rw[h2];show some 3=_;rw[if_neg];intro h;rw[h1.2 h.1] at h2;cases h2
section
variable {p:Jp} {B m k a s0:Nat} {e:Int} {er:Option Nat} {Gf:List (Fl×List T5)} {C:Aa}
theorem zB (hR:Rm p B m k a) (hJ:Ao p B k a s0 e er Gf C) (f:Fl) (l:List T5) (hl:In0 p (f,l)) (hw:f.width=3) (n q:Nat) (hq:f.count≤q) (aj:q≤B) (hT:Cf q≤m) (hn:n≤1073741824) (hk:Gf.length+2≤k) (a6:s0≤9900):Ct AC 145 [pv p.bj,Z9 Z8 n,flv f] [C] fun v H'=>∃g C' e',v=flv g∧H'=[C']∧Ao p B k a (s0+3) e' (er.or (Ig n l)) ((g,Jl l)::Gf) C'∧FB q q 3 (Jl l).length e' g∧(e'=0→e=0):=by
 have aa:=eQ0;have ad:=eQ2;have ao:tv o1= .agg #[Z9 Z8 1,Z9 Z8 0,Z9 Z8 0,Z9 Z8 0,Z9 Z8 0]:=rfl;have hB:=hR.bs;obtain⟨aq,ab,au,ah,ai⟩:=Kk hl;dsimp only at aq ab au ah ai;rw[hw] at ab;have a7:f.blocks≤q:=by rw[au];exact A5 (Dl (Bh hR.ok.size.1 ah ai)) hq
 have a8:f.count=l.length:=aq.symm;have av:=fun bn b=>iV hR hJ (Eo bn n) () 1 f.count q 1 oM 183 inferInstance [pv bn] _ (yU bn n) (fun k t _=>mC bn n k t) oM f l oA5 oM
  (fun _=>Aj.oks_of (M:=Eo bn n) (I:=fun _=>True) (Q:=okT 3) (fun _ t _ h=>⟨h,trivial⟩) l () trivial ab) (fun _=>by have:=Aj.all_len (n:=1) (mC bn n) l ();omega) (.inl oM) aj oM oM b
 simp only[ad,chkC_C,(cI _ n l ()).1,(cI _ n l ()).2] at av;rw[aa f];refine cG func145 fun _=>?_;repeat(refine sA ?_;intros)
 repeat(refine sA ?_;intros)
 refine cX (av _ _) ?_;rintro _ _ ⟨f1,C1,e1,k1,rfl,rfl,a3,a4,aw⟩;dsimp only[AA,AB];refine nx ?_;try rw[aa]
 have ax:=Fp hR a3 f1 _ _ o1 rfl true a4 .here oM aj hT oM;rw[aa,ao,show srt (ltO o1) true ((Eo 0 n).all () l)=Ob n l from rfl] at ax;repeat(refine sA ?_;intros)
 refine cX ax ?_;rintro _ _ ⟨f2,C2,e2,rfl,rfl,ay,ak,az⟩;dsimp only[AA,AB];refine nx ?_;try rw[aa]
 have a5:=ak.cnt;have a9:=(Zv (lt:=ltO o1) (once:=true) ((Eo 0 n).all () l))
 have a0:∀{C4:Aa} {e4:Int},Ao p B k a (s0+2) e4 (er.or (Ig n l)) Gf C4→(e4=0→e=0)→∀b,Ct AC 52 [pv p.bj,Z9 Z8 ((3:Nat):Int),Z9 Z8 f.count,.func (.func 184) #[] #[],.slice (some ⟨b,0,none⟩) 1 1] [C4,[(b,row [Z9 Z8 f.first,Z9 Z8 f.blocks,Z9 Z8 f.width,Z9 Z8 f.count] 42)]] (fun v H'=>∃g C' e',v=flv g∧H'=[C',[(b,row [Z9 Z8 f.first,Z9 Z8 f.blocks,Z9 Z8 f.width,Z9 Z8 f.count] 42)]]∧Ao p B k a (s0+3) e' (er.or (Ig n l)) ((g,Jl l)::Gf) C'∧FB f.count q 3 (Jl l).length e' g∧(e'=0→e4=0)):=by
  intro C4 e4 h4 bc b;have h:=Fy hR h4 [] Qt 3 f.count q 1 oM 184 inferInstance [] (okT 3) ckE (fun t _=>by unfold Qt;split<;>simp) oM f l oA5 oM (fun _=>ab)
   (fun _=>by have:=Sf (f:=Qt) (n:=1) l (fun t _=>by unfold Qt;split<;>simp);omega) (.inl oM) aj oM oM b
  simp only[ad] at h;exact h
 by_cases be:f2.count=f.count
 ·have ag:=ay.orE (if(Ob n l).length≠l.length then some 3 else none) (fun h=>by
   have h1:=(ak.ok h).2;rw[if_neg oM])
  rw[mG,mI] at ag;have ae:=fun b=>Ia hR ag [(f2,Ob n l)] Gf (.cons .here .nil) oA19 _ 1 _ (Mr b f2);simp only[ad,AZ,CG,AA,AB] at ae;repeat(refine sA ?_;intros)
  refine cX (ae _) ?_;rintro _ _ ⟨C4,rfl,rfl,al⟩;dsimp only[AA,AB];refine nx ?_;repeat(refine sA ?_;intros)
  refine cX (a0 al (fun h=>(aw (az h)).1) _) ?_;rintro _ _ ⟨f5,C5,e5,rfl,rfl,am,ac,an⟩;dsimp only[AA,AB];refine nx ?_;try rw[aa]
  repeat(refine sA ?_;intros)
  (refine dP [C5] ?_;exact⟨f5,C5,e5,rfl,rfl,am,⟨A5 ac.cnt hq,ac.blk,ac.ok⟩,fun h=>(aw (az (an h))).1⟩)
 ·have a1:=SFail ay 3 oA18 oA18 (if(Ob n l).length≠l.length then some 3 else none) (fun h=>by
   have h1:=(ak.ok h).2;rw[if_pos oM])
  rw[mG,mI] at a1;repeat(refine sA ?_;intros)
  refine cX a1 ?_;rintro _ _ ⟨e3,C3,rfl,rfl,ag,a2⟩;dsimp only[AA,AB];refine nx ?_;have ae:=fun b=>Ia hR ag [(f2,Ob n l)] Gf (.cons .here .nil) oA19 _ 1 _ (Mr b f2);simp only[ad,AZ,CG,AA,AB] at ae;repeat(refine sA ?_;intros)
  refine cX (ae _) ?_;rintro _ _ ⟨C4,rfl,rfl,al⟩;dsimp only[AA,AB];refine nx ?_;repeat(refine sA ?_;intros)
  refine cX (a0 al (fun h=>absurd h a2) _) ?_;rintro _ _ ⟨f5,C5,e5,rfl,rfl,am,ac,an⟩;dsimp only[AA,AB];refine nx ?_;try rw[aa]
  repeat(refine sA ?_;intros)
  (refine dP [C5] ?_;exact⟨f5,C5,e5,rfl,rfl,am,⟨A5 ac.cnt hq,ac.blk,ac.ok⟩,fun h=>absurd (an h) a2⟩)
theorem Xl {E:List T5} (h:∀t∈E,okT 3 t):∀z∈Al E,okT 3 z:=fun z hz=>by
 obtain⟨t,ht,rfl|rfl⟩:=Sw hz
 ·exact h _ ht
 ·have:=Dp (h t ht);exact Iv this.2.1 this.1 this.2.2.1
theorem zC (E:List T5):(Al E).length≤2*E.length:=by unfold Al;refine A5 (Xg _ _) ?_;rw[(Bs _).length_eq,bV];exact AI _
theorem zD (hR:Rm p B m k a) (f:Fl) (E:List T5) (hJ:Ao p B k a s0 e er ((f,E)::Gf) C) (q:Nat) (hF:FB q q 3 E.length e f) (au:e=0→EOk E) (bc:2*q≤B) (hT:Cf q≤m) (hk:Gf.length+6≤k) (cw:s0≤9900):Ct AC 147 [pv p.bj,flv f] [C] fun v H'=>∃g h C' e',v= .tuple #[flv g,flv h]∧H'=[C']∧Ao p B k a (s0+8) e' er ((h,Ie E)::(g,Al E)::(f,E)::Gf) C'∧FB (2*q) q 3 (Al E).length e' g∧FB (2*q) q 2 (Ie E).length e' h∧(e'=0→e=0):=by
 have aa:=eQ0;have ab:=eQ2;have av:tv o1= .agg #[Z9 Z8 1,Z9 Z8 0,Z9 Z8 0,Z9 Z8 0,Z9 Z8 0]:=rfl;have aw:tv oB= .agg #[Z9 Z8 2,Z9 Z8 0,Z9 Z8 0,Z9 Z8 0,Z9 Z8 0]:=rfl;have ax:tv oAC= .agg #[Z9 Z8 1,Z9 Z8 3,Z9 Z8 0,Z9 Z8 0,Z9 Z8 0]:=rfl;have hB:=hR.bs;have cz:=hF.cnt;have c5:=hF.blk;have c6:AL .i64 ((2:Int)*(f.count:Int))=((2*f.count:Nat):Int):=by rw[Ah oM];omega
 have ag:=fun b=>Fy hR hJ [] Qu 3 (2*f.count) q 2 oM 186 inferInstance [] (okT 3) hkB (fun t _=>AI _) oM f E oA5 oM (fun h=>(au h).ok)
  (fun h=>by rw[show E.flatMap Qu=It E from rfl,bV,(hF.ok h).2];exact AI _) (.inr ⟨oM,oM⟩) oM oA12 oM b
 simp only[ab] at ag;rw[show E.flatMap Qu=It E from rfl] at ag;rw[aa f];refine cG func147 fun _=>?_;repeat(refine sA ?_;intros)
 repeat(refine sA ?_;intros)
 refine cX (ag _) ?_;rintro _ _ ⟨f1,C1,e1,rfl,rfl,be,bf,ay⟩;dsimp only[AA,AB];refine nx ?_;try rw[aa]
 have az:=Fp hR be f1 _ _ oAC rfl false bf .here oM oM hT oM;rw[aa,ax] at az;repeat(refine sA ?_;intros)
 refine cX az ?_;rintro _ _ ⟨f2,C2,e2,rfl,rfl,bg,ah,a0⟩;dsimp only[AA,AB];refine nx ?_;try rw[aa]
 have b9:=ah.cnt;have cg:=ah.blk;have ai:e2=0→EOk E:=fun h=>au (ay (a0 h));have aj:=fun bl b=>Wl hR bg (Nw bl) (fun _ _=>rfl) (-1) 3 f2.count q 1 oM 187 inferInstance [pv bl] _ (fst_mk bl) (fun k t _=>by show(if _ then _ else _:List T5).length≤1;split<;>simp) oM f2 _ oA5 oM
  (fun h=>Aj.oks_of (M:=Nw bl) (I:=fun _=>True) (Q:=okT 3) (fun _ t _ h=>⟨h,trivial⟩) _ (-1) trivial (fun t ht=>by
   obtain⟨u,hu,rfl|rfl⟩:=Me.1 (Io ht)
   ·exact(ai h).ok _ hu
   ·have:=Dp ((ai h).ok u hu);exact Iv this.2.1 this.1 this.2.2.1))
  (fun h=>by rw[cD];have:=Xg (-1) (srt (ltO oAC) false (It E));have:=(ah.ok h).2;omega) (.inr ⟨oM,oM⟩) oM oA12 oM b
 simp only[ab,fstM_C,cD] at aj;rw[show Iu (-1) (srt (ltO oAC) false (It E))=Al E from rfl] at aj;repeat(refine sA ?_;intros)
 refine cX (aj _ _) ?_;rintro _ _ ⟨f3,C3,e3,k3,rfl,rfl,bh,ac,a1⟩;dsimp only[AA,AB];refine nx ?_;try rw[aa]
 have ci:=ac.cnt;have a2:=ac.blk;have ak:e3=0→EOk E:=fun h=>ai (a1 h).1;have al:=fun b=>Fy hR bh [] hkSF 3 f3.count q 1 oM 188 inferInstance [] (okT 3) hkS (fun t _=>AI _) oM f3 (Al E) oA5 oM (fun h=>Xl (ak h).ok)
  (fun h=>by rw[El (f:=hkSF) (g:=fun t=>t) (fun _=>rfl),AR,(ac.ok h).2];exact AI _) (.inr ⟨oM,oM⟩) oM oA12 oM b
 simp only[ab] at al;rw[El (f:=hkSF) (g:=fun t=>t) (fun _=>rfl),Tu] at al;repeat(refine sA ?_;intros)
 refine cX (al _) ?_;rintro _ _ ⟨f4,C4,e4,rfl,rfl,bi,bk,bp⟩;dsimp only[AA,AB];refine nx ?_;try rw[aa]
 have a3:=Fp hR bi f4 _ _ oB rfl false bk .here oM oM hT oM;rw[aa,aw] at a3;repeat(refine sA ?_;intros)
 refine cX a3 ?_;rintro _ _ ⟨f5,C5,e5,rfl,rfl,bq,am,bu⟩;dsimp only[AA,AB];refine nx ?_;try rw[aa]
 have cj:=am.cnt;have cm:=am.blk;have ad:e5=0→e3=0:=fun h=>bp (bu h);have a4:=fun b8 b4 b5=>Kl hR bq 189 inferInstance f5 f3 (srt (ltO oB) false (Al E)) (Al E) 1 2 3 4 (2*q) oA5 oA5 (lkHook p f5 f3 b8 b4 b5) am (ac.mono ad) oM oM oM oM oM oM
  (fun _=>bT _) (fun h=>(ak (ad h)).cho.1) (.inl oM) bc oA12 oM
 simp only[Cu,ab] at a4;repeat(refine sA ?_;intros)
 refine cX (a4 _ _ _) ?_;rintro _ _ ⟨f6,C6,e6,rfl,rfl,a5,a6,an⟩;dsimp only[AA,AB];refine nx ?_;try rw[aa]
 rw[show(srt (ltO oB) false (Al E)).map (Bf (Al E) 1 2 3)=Nv E from rfl] at a5;have cu:=a6.cnt;have cv:=a6.blk;have a7:e6=0→EOk E:=fun h=>ak (ad (an h));have bv:(Nv E).length=(Al E).length:=by unfold Nv;rw[AR,(Bs _).length_eq]
 have ao:=fun b=>Fy hR a5 [] Pn 2 f3.count q 1 oM 190 inferInstance [] (okT 4) hkH (fun t _=>by unfold Pn;split<;>(try split)<;>simp) oM f6 (Nv E) oA5 oM
  (fun h z hz=>by
   unfold Nv at hz;obtain⟨u,hu,rfl⟩:=AN.1 hz;exact Ly (Xl (a7 h).ok) 1 2 3 oM (Xl (a7 h).ok u (Io hu)))
  (fun h=>by rw[El (g:=Pi) mH,AR,bv,(ac.ok (ad (an h))).2];exact AI _) (.inr ⟨oM,oM⟩) oM oA12 oM b
 simp only[ab] at ao;rw[El (g:=Pi) mH] at ao;repeat(refine sA ?_;intros)
 refine cX (ao _) ?_;rintro _ _ ⟨f7,C7,e7,rfl,rfl,bz,b1,b2⟩;dsimp only[AA,AB];refine nx ?_;try rw[aa]
 have a8:=Fp hR bz f7 _ _ o1 rfl false b1 .here oM oM hT oM;rw[aa,av,show srt (ltO o1) false ((Nv E).map Pi)=Ie E from rfl] at a8;repeat(refine sA ?_;intros)
 refine cX a8 ?_;rintro _ _ ⟨f8,C8,e8,rfl,rfl,b3,aq,b6⟩;dsimp only[AA,AB];refine nx ?_;try rw[aa]
 have a9:=fun b=>Ia hR b3 [(f2,srt (ltO oAC) false (It E)),(f5,srt (ltO oB) false (Al E)),(f6,Nv E)] ((f8,Ie E)::(f3,Al E)::(f,E)::Gf) (.cons (.there (.there (.there (.there .here)))) (.cons (.there (.there .here)) (.cons (.there .here) .nil))) oA19 _ 3 _ (vec3 b f2 f5 f6);simp only[ab,AZ,CG,AA,AB] at a9;repeat(refine sA ?_;intros)
 refine cX (a9 _) ?_;rintro _ _ ⟨C9,rfl,rfl,b7⟩;dsimp only[AA,AB];refine nx ?_;repeat(refine sA ?_;intros)
 have ae:e8=0→e3=0:=fun h=>ad (an (b2 (b6 h)));(refine dP [C9] ?_;exact⟨f3,f8,C9,e8,rfl,rfl,b7,⟨oM,a2,fun h=>ac.ok (ae h)⟩,⟨by have:=aq.cnt;omega,aq.blk,aq.ok⟩,fun h=>ay (a0 (a1 (ae h)).1)⟩)
end
section
variable {p:Jp} {B m k a s0:Nat} {e:Int} {er:Option Nat} {Gf:List (Fl×List T5)} {C:Aa}
theorem zE (hR:Rm p B m k a) (ff fc:Fl) (Fo ch:List T5) (hJ:Ao p B k a s0 e er ((ff,Fo)::(fc,ch)::Gf) C) (q:Nat) (hF:FB (2*q) q 1 Fo.length e ff) (ah:FB (2*q) q 3 ch.length e fc) (an:e=0→Fo.length+ch.length≤2*q) (ao:e=0→∀t∈Fo,okT 1 t) (aq:e=0→∀t∈ch,okT 3 t) (aw:2*q≤B) (hk:Gf.length+4≤k) (a0:s0≤9900):Ct AC 148 [pv p.bj,flv ff,flv fc] [C] fun v H'=>∃g C' e',v=flv g∧H'=[C']∧Ao p B k a (s0+2) e' er ((g,Fo++ch.map fun t=>⟨t.c2,0,0,0,0⟩)::(fc,ch)::Gf) C'∧FB (2*q) q 1 (Fo++ch.map fun t=>(⟨t.c2,0,0,0,0⟩:T5)).length e' g∧(e'=0→e=0):=by
 have ab:=eQ0;have ac:=eQ2;have hz:=eQ1;have hB:=hR.bs;have h1:=hF.cnt;have h2:=hF.blk;have h3:=ah.cnt;have h4:=ah.blk;have ai:=fun b=>Fy hR hJ [] jn1F 1 fc.count (2*q) 1 oM 191 inferInstance [] (okT 3) jn1 (fun t _=>AI _) oM fc ch oA5 oM aq
  (fun h=>by rw[El (f:=jn1F) (g:=fun t=>⟨t.c2,0,0,0,0⟩) (fun _=>rfl),AR,(ah.ok h).2];exact AI _) (.inl oM) aw oA12 oM b
 simp only[ac] at ai;rw[El (f:=jn1F) (g:=fun t=>⟨t.c2,0,0,0,0⟩) (fun _=>rfl)] at ai;rw[ab ff,ab fc];refine cG func148 fun _=>?_;repeat(refine sA ?_;intros)
 repeat(refine sA ?_;intros)
 refine cX (ai _) ?_;rintro _ _ ⟨f1,C1,e1,rfl,rfl,au,aj,ad⟩;dsimp only[AA,AB];refine nx ?_;try rw[ab]
 have ay:=aj.cnt;have az:=aj.blk;have a1:AL .i64 ((ff.count:Int)+(f1.count:Int))=((ff.count+f1.count:Nat):Int):=by rw[Ah oM];omega
 by_cases aa:e1=0
 ·obtain⟨_,q1⟩:=hF.ok (ad aa);obtain⟨_,q2⟩:=aj.ok aa;rw[AR] at q2;have an:=an (ad aa);have ag:=fun b=>SMap2 hR au (fun t=>t) 1 (ff.count+f1.count) q oM 192 inferInstance (okT 1) jn2 (fun t h=>h) ff f1 Fo (ch.map fun t=>⟨t.c2,0,0,0,0⟩) oA5 oA5 oM oM
   (fun h t ht=>by
    rcases List.mem_append.1 ht with ht|ht
    ·exact ao (ad aa) t ht
    ·obtain⟨u,hu,rfl⟩:=AN.1 ht;exact Ov (Dp (aq (ad aa) u hu)).2.2.1)
   (fun h=>by rw[AR];omega) (.inr ⟨oM,oM⟩) oM oA12 oM b
  simp only[ac,Tu,AA,AB] at ag;repeat(refine sA ?_;intros)
  refine cX (ag _) ?_;rintro _ _ ⟨f2,C2,e2,rfl,rfl,ak,al,ax⟩;dsimp only[AA,AB];refine nx ?_;try rw[ab]
  have ae:=fun b=>Ia hR ak [(ff,Fo),(f1,ch.map fun t=>⟨t.c2,0,0,0,0⟩)] ((f2,Fo++ch.map fun t=>⟨t.c2,0,0,0,0⟩)::(fc,ch)::Gf) (.cons (.there (.there .here)) (.cons (.there .here) .nil)) oA19 _ 2 _ (Nq b ff f1);simp only[ac,AZ,CG,AA,AB] at ae;repeat(refine sA ?_;intros)
  refine cX (ae _) ?_;rintro _ _ ⟨C3,rfl,rfl,am⟩;dsimp only[AA,AB];refine nx ?_;repeat(refine sA ?_;intros)
  have av:FB (2*q) q 1 (Fo++ch.map fun t=>(⟨t.c2,0,0,0,0⟩:T5)).length e2 f2:=by have h5:=al.cnt;rw[AH];exact⟨oM,al.blk,fun h=>by have:=al.ok h;rwa[AR] at this⊢⟩
  (refine dP [C3] ?_;exact⟨f2,C3,e2,rfl,rfl,am,av,fun h=>ad (ax h)⟩)
 ·have ag:=fun x1 x2 x3 x4=>lK au aa (Fo++ch.map fun t=>(⟨t.c2,0,0,0,0⟩:T5)) (by simp only[AJ];omega) x1 x2 x3 x4;repeat(refine sA ?_;intros)
  refine cX (ag _ _ _ _) ?_;rintro _ _ ⟨C2,rfl,rfl,ak⟩;dsimp only[AA,AB];rw[hz];refine nx ?_;have ae:=fun b=>Ia hR ak [(ff,Fo),(f1,ch.map fun t=>⟨t.c2,0,0,0,0⟩)] ((⟨0,0,0,0⟩,Fo++ch.map fun t=>⟨t.c2,0,0,0,0⟩)::(fc,ch)::Gf) (.cons (.there (.there .here)) (.cons (.there .here) .nil)) oA19 _ 2 _ (Nq b ff f1);simp only[ac,AZ,CG,AA,AB] at ae;repeat(refine sA ?_;intros)
  refine cX (ae _) ?_;rintro _ _ ⟨C3,rfl,rfl,am⟩;dsimp only[AA,AB];refine nx ?_;repeat(refine sA ?_;intros)
  (refine dP [C3] ?_;exact⟨⟨0,0,0,0⟩,C3,e1,rfl,rfl,am,⟨AU _,AU _,fun h=>absurd h aa⟩,fun h=>absurd h aa⟩)
theorem zF (h:List T5):(Kb h).length=h.length:=by unfold Kb;rw[AR,(Bs _).length_eq]
theorem zG (b:Nat):∀(ts:List T5) (k:Bool),(∀t∈ts,okT 3 t)→(Nx b).oks (fun _ t=>okT 3 t) k ts:=fun ts k h=>Aj.oks_of (M:=Nx b) (I:=fun _=>True) (Q:=okT 3) (fun _ t _ h=>⟨h,trivial⟩) ts k trivial h
structure RtcX where
 e:Int
 C:Aa
 f:Fl
 h:List T5
 j:Nat
 o:Bool
 b:Nat
theorem zH (hR:Rm p B m k a) (f:Fl) (H:List T5) (hJ:Ao p B k a s0 e er ((f,H)::Gf) C) (q:Nat) (hF:FB (2*q) q 2 H.length e f) (a5:e=0→∀j,(∀t∈Dj H j,okT 2 t)∧(Dj H j).Pairwise fun a c=>a.c0<c.c0) (an:e=0→∀j,9≤j→Pj (Dj H j)=false) (bz:2*q≤B) (hT:Cf q≤m) (hk:Gf.length+4≤k) (b1:s0≤9900):Ct AC 149 [pv p.bj,flv f] [C] fun v H'=>∃g h C' e',v=flv g∧H'=[C']∧Ao p B k a (s0+50) e' er ((g,h)::Gf) C'∧FB (2*q) q 2 h.length e' g∧(e'=0→e=0∧∃j,h=Dj H (j+1)∧Pj (Dj H j)=false):=by
 have aa:=eQ0;have ac:=eQ2;have ao:tv o1= .agg #[Z9 Z8 1,Z9 Z8 0,Z9 Z8 0,Z9 Z8 0,Z9 Z8 0]:=rfl;have aq:tv oB= .agg #[Z9 Z8 2,Z9 Z8 0,Z9 Z8 0,Z9 Z8 0,Z9 Z8 0]:=rfl;have hB:=hR.bs;rw[aa f];refine cG func149 fun _=>?_;repeat(refine sA ?_;intros)
 rename_i b2 b3 b4 b5;refine G.loop (X:=RtcX) (fun x=>Ao p B k a (s0+5*x.j) x.e er ((x.f,x.h)::Gf) x.C∧FB (2*q) q 2 x.h.length x.e x.f∧(x.e=0→e=0∧x.h=Dj H x.j)∧x.j≤10∧(x.e=0→0<x.j→Pj (Dj H (x.j-1))=x.o)∧(x.j=0→x.o=true))
  (fun x=>[(5,pv x.b),(4,pv b4),(3,pv b3),(2,pv b2)])
  (fun x=>[x.C,[(b2,row [pv p.bj] 84)],[(b3,row [Z9 Z8 x.f.first,Z9 Z8 x.f.blocks,Z9 Z8 x.f.width,Z9 Z8 x.f.count] 42)],[(b4,row [Z9 Z8 0,Z9 Z8 0,Z9 Z8 0,Z9 Z8 0] 42)],[(x.b,row [.bool x.o] 4)]])
  (fun x=>11-x.j) ⟨e,C,f,H,0,true,b5⟩ ⟨hJ,hF,fun h=>⟨h,rfl⟩,oD,fun _ h=>absurd h (Nat.lt_irrefl 0),fun _=>rfl⟩ (body:=?_)
 rintro⟨e0,C0,f0,h,j,o,b5⟩ ⟨ae,ab,ag,hj,ah,au⟩;dsimp only at ae ab ag hj ah au⊢;cases o with
 |false=>
  have av:0<j:=by
   rcases Nat.eq_zero_or_pos j with h|h
   ·exact absurd (au h) oA18
   ·exact h
  repeat(refine sA ?_;intros)
  (refine dP [C0] ?_;exact⟨f0,h,C0,e0,rfl,rfl,ae.more oM,ab,fun hh=>⟨(ag hh).1,j-1,by rw[show j-1+1=j by omega];exact(ag hh).2,ah hh av⟩⟩)
 |true=>
 obtain⟨ph,nh,pc,rest,ad⟩:=ae.row;by_cases aw:e0=0;rotate_left
 ·refine G.open ad (by(repeat(first|exact Ae.here|apply Ae.there))) ?_;repeat(refine sA ?_;intros)
  refine Dn.close ad (by(repeat(first|exact Ae.here|apply Ae.there))) (by(repeat(first|exact Ae.here|apply Ae.there))) ?_;(refine dP [C0] ?_;exact⟨f0,h,C0,e0,rfl,rfl,ae.more oM,ab,fun hh=>absurd hh aw⟩)
 subst aw;obtain⟨he,rfl⟩:=ag rfl;have b6:j≤9:=by
  rcases Nat.lt_or_ge 9 j with h1|h1
  ·have h2:=an he (j-1) oM;rw[ah rfl oM] at h2;cases h2
  ·exact h1
 obtain⟨ai,a6⟩:=a5 he j;have ax:=ab.cnt;have bk:=ab.blk;have ay:∀z∈Kb (Dj H j),okT 3 z:=fun z hz=>by unfold Kb at hz;obtain⟨u,hu,rfl⟩:=AN.1 hz;exact Ly ai 1 1 2 oM (ai u (Io hu))
 have aj:=fun b=>Fy hR ae [] rtSF 2 f0.count q 1 oM 193 inferInstance [] (okT 2) rtS (fun t _=>AI _) oM f0 (Dj H j) oA5 oM (fun _=>ai)
  (fun h=>by rw[El (f:=rtSF) (g:=fun t=>t) (fun _=>rfl),AR,(ab.ok h).2];exact AI _) (.inr ⟨oM,oM⟩) oM oA12 oM b
 simp only[ac] at aj;rw[El (f:=rtSF) (g:=fun t=>t) (fun _=>rfl),Tu] at aj;refine G.open ad (by(repeat(first|exact Ae.here|apply Ae.there))) ?_;repeat(refine sA ?_;intros)
 refine R1.close ad (by(repeat(first|exact Ae.here|apply Ae.there))) (by(repeat(first|exact Ae.here|apply Ae.there))) ?_;repeat(refine sA ?_;intros)
 refine cX (aj _) ?_;rintro _ _ ⟨f1,C1,e1,rfl,rfl,a7,a8,b7⟩;dsimp only[AA,AB];refine nx ?_;try rw[aa]
 have az:=Fp hR a7 f1 _ _ oB rfl false a8 .here oM oM hT oM;rw[aa,aq] at az;repeat(refine sA ?_;intros)
 refine cX az ?_;rintro _ _ ⟨f2,C2,e2,rfl,rfl,a9,ak,cg⟩;dsimp only[AA,AB];refine nx ?_;try rw[aa]
 have bp:=ak.cnt;have bq:=ak.blk;have a0:=fun b8 b4 b5=>Kl hR a9 194 inferInstance f2 f0 (srt (ltO oB) false (Dj H j)) (Dj H j) 1 1 2 3 q oA5 oA5 (yV p f2 f0 b8 b4 b5) ak (ab.mono fun _=>rfl) oM oM oM oM oM oM
  (fun _=>bT _) (fun h=>a6) (.inr ⟨oM,oM⟩) oM oA12 oM
 simp only[Cu,ac] at a0;repeat(refine sA ?_;intros)
 refine cX (a0 _ _ _) ?_;rintro _ _ ⟨f3,C3,e3,rfl,rfl,a1,a2,ci⟩;dsimp only[AA,AB];refine nx ?_;try rw[aa]
 rw[show(srt (ltO oB) false (Dj H j)).map (Bf (Dj H j) 1 1 2)=Kb (Dj H j) from rfl] at a1;have bu:=a2.cnt;have bv:=a2.blk;have al:=fun bt b=>Wl hR a1 (Nx bt) (fun _ _=>rfl) false 2 f0.count q 1 oM 195 inferInstance [pv bt] _ (trn_mk bt) (fun k t _=>AI _) oM f3 (Kb (Dj H j)) oA5 oM
  (fun h=>zG bt _ _ ay) (fun h=>by rw[cE,AR,zF,(ab.ok rfl).2];exact AI _) (.inr ⟨oM,oM⟩) oM oA12 oM b
 simp only[ac,trnM_C,cE,mD,Bool.false_or] at al;rw[show((Kb (Dj H j)).any fun t=>decide (t.c1≠t.c2))=Pj (Dj H j) from rfl] at al;repeat(refine sA ?_;intros)
 refine cX (al _ _) ?_;rintro _ _ ⟨f4,C4,e4,k4,rfl,rfl,bc,be,bf⟩;dsimp only[AA,AB];refine nx ?_;try rw[aa]
 have a3:=Fp hR bc f4 _ _ o1 rfl false be .here oM oM hT oM;rw[aa,ao,show srt (ltO o1) false ((Kb (Dj H j)).map fun t=>(⟨t.c0,t.c2,0,0,0⟩:T5))=Dj H (j+1) from rfl] at a3;repeat(refine sA ?_;intros)
 refine cX a3 ?_;rintro _ _ ⟨f5,C5,e5,rfl,rfl,bg,am,bh⟩;dsimp only[AA,AB];refine nx ?_;try rw[aa]
 have a4:=fun b=>Ia hR bg [(f2,srt (ltO oB) false (Dj H j)),(f3,Kb (Dj H j)),(f0,Dj H j)] ((f5,Dj H (j+1))::Gf) (.cons (.there (.there .here)) (.cons (.there .here) (.cons (.there .here) .nil))) oA19 _ 3 _ (vec3 b f2 f3 f0);simp only[ac,AZ,CG,AA,AB] at a4;repeat(refine sA ?_;intros)
 refine cX (a4 _) ?_;rintro _ _ ⟨C6,rfl,rfl,bi⟩;dsimp only[AA,AB];refine nx ?_;repeat(refine sA ?_;intros)
 rename_i b9;exact Dn.round ⟨e5,C6,f5,Dj H (j+1),j+1,k4,b9⟩ ⟨bi.more (s1:=s0+5*(j+1)) oM,⟨A5 am.cnt ax,am.blk,am.ok⟩,fun h=>⟨he,rfl⟩,oD,fun h _=>(bf (bh h)).2.symm,fun h=>by dsimp only at h;omega⟩ oD
end
section
variable {p:Jp} {B m k a s0:Nat} {e:Int} {er:Option Nat} {Gf:List (Fl×List T5)} {C:Aa}
theorem zI (hR:Rm p B m k a) (f:Fl) (La:List T5) (hJ:Ao p B k a s0 e er ((f,La)::Gf) C) (q n:Nat) (hF:FB q q 2 n e f) (ag:e=0→∀t∈La,okT 2 t) (hn:e=0→La.length=n) (bg:2*q≤B) (hT:Cf q≤m) (hk:Gf.length+4≤k) (bh:s0≤9890):Ct AC 152 [pv p.bj,flv f] [C] fun v H'=>∃g C' e',v=flv g∧H'=[C']∧Ao p B k a (s0+7) e' er ((g,labF La)::Gf) C'∧FB q q 2 n e' g∧(e'=0→e=0):=by
 have aa:=eQ0;have ad:=eQ2;have ae:tv o1= .agg #[Z9 Z8 1,Z9 Z8 0,Z9 Z8 0,Z9 Z8 0,Z9 Z8 0]:=rfl;have ak:tv o12= .agg #[Z9 Z8 1,Z9 Z8 2,Z9 Z8 0,Z9 Z8 0,Z9 Z8 0]:=rfl;have hB:=hR.bs;have bi:=hF.cnt;have bk:=hF.blk;have ah:=fun b=>Fy hR hJ [] ls1F 2 f.count q 1 oM 198 inferInstance [] (okT 2) ls1 (fun t _=>AI _) oM f La oA5 oM ag
  (fun h=>by rw[El (f:=ls1F) (g:=fun t=>⟨t.c1,t.c0,0,0,0⟩) (fun _=>rfl),AR,(hF.ok h).2,hn h];exact AI _) (.inl oM) oM oA12 oM b
 simp only[ad] at ah;rw[El (f:=ls1F) (g:=fun t=>⟨t.c1,t.c0,0,0,0⟩) (fun _=>rfl)] at ah;rw[aa f];refine cG func152 fun _=>?_;repeat(refine sA ?_;intros)
 repeat(refine sA ?_;intros)
 refine cX (ah _) ?_;rintro _ _ ⟨f1,C1,e1,rfl,rfl,aw,ax,ay⟩;dsimp only[AA,AB];refine nx ?_;try rw[aa]
 have al:=Fp hR aw f1 _ _ o12 rfl false ax .here oM oM hT oM;rw[aa,ak] at al;repeat(refine sA ?_;intros)
 refine cX al ?_;rintro _ _ ⟨f2,C2,e2,rfl,rfl,az,am,a0⟩;dsimp only[AA,AB];refine nx ?_;try rw[aa]
 have bc:=am.cnt;have an:=Fp hR az f2 _ _ o1 rfl true am .here oM oM hT oM;rw[aa,ae,show srt (ltO o1) true (srt (ltO o12) false (La.map fun t=>(⟨t.c1,t.c0,0,0,0⟩:T5)))=Mf La from rfl] at an;repeat(refine sA ?_;intros)
 refine cX an ?_;rintro _ _ ⟨f3,C3,e3,rfl,rfl,a1,ai,a2⟩;dsimp only[AA,AB];refine nx ?_;try rw[aa]
 have be:=ai.cnt;have bf:=ai.blk;have ab:e3=0→e=0:=fun h=>ay (a0 (a2 h));have a3:e3=0→∀t∈Mf La,okT 2 t:=fun h t ht=>by obtain⟨u,hu,rfl⟩:=AN.1 (Io (Io ht));have:=Dp (ag (ab h) u hu);exact Hk this.2.1 this.1
 have aj:=Xk hR a1 f f3 La (Mf La) ((f3,Mf La)::Gf) 1 2 oM (hF.mono ab) ai (.there .here) AE (fun h=>ag (ab h)) (fun h=>hn (ab h)) a3 (fun _=>Ox _) oM oM (.inl oM) oM oM hT oA12 oM;unfold Qv at aj;rw[aa f,aa f3] at aj;repeat(refine sA ?_;intros)
 refine cX aj ?_;rintro _ _ ⟨f4,C4,e4,rfl,rfl,a4,a5,a6⟩;dsimp only[AA,AB];rw[aa];refine nx ?_;have ao:=Fp hR a4 f4 _ _ o1 rfl false a5 .here oM oM hT oM;rw[aa,ae,show srt (ltO o1) false (Du 2 1 (Mf La) La)=labF La from rfl] at ao;repeat(refine sA ?_;intros)
 refine cX ao ?_;rintro _ _ ⟨f5,C5,e5,rfl,rfl,a7,ac,a8⟩;dsimp only[AA,AB];refine nx ?_;try rw[aa]
 have aq:=fun b=>Ia hR a7 [(f3,Mf La)] ((f5,labF La)::Gf) (.cons (.there .here) .nil) oA19 _ 1 _ (Mr b f3);simp only[ad,AZ,CG,AA,AB] at aq;repeat(refine sA ?_;intros)
 refine cX (aq _) ?_;rintro _ _ ⟨C6,rfl,rfl,a9⟩;dsimp only[AA,AB];refine nx ?_;repeat(refine sA ?_;intros)
 have au:(labF La).length=La.length:=by unfold labF Du;rw[(Bs _).length_eq,AR,AR,(Bs _).length_eq]
 have av:e5=0→e=0:=fun h=>ab (a6 (a8 h));(refine dP [C6] ?_;exact⟨f5,C6,e5,rfl,rfl,a9,⟨ac.cnt,ac.blk,fun h=>⟨(ac.ok h).1,by rw[(ac.ok h).2,au,hn (av h)]⟩⟩,av⟩)
theorem zJ (hR:Rm p B m k a) (ff fe:Fl) (Fo l:List T5) (hJ:Ao p B k a s0 e er ((ff,srt (ltO o1) true Fo)::Gf) C) (hl:In0 p (fe,l)) (hw:fe.width=3) (q:Nat) (hF:FB (2*q) q 1 (srt (ltO o1) true Fo).length e ff) (hq:fe.count≤q) (bg:e=0→∀t∈Fo,okT 1 t) (hs:e=0→(slS l).Pairwise fun a c=>a.c0<c.c0) (be:2*q≤B) (hT:Cf q≤m) (hk:Gf.length+4≤k) (bf:s0≤9890):Ct AC 153 [pv p.bj,flv ff,flv fe] [C] fun v H'=>∃g C' e',v=flv g∧H'=[C']∧Ao p B k a (s0+4) e' er ((g,treF Fo l)::Gf) C'∧FB (2*q) q 3 (treF Fo l).length e' g∧(e'=0→e=0):=by
 have aa:=eQ0;have ac:=eQ2;have am:tv o1= .agg #[Z9 Z8 1,Z9 Z8 0,Z9 Z8 0,Z9 Z8 0,Z9 Z8 0]:=rfl;have hB:=hR.bs;have bh:=hF.cnt;have bi:=hF.blk;obtain⟨ax,ab,an,ag,ah⟩:=Kk hl;dsimp only at ax ab an ag ah;rw[hw] at ab;have bk:fe.blocks≤q:=by rw[an];exact A5 (Dl (Bh hR.ok.size.1 ag ah)) hq
 have ai:=fun b=>Fy hR hJ [] nm1F 3 fe.count q 1 oM 199 inferInstance [] (okT 3) nm1 (fun t _=>AI _) oM fe l oA5 oM (fun _=>ab)
  (fun h=>by rw[El (f:=nm1F) (g:=fun t=>t) (fun _=>rfl),AR];omega) (.inl oM) oM oA12 oM b
 simp only[ac] at ai;rw[El (f:=nm1F) (g:=fun t=>t) (fun _=>rfl),Tu] at ai;rw[aa ff,aa fe];refine cG func153 fun _=>?_;repeat(refine sA ?_;intros)
 repeat(refine sA ?_;intros)
 refine cX (ai _) ?_;rintro _ _ ⟨f1,C1,e1,rfl,rfl,ay,az,a0⟩;dsimp only[AA,AB];refine nx ?_;try rw[aa]
 have ao:=Fp hR ay f1 _ _ o1 rfl false az .here oM oM hT oM;rw[aa,am] at ao;repeat(refine sA ?_;intros)
 refine cX ao ?_;rintro _ _ ⟨f2,C2,e2,rfl,rfl,a1,ad,a2⟩;dsimp only[AA,AB];refine nx ?_;try rw[aa]
 have a7:=ad.cnt;have a8:=ad.blk;have ae:e2=0→e=0:=fun h=>a0 (a2 h);have aq:=fun b8 b4 b5=>Kl hR a1 200 inferInstance ff f2 (srt (ltO o1) true Fo) (slS l) 0 1 1 2 q oA5 oA5 (lkN2 p ff f2 b8 b4 b5) (hF.mono ae) ad oM oM oM oM oM oM
  (fun _=>(Ox Fo).imp fun hh=>by show T5.c0 _≤T5.c0 _;omega) (fun h=>hs (ae h)) (.inr ⟨oM,oM⟩) oM oA12 oM
 simp only[Cu,ac] at aq;repeat(refine sA ?_;intros)
 refine cX (aq _ _ _) ?_;rintro _ _ ⟨f3,C3,e3,rfl,rfl,a3,aj,ak⟩;dsimp only[AA,AB];refine nx ?_;try rw[aa]
 have a9:=aj.cnt;have bc:=aj.blk;have au:=fun b8 b4 b5=>Kl hR a3 201 inferInstance f3 f2 ((srt (ltO o1) true Fo).map (Bf (slS l) 0 1 1)) (slS l) 0 2 2 3 q oA5 oA5 (lkN3 p f3 f2 b8 b4 b5) aj (ad.mono ak) oM oM oM oM oM oM
  (fun _=>by rw[BA];exact(Ox Fo).imp fun hh=>by show T5.c0 _≤T5.c0 _;exact Int.le_of_lt hh) (fun h=>hs (ae (ak h))) (.inr ⟨oM,oM⟩) oM oA12 oM
 simp only[Cu,ac] at au;repeat(refine sA ?_;intros)
 refine cX (au _ _ _) ?_;rintro _ _ ⟨f4,C4,e4,rfl,rfl,a4,al,a5⟩;dsimp only[AA,AB];refine nx ?_;try rw[aa]
 have av:=fun b=>Ia hR a4 [(f2,slS l),(f3,(srt (ltO o1) true Fo).map (Bf (slS l) 0 1 1)),(ff,srt (ltO o1) true Fo)] ((f4,treF Fo l)::Gf) (.cons (.there (.there .here)) (.cons (.there .here) (.cons (.there .here) .nil))) oA19 _ 3 _ (vec3 b f2 f3 ff);simp only[ac,AZ,CG,AA,AB] at av;repeat(refine sA ?_;intros)
 refine cX (av _) ?_;rintro _ _ ⟨C5,rfl,rfl,a6⟩;dsimp only[AA,AB];refine nx ?_;repeat(refine sA ?_;intros)
 have aw:(treF Fo l).length=(srt (ltO o1) true Fo).length:=by unfold treF;rw[AR,AR]
 (refine dP [C5] ?_;exact⟨f4,C5,e4,rfl,rfl,a6,⟨al.cnt,al.blk,fun h=>by rw[aw];exact al.ok h⟩,fun h=>ae (ak (a5 h))⟩)
end
structure mJ (W W':Wk) (A T:Nat) (er:Option Nat) (Pr:List T5→List T5→Prop) (f g:Fl) (w1 w2:Nat) (e:Int):Prop where
 gs:W'.α.gs.Perm W.α.gs
 room:W'.α.room=W.α.room
 size:W'.δ.size=W.δ.size
 n:W'.σ.n=W.σ.n
 acts:W'.δ.acts≤W.δ.acts+A
 big:big W.σ.free≤big W'.σ.free+T
 fault:W.δ.fault= -1→W'.δ.fault= -1
 keep:Ap W.live W W'
 res:(e=0∧er=none∧f.width=w1∧g.width=w2∧W'.live.Perm (Au [f,g] W.live)∧∃ts us,Pr ts us∧Be W'.δ.disk W.δ.size [f.ext] f ts∧Be W'.δ.disk W.δ.size [g.ext] g us)∨
  (e≠0∧f=⟨0,0,0,0⟩∧g=⟨0,0,0,0⟩∧W'.live.Perm W.live∧((e=6∧W.δ.fault≠-1)∨∃m:Nat,er=some m∧e=(m:Int)))
def zK (bw bd ba bs:Nat) (W:Wk) (cd cs:Aa) (A T:Nat) (er:Option Nat) (Pr:List T5→List T5→Prop) (w1 w2:Nat) (v:Value) (H':Hp):Prop:=
 (8*W.δ.size≤W.α.room-W.α.used∧∃f g e ab aa cs' W',v= .tuple #[flv f,flv g,Z9 Z8 e]∧H'=[Ab bw bd ba bs,ab,aa,cs']∧Wc bd ba bs W' ab aa cs'∧mJ W W' A T er Pr f g w1 w2 e)∨
 (W.α.room-W.α.used<8*W.δ.size∧v= .tuple #[flv ⟨0,0,0,0⟩,flv ⟨0,0,0,0⟩,Z9 Z8 7]∧∃aa α',H'=[Ab bw bd ba bs,cd,aa,cs]∧Wc bd ba bs {W with α:=α'} cd aa cs∧α'.gs.Perm W.α.gs∧α'.room=W.α.room)
theorem zL {bw bd ba bs bj:Nat} {W W':Wk} {J:Jb} {f g:Fl} {ts us:List T5} {G2:List (Fl×List T5)} {A T:Nat} {Pr:List T5→List T5→Prop} {w1 w2:Nat} (h:Sb (Bu bw bd ba bs bj W) J [f,g] W') (hG:J.G.Perm ((f,ts)::(g,us)::G2)) (hA:J.acts≤W.δ.acts+A) (hT:J.took≤T) (aa:J.e=0→Pr ts us∧f.width=w1∧g.width=w2):mJ W W' A T J.er Pr (if J.e=0 then f else⟨0,0,0,0⟩) (if J.e=0 then g else⟨0,0,0,0⟩) w1 w2 J.e:=by
 refine⟨h.gs,h.room,h.size,h.n,A5 h.acts hA,?_,?_,fun x hx=>h.keep x hx,?_⟩
 ·have:=h.tk;have h2:(Bu bw bd ba bs bj W).b0=big W.σ.free:=rfl;omega
 ·intro hf;exact h.flt (fun h2=>h2 hf)
 ·by_cases he:J.e=0
  ·obtain⟨h1,h2,h3⟩:=h.good he [(f,ts),(g,us)] G2 hG rfl;obtain⟨p1,p2,p3⟩:=aa he;rw[if_pos he,if_pos he];exact .inl ⟨he,h3,p2,p3,h1,ts,us,p1,h2 _ AE,h2 _ (AF _ AE)⟩
  ·obtain⟨h1,h2⟩:=h.bad he;rw[if_neg he,if_neg he];exact .inr ⟨he,rfl,rfl,h1,h2⟩
open Go.Gr
section
variable {N:Nat} {sl:List T5} {L:Nat→Nat} {F:Nat→Prop} {E La Fo:List T5}
theorem Ax.foOk (hs:Bx N sl) (h:Ax N sl L F E La Fo):∀t∈Fo,okT 1 t:=by intro t ht;obtain⟨i,s,h1,_,rfl⟩:=(h.fo t).1 ht;exact Ov (Dp (hs.ok s (AY h1))).1
theorem Ax.laLen (h:Ax N sl L F E La Fo):La.length=N:=by rw[h.lab.length_eq];simp
theorem Ax.jmpOk (hs:Bx N sl) (h:Ax N sl L F E La Fo) (j:Nat):(∀t∈Dj (Ie E) j,okT 2 t)∧(Dj (Ie E) j).Pairwise fun a c=>a.c0<c.c0:=by have he:=h.eok hs;rw[Ui he];refine⟨fun t ht=>?_,bZ he _⟩;obtain⟨u,hu,rfl⟩:=AN.1 ht;have hn:=hs.n;obtain⟨a,ha,e1⟩:=h.dmLab hs ⟨u,hu,rfl⟩;obtain⟨b,hb,e2⟩:=h.dmLab hs (Pl he (2^j) ⟨u,hu,rfl⟩);have h1:=h.lt a ha;have h2:=h.lt b hb;rw[←e2,←e1];exact Hk (Lj oM) (Lj oM)
theorem Ax.jmpEnd (hs:Bx N sl) (h:Ax N sl L F E La Fo) (hl:sl.length≤256) {j:Nat} (hj:9≤j):Pj (Dj (Ie E) j)=false:=by have he:=h.eok hs;rw[Ui he,lR he fun u hu=>Pl he _ hu];have h1:2^9≤2^j:=Nat.pow_le_pow_right oM hj;exact h.ends hs oM
theorem Ax.rnd (hs:Bx N sl) (h:Ax N sl L F E La Fo) {j:Nat} (ht:Pj (Dj (Ie E) j)=false):Rnd E (2^(j+1))∧Dj (Ie E) (j+1)=Hm E (2^(j+1)):=by
 have he:=h.eok hs;refine⟨⟨fun u hu=>?_⟩,Ui he _⟩;rw[Ui he,lR he fun u hu=>Pl he _ hu] at ht;have hm:0<2^j:=Nat.pow_pos oM;have h1:=h.fixed hs hm ht hu;have h2:itA (pC E) (2^(j+1)) u=itA (pC E) (2^j) u:=by rw[show 2^(j+1)=2^j+2^j by rw[Nat.pow_succ];omega,Xf];exact Xi E h1 _
 rw[h2];exact h1
theorem Ax.ed30 (hs:Bx N sl) (h:Ax N sl L F E La Fo) (m:Nat):∀t∈Du 3 0 (Hm E m) E,okT 3 t:=by intro t ht;have he:=h.eok hs;obtain⟨u,hu,rfl⟩:=AN.1 ((cA he.ok).mem_iff.1 ht);obtain⟨i,s,h1,h2,rfl⟩:=(h.ed u).1 hu;have h3:=hs.inN h1;obtain⟨w,hw,aa⟩:=h.rfxL hs m h3.1;have h4:=h.lt _ hw;have h5:=h.lt _ h3.2;have hn:=hs.n;dsimp only;rw[aa];exact Iv (Lj oM) (Lj oM) (Dp (hs.ok s (AY h1))).1
theorem Ax.ed31 (hs:Bx N sl) (h:Ax N sl L F E La Fo) (m:Nat):∀t∈edL (Hm E m) E,okT 3 t:=by intro t ht;obtain⟨u,hu,rfl⟩:=AN.1 ((h.edm hs m).mem_iff.1 ht);obtain⟨i,s,h1,h2,rfl⟩:=(h.ed u).1 hu;have h3:=hs.inN h1;obtain⟨w,hw,aa⟩:=h.rfxL hs m h3.1;obtain⟨w',ab,ac⟩:=h.rfxL hs m h3.2;have h4:=h.lt _ hw;have h5:=h.lt _ ab;have hn:=hs.n;dsimp only;rw[aa,ac];exact Iv (Lj oM) (Lj oM) (Dp (hs.ok s (AY h1))).1
theorem Ax.foLen (h:Ax N sl L F E La Fo) (hb:(Al E).length≤2*E.length):Fo.length+(Al E).length≤2*sl.length:=by have:=h.len;omega
end
theorem zM (h E:List T5):(edL h E).length=E.length:=by unfold edL Du;rw[AR,AR,(Bs _).length_eq,AR,AR,(Bs _).length_eq]
theorem zN (h E:List T5):(Du 3 0 h E).length=E.length:=by unfold Du;rw[AR,AR,(Bs _).length_eq]
theorem mK {f:T5→List T5} (hf:∀t,f t=if t.c0=t.c1 then[] else[t]):∀l:List T5,l.flatMap f=l.filter fun t=>decide (t.c0≠t.c1)
 |[]=>rfl
 |t::l=>by rw[List.flatMap_cons,mK hf l,hf,List.filter_cons];by_cases h:t.c0=t.c1<;>simp[h]
structure CpX where
 e:Int
 C:Aa
 fe:Fl
 fl:Fl
 ff:Fl
 E:List T5
 La:List T5
 Fo:List T5
 j:Nat
structure CpI (p:Jp) (B k a:Nat) (er:Option Nat) (N q:Nat) (l:List T5) (x:CpX):Prop where
 job:Ao p B k a (20+70*x.j) x.e er [(x.fe,x.E),(x.ff,x.Fo),(x.fl,x.La)] x.C
 fe:FB q q 3 x.E.length x.e x.fe
 fl:FB q q 2 N x.e x.fl
 ff:FB (2*q) q 1 x.Fo.length x.e x.ff
 inv:x.e=0→x.j+x.E.length≤l.length∧Ic N l∧∃L F,Ax N (slS l) L F x.E x.La x.Fo
 le:x.j≤l.length
theorem zP (bw bd ba bs:Nat) (W:Wk) (cd ca cs:Aa) (h:Wc bd ba bs W cd ca cs) (N:Nat) (lf:Fl) (l:List T5) (hl:Ce W (lf,l)) (hw:lf.width=3) (q m:Nat) (ci:lf.count≤q) (hN:N≤q) (hq:q≤130) (ea:2*q≤m) (hT:Cf q≤m) (bh:m*(W.live.length+9)+(8*(2*q)+Bc W.live)≤W.σ.n) (eb:W.δ.acts≤400000000) (A:Nat) (hA:3000000+2100000*l.length≤A):Ct AC 81 [pv bw,Z9 Z8 N,flv lf] [Ab bw bd ba bs,cd,ca,cs] (zK bw bd ba bs W cd cs A A (Ig N l) (My N l) 2 3):=by
 have aa:=eQ0;have ao:=eQ2;have cj:tv o1= .agg #[Z9 Z8 1,Z9 Z8 0,Z9 Z8 0,Z9 Z8 0,Z9 Z8 0]:=rfl;have hz:=eQ1;have hB:=fun b=>aA bw bd ba bs W cd ca cs h [(lf,l)] (by simp only[List.mem_cons,List.not_mem_nil,or_false];rintro x rfl;exact hl) oA19 (some ⟨b,0,none⟩) 1 _ (Mr b lf);simp only[ao,AA,AB] at hB;have ec:(lf.width:Int)=3:=by rw[hw];rfl
 rw[aa];refine cG func81 fun _=>?_;repeat(refine sA ?_;intros)
 rename_i b3 b4 b5 ee;refine cL (hB _) ?_;rintro _ _ ⟨a1,α1,cm,cu,cv,⟨ag,bj,rfl,rfl⟩|⟨a2,rfl,rfl⟩⟩;rotate_left
 ·dsimp only[AA,AB];repeat(refine sA ?_;intros)
  (refine dP [Ab bw bd ba bs,cd,a1,cs] ?_;exact .inr ⟨a2,rfl,a1,α1,rfl,cm,cu,cv⟩)
 dsimp only[AA,AB];obtain⟨hp,hJ⟩:=aB (bj:=bj) h cm cu cv ag;have bi:In0 (Bu bw bd ba bs bj W) (lf,l):=Sc hl;have ab:(Bu bw bd ba bs bj W).bj=bj:=rfl;have dt:(Bu bw bd ba bs bj W).bw=bw:=rfl;have du:(Bu bw bd ba bs bj W).L0=W.live:=rfl;have dw:(Bu bw bd ba bs bj W).n=W.σ.n:=rfl;obtain⟨cw,ak,dx,_,_⟩:=Kk bi;dsimp only at cw ak dx;rw[hw] at ak;have hR:Rm (Bu bw bd ba bs bj W) (2*q) m 8 W.δ.acts:=⟨hp,oM,oM,by
  rw[du,dw];have e:8+W.live.length+1=W.live.length+9:=oM;rw[e];exact bh,oM,oM⟩
 have dy:Ao (Bu bw bd ba bs bj W) (2*q) 8 W.δ.acts 0 0 none [] _:=⟨hJ.weak rfl rfl rfl (AI _) (AI _),AU _,by simp⟩
 have ef:lf.count=l.length:=cw.symm;have hH:=zB hR dy lf l bi hw N q ci oM hT oM oA19 oM;rw[aa,ab] at hH;have hH:=Ct.convP (H:=[Bp bj bw 0 none 0 0,Ab bw bd ba bs,cd,a1,cs]) hH (aE (p:=Bu bw bd ba bs bj W) (e:=0) (cd:=cd) (ca:=a1) (cs:=cs)) (fun v H' hh=>⟨H',hh,.refl _⟩);rw[show(none:Option Nat).or (Ig N l)=Ig N l from rfl] at hH;repeat(refine sA ?_;intros)
 refine cX hH ?_;rintro _ _ ⟨f1,C1,e1,rfl,rfl,dz,d0,eg⟩;dsimp only[AA,AB];refine nx ?_;try rw[aa]
 have cz:=yZ hR dz N q oM oM oM oA19 oM;rw[ab] at cz;repeat(refine sA ?_;intros)
 refine cX cz ?_;rintro _ _ ⟨f2,C2,e2,rfl,rfl,d1,bk,d2⟩;dsimp only[AA,AB];refine nx ?_;try rw[aa]
 have c5:=SMakeN hR d1 1 0 0 oM (AI _) oM oA19 oM;rw[ab] at c5;repeat(refine sA ?_;intros)
 refine cX c5 ?_;rintro _ _ ⟨f3,C3,e3,rfl,rfl,c6,bp,c7⟩;dsimp only[AA,AB];refine nx ?_;try rw[aa]
 repeat(first|(refine stn ?_;intros)|refine G.drawOrd (id:=14) [0,1,2,3,5,4,6,7] [(4,.eff [5])] (h:=?_)|refine G.drawOrd (id:=19) [0,1,2,3,5,4,6,7,8] [(4,.eff [5])] (h:=?_)|refine G.draw (id:=23) [(2,.eff [1])] (h:=?_))
 rename_i a3 a4 a5;have c8:∀(x:CpX),CpI (Bu bw bd ba bs bj W) (2*q) 8 W.δ.acts (Ig N l) N q l x→x.e=0→Bx N (slS l)∧(slS l).length=l.length:=fun x hx he=>⟨slOk oM (hx.inv he).2.1 ak,(Bs _).length_eq⟩
 have d3:∀{e:Int} {s0:Nat} {Gf:List (Fl×List T5)} {C:Aa},Ao (Bu bw bd ba bs bj W) (2*q) 8 W.δ.acts s0 e (Ig N l) Gf C→e=0→Ic N l:=fun hJ he=>by
  have h1:=hJ.er0 he;unfold Ig at h1;split at h1
  ·assumption
  ·cases h1
 have c9:CpI (Bu bw bd ba bs bj W) (2*q) 8 W.δ.acts (Ig N l) N q l ⟨e3,C3,f1,f2,f3,Jl l,nmL N,[],0⟩:=by
  refine⟨?_,d0.mono fun h=>d2 (c7 h),⟨A5 bk.cnt hN,bk.blk,fun h=>bk.ok (c7 h)⟩,?_,fun h=>?_,AU _⟩
  ·exact((c6.more oM).perm ((CS _ _ _).trans (.trans (.cons _ (.swap _ _ _)) (.trans (.swap _ _ _) (.cons _ (.swap _ _ _))))):Ao (Bu bw bd ba bs bj W) (2*q) 8 W.δ.acts 20 e3 (Ig N l) [(f1,Jl l),(f3,[]),(f2,nmL N)] C3)
  ·exact⟨A5 bp.cnt (AU _),A5 bp.blk (AU _),bp.ok⟩
  ·have ho:=d3 c6 h;exact⟨by dsimp only;have:=cB l;omega,ho,id,fun _=>False,cinv0 oM ho⟩
 refine G.cut (D':=[]) (X:=CpX) (fun x=>CpI (Bu bw bd ba bs bj W) (2*q) 8 W.δ.acts (Ig N l) N q l x∧(x.e=0→x.E=[]))
  (fun x=>[(13,pv a5),(12,pv a4),(11,pv a3),(9,pv bj),(7,pv b5),(6,pv b4),(5,pv b3)])
  (fun x=>[x.C,Jw a5 x.ff,Jw a4 x.fl,Jw a3 x.fe,Jw b5 ⟨0,0,0,0⟩,Jw b4 ⟨0,0,0,0⟩,Jw b3 lf]) ?_ ?_
 ·repeat(refine sA ?_;intros)
  refine G.loop (X:=CpX) (fun x=>CpI (Bu bw bd ba bs bj W) (2*q) 8 W.δ.acts (Ig N l) N q l x)
   (fun x=>[(13,pv a5),(12,pv a4),(11,pv a3),(9,pv bj),(7,pv b5),(6,pv b4),(5,pv b3)])
   (fun x=>[x.C,Jw a5 x.ff,Jw a4 x.fl,Jw a3 x.fe,Jw b5 ⟨0,0,0,0⟩,Jw b4 ⟨0,0,0,0⟩,Jw b3 lf])
   (fun x=>l.length+1-x.j) ⟨e3,C3,f1,f2,f3,Jl l,nmL N,[],0⟩ c9 (body:=?_)
  rintro⟨e,C,fe,fl,ff,E,La,Fo,j⟩ hX;have au:=c8 _ hX;obtain⟨hJ,ah,al,am,ad,hj⟩:=hX;dsimp only[Jw] at hJ ah al am ad hj au⊢;by_cases hc:(0:Int)<(fe.count:Int);rotate_left
  ·repeat(refine sA ?_;intros)
   refine Dn.meet ⟨e,C,fe,fl,ff,E,La,Fo,j⟩ ⟨⟨hJ,ah,al,am,ad,hj⟩,fun h=>?_⟩;have h1:=(ah.ok h).2;exact List.length_eq_zero_iff.1 (show E.length=0 by omega)
  obtain⟨ph,nh,pc,rest,aj⟩:=hJ.row;rw[ab,dt] at aj;by_cases he:e=0;rotate_left
  ·refine G.open aj (by(repeat(first|exact Ae.here|apply Ae.there))) ?_;repeat(refine sA ?_;intros)
   refine Dn.close aj (by(repeat(first|exact Ae.here|apply Ae.there))) (by(repeat(first|exact Ae.here|apply Ae.there))) ?_;exact Dn.meet ⟨e,C,fe,fl,ff,E,La,Fo,j⟩ ⟨⟨hJ,ah,al,am,ad,hj⟩,fun h=>absurd h he⟩
  subst he;obtain⟨eh,ho,L,F,hI⟩:=ad rfl;obtain⟨hs,ei⟩:=au rfl;have da:0<E.length:=by have:=(ah.ok rfl).2;omega
  have d4:=zC E;have db:=zD hR fe E hJ q ah (fun _=>hI.eok hs) (AI _) hT oA19 oM;rw[aa,ab] at db;refine G.open aj (by(repeat(first|exact Ae.here|apply Ae.there))) ?_;repeat(refine sA ?_;intros)
  refine R1.close aj (by(repeat(first|exact Ae.here|apply Ae.there))) (by(repeat(first|exact Ae.here|apply Ae.there))) ?_;refine cX db ?_;rintro _ _ ⟨g4,h4,C4,e4,rfl,rfl,bq,d5,dc,ej⟩;dsimp only[AA,AB];rw[aa,aa];refine nx ?_;have bq:=bq.perm (Gf':=[(ff,Fo),(g4,Al E),(h4,Ie E),(fe,E),(fl,La)]) (by
   refine((CS _ _ _).trans (.cons _ (.cons _ (.swap _ _ _)))).trans ?_;exact(List.Perm.cons _ (.swap _ _ _)).trans (.swap _ _ _))
  have aq:=zE hR ff g4 Fo (Al E) bq q (am.mono fun _=>rfl) d5 (fun _=>by have:=hI.foLen d4;omega) (fun _=>hI.foOk hs) (fun _=>Xl (hI.eok hs).ok) (AI _) oA19 oM;rw[aa ff,aa g4,ab] at aq;repeat(refine sA ?_;intros)
  refine cX aq ?_;rintro _ _ ⟨f5,C5,e5,rfl,rfl,av,aq,a6⟩;dsimp only[AA,AB];refine nx ?_;try rw[aa]
  have av:=av.perm (Gf':=[(h4,Ie E),(g4,Al E),(f5,Fo++(Al E).map fun t=>⟨t.c2,0,0,0,0⟩),(fe,E),(fl,La)]) (by
   refine(List.Perm.cons _ (.swap _ _ _)).trans ?_;exact(CS _ _ _).trans (.cons _ (.swap _ _ _)))
  have dd:=zH hR h4 (Ie E) av q (dc.mono a6) (fun _ j=>hI.jmpOk hs j) (fun _ j hj=>hI.jmpEnd hs oM hj) (AI _) hT oA19 oM;rw[aa h4,ab] at dd;repeat(refine sA ?_;intros)
  refine cX dd ?_;rintro _ _ ⟨g6,H6,C6,e6,rfl,rfl,bu,aw,ax⟩;dsimp only[AA,AB];rw[aa];refine nx ?_;have ai:e6=0→∃i,Rnd E (2^(i+1))∧H6=Hm E (2^(i+1))∧(∀t∈H6,okT 2 t)∧H6.Pairwise fun a c=>a.c0<c.c0:=fun h=>by obtain⟨_,i,rfl,h2⟩:=ax h;obtain⟨a,b⟩:=hI.rnd hs h2;exact⟨i,a,b,hI.jmpOk hs _⟩
  have bv:=Xk hR bu fl g6 La H6 [(g6,H6),(g4,Al E),(f5,Fo++(Al E).map fun t=>⟨t.c2,0,0,0,0⟩),(fe,E)] 1 2 oM (al.mono fun _=>rfl) aw (.there (.there (.there (.there .here)))) AE (fun _=>hI.ok2 hs) (fun _=>hI.laLen) (fun h=>(ai h).choose_spec.2.2.1) (fun h=>(ai h).choose_spec.2.2.2) oM oM (.inl (AI _)) oM oM hT oA19 oM;unfold Qv at bv;rw[aa fl,aa g6,ab] at bv;repeat(refine sA ?_;intros)
  refine cX bv ?_;rintro _ _ ⟨f7,C7,e7,rfl,rfl,bz,b1,ac⟩;dsimp only[AA,AB];rw[aa];refine nx ?_;have b2:=Xk hR bz fe g6 E H6 [(f7,Du 2 1 H6 La),(g6,H6),(g4,Al E),(f5,Fo++(Al E).map fun t=>⟨t.c2,0,0,0,0⟩)] 0 3 oM (ah.mono fun _=>rfl) (aw.mono ac) (.there (.there (.there (.there .here)))) (AF _ AE) (fun _=>(hI.eok hs).ok) (fun _=>rfl) (fun h=>(ai (ac h)).choose_spec.2.2.1) (fun h=>(ai (ac h)).choose_spec.2.2.2) oM oM (.inl (AI _)) oM oM hT oA19 oM;unfold Qv at b2;rw[aa fe,aa g6,ab] at b2;repeat(refine sA ?_;intros)
  refine cX b2 ?_;rintro _ _ ⟨f8,C8,e8,rfl,rfl,d6,d7,an⟩;dsimp only[AA,AB];rw[aa];refine nx ?_;have b6:=Xk hR d6 f8 g6 (Du 3 0 H6 E) H6 [(f7,Du 2 1 H6 La),(g6,H6),(g4,Al E),(f5,Fo++(Al E).map fun t=>⟨t.c2,0,0,0,0⟩)] 1 3 oM d7 (aw.mono fun h=>ac (an h)) .here (AF _ AE) (fun h=>by obtain⟨i,a,rfl,_⟩:=ai (ac (an h));exact hI.ed30 hs _) (fun _=>zN _ _) (fun h=>(ai (ac (an h))).choose_spec.2.2.1) (fun h=>(ai (ac (an h))).choose_spec.2.2.2) oM oM (.inl (AI _)) oM oM hT oA19 oM;unfold Qv at b6;rw[aa f8,aa g6,ab] at b6;repeat(refine sA ?_;intros)
  refine cX b6 ?_;rintro _ _ ⟨f9,C9,e9,rfl,rfl,de,b7,b8⟩;dsimp only[AA,AB];rw[aa];refine nx ?_;rw[show Du 3 1 H6 (Du 3 0 H6 E)=edL H6 E from rfl] at de;have df:=b7.cnt;have d9:=b7.blk;have bc:(edL H6 E).flatMap cpLF=edN H6 E:=mK (fun t=>rfl) _;have b9:(edN H6 E).length≤E.length:=by have:=List.length_filter_le (fun t:T5=>decide (t.c0≠t.c1)) (edL H6 E);rw[zM] at this;exact this
  have be:=fun b=>Fy hR de [] cpLF 3 f9.count q 1 oM 151 inferInstance [] (okT 3) cpL (fun t _=>by unfold cpLF;split<;>simp) oM f9 (edL H6 E) oA5 oM (fun h=>by obtain⟨i,a,rfl,_⟩:=ai (ac (an (b8 h)));exact hI.ed31 hs _)
   (fun h=>by rw[bc,(b7.ok h).2];exact b9) (.inl oM) oM oA12 oM b
  simp only[ao,bc,ab] at be;repeat(refine sA ?_;intros)
  refine cX (be _) ?_;rintro _ _ ⟨dg,ek,dh,rfl,rfl,di,ay,bf⟩;dsimp only[AA,AB];refine nx ?_;try rw[aa]
  have dj:=fun b=>Ia hR di [(f9,edL H6 E),(g4,Al E),(g6,H6)] [(dg,edN H6 E),(f7,Du 2 1 H6 La),(f5,Fo++(Al E).map fun t=>⟨t.c2,0,0,0,0⟩)] (.cons (.there .here) (.cons (.there (.there (.there .here))) (.cons (.there (.there .here)) .nil))) oA19 _ 3 _ (vec3 b f9 g4 g6);simp only[ao,AZ,CG,AA,AB,ab] at dj;repeat(refine sA ?_;intros)
  refine cX (dj _) ?_;rintro _ _ ⟨d8,rfl,rfl,dk⟩;dsimp only[AA,AB];refine nx ?_;repeat(refine sA ?_;intros)
  have az:dh=0→e6=0:=fun h=>ac (an (b8 (bf h)));refine Dn.round ⟨dh,d8,dg,f7,f5,edN H6 E,Du 2 1 H6 La,Fo++(Al E).map fun t=>⟨t.c2,0,0,0,0⟩,j+1⟩ ⟨?_,⟨A5 ay.cnt df,ay.blk,ay.ok⟩,b1.mono fun h=>an (b8 (bf h)),aq.mono fun h=>(ax (az h)).1,fun h=>?_,oD⟩ oD
  ·exact(dk.more (s1:=20+70*(j+1)) oM).perm (.cons _ (.swap _ _ _))
  ·obtain⟨i,a,rfl,_⟩:=ai (az h);obtain⟨c,d⟩:=hI.step hs a;have d:=d (by intro hn;rw[hn] at da;exact absurd da oA18);exact⟨oD,ho,_,_,c⟩
 rintro⟨e,C,fe,fl,ff,E,La,Fo,j⟩ ⟨hX,bg⟩;have au:=c8 _ hX;obtain⟨hJ,ah,al,am,ad,hj⟩:=hX;dsimp only[Jw] at hJ ah al am ad hj au bg⊢;have hJ:=(hJ.more (s1:=20+70*l.length) oM).perm (Gf':=[(fl,La),(fe,E),(ff,Fo)]) ((List.Perm.cons _ (.swap _ _ _)).trans (.swap _ _ _));have ae:e=0→Bx N (slS l)∧∃L F,Ax N (slS l) L F [] La Fo:=fun h=>by obtain⟨_,_,L,F,hI⟩:=ad h;rw[bg h] at hI;exact⟨(au h).1,L,F,hI⟩
 have dl:=zI hR fl La hJ q N al (fun h=>by obtain⟨a,L,F,b⟩:=ae h;exact b.ok2 a) (fun h=>by obtain⟨a,L,F,b⟩:=ae h;exact b.laLen) (AI _) hT oA19 oM;rw[aa fl,ab] at dl;repeat(refine sA ?_;intros)
 refine cX dl ?_;rintro _ _ ⟨f5,C5,e5,rfl,rfl,av,aq,a6⟩;dsimp only[AA,AB];refine nx ?_;try rw[aa]
 have dm:=Fp hR av ff Fo [(f5,labF La),(fe,E)] o1 rfl true (am.mono a6) (.there (.there .here)) oM oM hT oM;rw[aa ff,cj,ab] at dm;repeat(refine sA ?_;intros)
 refine cX dm ?_;rintro _ _ ⟨f6,C6,e6,rfl,rfl,bu,aw,ax⟩;dsimp only[AA,AB];refine nx ?_;try rw[aa]
 have cg:e6=0→e=0:=fun h=>a6 (ax h);have dp:FB (2*q) q 1 (srt (ltO o1) true Fo).length e6 f6:=aw;have dq:=zJ hR f6 lf Fo l bu bi hw q dp ci (fun h=>by obtain⟨a,L,F,b⟩:=ae (cg h);exact b.foOk a) (fun h=>(ae (cg h)).1.lt) (AI _) hT oA19 oM;rw[aa f6,aa lf,ab] at dq;repeat(refine sA ?_;intros)
 refine cX dq ?_;rintro _ _ ⟨f7,C7,e7,rfl,rfl,bz,b1,ac⟩;dsimp only[AA,AB];refine nx ?_;try rw[aa]
 have dr:=fun b=>iO (Bu bw bd ba bs bj W) hp _ C7 bz.job [f5,f7] oA19 (some ⟨b,0,none⟩) 2 _ (Nq b f5 f7);simp only[ao,ab,AA,AB] at dr;repeat(refine sA ?_;intros)
 refine cL (dr _) ?_;rintro _ _ ⟨a7,a8,a9,W5,rfl,rfl,ds,hD⟩;try dsimp only[AA,AB]
 have a0:=zL (A:=A) (T:=A) (Pr:=My N l) (w1:=2) (w2:=3) (ts:=labF La) (us:=treF Fo l) (G2:=[(fe,E)]) hD (.swap _ _ _) oD oD (fun h=>by
  obtain⟨a,L,F,b⟩:=ae (cg (ac h));exact⟨b.spec a,((aq.ok (ax (ac h))).1),(b1.ok h).1⟩)
 dsimp only at a0;by_cases he:e7=0
 ·subst he;rw[if_pos rfl,if_pos rfl] at a0;repeat(refine sA ?_;intros)
  (refine dP [Ab bw bd ba bs,a7,a8,a9] ?_;exact .inl ⟨ag,f5,f7,0,a7,a8,a9,W5,rfl,rfl,ds,a0⟩)
 ·rw[if_neg he,if_neg he] at a0;repeat(refine sA ?_;intros)
  (refine dP [Ab bw bd ba bs,a7,a8,a9] ?_;exact .inl ⟨ag,⟨0,0,0,0⟩,⟨0,0,0,0⟩,e7,a7,a8,a9,W5,rfl,rfl,ds,a0⟩)
theorem zQ {p:Jp} {B m k a:Nat} (hR:Rm p B m k a) {er:Option Nat} {Gf:List (Fl×List T5)} (k':Nat) (aq:Gf.length≤k') (ao:∀x∈Gf,x.1.blocks≤B) (tf pf:Fl) (ad:List T5) (be:(pf,ad)∈Gf) (hw:pf.width=3) (q m2:Nat) (bc:pf.count≤q) (hN:tf.count≤q) (hq:q≤130) (a9:2*q≤m2) (hT:Cf q≤m2) (a6:m2*(k'+p.L0.length+9)+(8*(2*q)+(k'*B+Bc p.L0))≤p.n) (a8:Ic tf.count ad) (la:List T5) (a7:∀a b,My tf.count ad a b→a=la) (bu:la.length=tf.count) (x y:Nat) (hx:x≤390000000) (b8 b4 b5:Nat) (A:Nat) (hA:3000000+2100000*pf.count≤A):Er p ⟨0,er,Gf,x,y⟩ 80 [pv b8,pv b4,pv b5] (Cu p.bj b8 b4 b5 tf pf) A A none la fun g e Hx'=>Hx'=Cu p.bj b8 b4 b5 tf pf∧(e=0→g.width=2∧g.count=tf.count)∧g.count≤tf.count∧g.blocks≤tf.count:=by
 intro W cd ca cs held ph aj hW ac;obtain⟨Lv,au,av⟩:=ac.file (.inl ((ac.ok rfl).1.mem_iff.2 be));have aw:=ac.lives rfl;dsimp only at aw;have ax:=Wj (B:=B) (l:=Gf.map (·.1.blocks)) (by intro y hy;obtain⟨x,hx,rfl⟩:=AN.1 hy;exact ao x hx);rw[AR] at ax;have bf:=ac.used hR.ok hW;have bg:=ac.acts;dsimp only at bg;have bv:Gf.length*B≤k'*B:=BB _ aq;have bz:m2*(W.live.length+9)≤m2*(k'+p.L0.length+9):=Nat.mul_le_mul_left _ oM;have bh:=ac.n;have ay:=zP p.bw p.bd p.ba p.bs W cd ca cs hW tf.count pf ad ⟨Lv,au,av⟩ hw q m2 bc hN hq a9 hT (by rw[bh];omega) oM A (by have:=au.len;dsimp only at this;omega);have ab:=eQ0;have ak:=eQ2;rw[ab,show Ig tf.count ad=none by unfold Ig;rw[if_pos a8]] at ay;unfold Bp Cu;rw[ak,ak];refine cG func80 fun _=>?_;repeat(refine sA ?_;intros)
 refine cX ay ?_;rintro _ _ (⟨_,g,g2,e,ae,ag,al,W3,rfl,rfl,az,aa⟩|⟨b1,_⟩);rotate_left
 ·exact absurd bf oM
 dsimp only[AA,AB];rw[ab,ab];refine nx ?_;rcases aa.res with⟨rfl,_,bi,b2,am,ts,us,bk,ah,b3⟩|⟨a0,rfl,rfl,am,a1⟩
 ·obtain rfl:=a7 ts us bk;have a2:=Rs p.bw p.bd p.ba p.bs W3 ae ag al az g2 (Az g W.live) (Bm.add am);rw[ab g2] at a2;repeat(refine sA ?_;intros)
  refine cX a2 ?_;rintro _ _ ⟨a3,W4,rfl,rfl,bp,a4,ai,a5,bq⟩;dsimp only[AA,AB];refine nx ?_;repeat(refine sA ?_;intros)
  have g1:=ah.len;have b6:=ah.blk;have g3:=ah.w1;have g4:=ah.w2;have g5:Ac W.δ.size g.width g.count≤g.count:=Dl (Bh hW.dev.num.1.1 g3 g4);have an:Hz p W W4 A A none ts g 0:=by have b7:=a4.big;have b9:=aa.big;refine⟨by rw[a5];exact aa.gs,by rw[a5];exact aa.room,by rw[ai];exact aa.size,a4.n.trans aa.n,by rw[ai];exact aa.acts,oM,by rw[ai];exact aa.fault,fun x hx=>by rw[ai];exact aa.keep x hx,.inl ⟨rfl,rfl,by rw[bq],by rw[ai];exact ah⟩⟩
  (refine dP [[(p.bj,row [pv p.bw,Z9 Z8 0,.slice ph held.length aj] 98)],Ab p.bw p.bd p.ba p.bs,ae,ag,a3,[(b8,row [pv p.bj] 84)],[(b4,row [Z9 Z8 tf.first,Z9 Z8 tf.blocks,Z9 Z8 tf.width,Z9 Z8 tf.count] 42)],[(b5,row [Z9 Z8 pf.first,Z9 Z8 pf.blocks,Z9 Z8 pf.width,Z9 Z8 pf.count] 42)]] ?_;exact⟨g,0,ae,ag,a3,W4,_,rfl,rfl,bp,an,rfl,fun _=>⟨bi,oM⟩,oM,oM⟩)
 ·repeat(refine sA ?_;intros)
  have an:Hz p W W3 A A none la ⟨0,0,0,0⟩ e:=⟨aa.gs,aa.room,aa.size,aa.n,aa.acts,aa.big,aa.fault,aa.keep,.inr ⟨a0,rfl,am,a1⟩⟩
  (refine dP [[(p.bj,row [pv p.bw,Z9 Z8 0,.slice ph held.length aj] 98)],Ab p.bw p.bd p.ba p.bs,ae,ag,al,[(b8,row [pv p.bj] 84)],[(b4,row [Z9 Z8 tf.first,Z9 Z8 tf.blocks,Z9 Z8 tf.width,Z9 Z8 tf.count] 42)],[(b5,row [Z9 Z8 pf.first,Z9 Z8 pf.blocks,Z9 Z8 pf.width,Z9 Z8 pf.count] 42)]] ?_;exact⟨⟨0,0,0,0⟩,e,ae,ag,al,W3,_,rfl,rfl,az,an,rfl,fun h=>absurd h a0,AU _,AU _⟩)
end Go.Proofs.YtaofijjjheiknaaGreat
