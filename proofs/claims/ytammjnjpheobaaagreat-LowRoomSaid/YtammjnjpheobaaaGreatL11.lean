/-
  Parts of the proof, put together (11). No condition.
-/
import Derived.Laws.MathBits
import Derived.Test.YtammjnjpheobaaaGreatL10
set_option linter.unusedVariables false
set_option linter.unusedSimpArgs false
set_option linter.unnecessarySimpa false
set_option maxHeartbeats 4000000
open Go.IntKind renaming wrap→AH
open Go.Proofs.Tryz renaming prog→AC
open Int renaming toNat_natCast→AP
open List renaming cons_append→AA,nil_append→AB,getElem?_eq_getElem→AE,length_append→AF,mem_cons_self→AI,mem_cons_of_mem→AJ,getElem?_eq_some_iff→AK,length_cons→AL,mem_cons→AM,getD_eq_getElem?_getD→AN,mem_map→AT,length_nil→AU,length_map→AX,mem_singleton→AY,mem_of_getElem?→AZ,map_cons→A0,flatMap_cons→A6,getElem_mem→B4,not_mem_nil→CJ,length_singleton→CM,map_nil→DY
open List.Perm renaming swap→CO
open Nat renaming reduceAdd→AD,le_refl→AG,zero_le→AS,mul_le_mul_left→BU,div_le_div_right→BY,min_eq_left→C0,mul_le_mul→DA,lt_or_ge→DQ
open Option.some renaming injEq→A9
namespace Go.Proofs.YtammjnjpheobaaaGreat
open Go.SL Go.Spc Go.Tup Go.Srt
def aFb (s:Int) (oth tt:List T5):List T5:=oth.flatMap (aXs s)++tt.map fun t=>⟨t.c2,AH .i64 (s*t.c2),0,0,0⟩
def aCp (s:Int) (oth tt:List T5):List T5:=(srt (ltO o1) true (srt (ltO o12) false (aFb s oth tt))).map fun t=>⟨t.c1,0,0,0,0⟩
theorem bOc (s:Int) (oth:List T5):(oth.flatMap (aXs s)).length=2*oth.length:=by
 induction oth with
 |nil=>rfl
 |cons t oth ih=>rw[A6,AF,ih,AL];simp only[aXs,AL,AU];omega
theorem lwE_ok {s:Int} {oth:List T5} (h:∀t∈oth,okT 3 t):∀t∈oth.flatMap (aXs s),okT 2 t:=by
 intro t ht
 obtain⟨u,hu,ht⟩:=List.mem_flatMap.1 ht
 have ti:=aBm (h u hu)
 unfold aXs at ht
 simp only[AM,CJ,or_false] at ht
 rcases ht with rfl|rfl
 ·exact bBm ti.2.1 (aCb _)
 ·exact bBm ti.2.2.1 (aCb _)
theorem aKw {s:Int} {oth tt:List T5} (h:∀t∈oth,okT 3 t) (ht:∀t∈tt,okT 5 t):∀t∈aFb s oth tt,okT 2 t:=by
 intro t h1
 unfold aFb at h1
 rcases List.mem_append.1 h1 with h1|h1
 ·exact lwE_ok h t h1
 ·obtain⟨u,hu,rfl⟩:=AT.1 h1
  exact bBm (aBm (ht u hu)).2.2.1 (aCb _)
theorem aZv {s:Int} {oth tt:List T5} (h:∀t∈oth,okT 3 t) (ht:∀t∈tt,okT 5 t):∀t∈aCp s oth tt,okT 1 t:=by
 intro t h1
 unfold aCp at h1
 obtain⟨u,hu,rfl⟩:=AT.1 h1
 exact okT1 (aBm (aKw h ht u (aGk (aGk hu)))).2.1
theorem aQy {p:Jp} {B m k a s0:Nat} {e:Int} {er:Option Nat} {Gf:List (Fl×List T5)} {C:aAc} (hR:Rm p B m k a) (hJ:aHf p B k a s0 e er Gf C) (of tf:Fl) (oth tt:List T5) (h1:(of,oth)∈Gf) (h2:In0 p (tf,tt)) (hw2:tf.width=5) (hoth:∀t∈oth,okT 3 t)
  {b cb:Nat} (hF:FB b cb 3 oth.length e of) (c:Nat) (hb:2*b+tf.count≤2*c) (hcb:cb≤1000) (hc:c≤400) (hcB:c≤B) (hT:aEi c≤m) (hk:Gf.length+4≤k) (hst:s0≤9000) (s:Int):
  Ct AC 63 [pv p.bj,flv of,flv tf,.int .i64 s] [C] fun v H'=>∃g C' e',v=flv g∧H'=[C']∧aHf p B k a (s0+6) e' er ((g,aCp s oth tt)::Gf) C'∧FB (2*b+tf.count) c 1 (aCp s oth tt).length e' g∧(e'=0→e=0):=by
 have hflv:∀f:Fl,flv f= .agg #[.int .i64 (f.first:Int),.int .i64 (f.blocks:Int),.int .i64 (f.width:Int),.int .i64 (f.count:Int)]:=fun _=>rfl
 have hfl4:∀f:Fl,fl4 f=[.int .i64 (f.first:Int),.int .i64 (f.blocks:Int),.int .i64 (f.width:Int),.int .i64 (f.count:Int)]:=fun _=>rfl
 have hto1:tv o1= .agg #[.int .i64 1,.int .i64 0,.int .i64 0,.int .i64 0,.int .i64 0]:=rfl
 have hto12:tv o12= .agg #[.int .i64 1,.int .i64 2,.int .i64 0,.int .i64 0,.int .i64 0]:=rfl
 obtain⟨t1,t2,t3,t4,t5⟩:=aGl h2
 dsimp only at t1 t2 t3 t4 t5
 have hp:=hR.ok
 have hB:=hR.bs
 have hFc:=hF.cnt
 have hFb:=hF.blk
 have htb:tf.blocks≤tf.count:=by rw[t3];exact aAv (aAj hp.size.1 t4 t5)
 rw[hw2] at t2
 have hw1:AH .i64 ((2:Int)*(of.count:Int))=((2*of.count:Nat):Int):=by rw[aAd (by omega)];omega
 have hM1:=fun bs b=>bNr hR hJ _ (aXs s) 2 (2*of.count) c 2 (by omega) 112 inferInstance _ (okT 3) (lwE bs s) (fun t _=>AG _) (by omega) of oth (.inl h1) (by omega) (fun _=>hoth)
  (fun h=>by rw[bOc,(hF.ok h).2];exact AG _) (.inr ⟨by omega,by omega⟩) hcB (by omega) (by omega) b
 simp only[hfl4] at hM1
 rw[hflv of,hflv tf]
 refine Ct.intro Tryz.func63 rfl Tryz.ntmps63 (nle rfl) fun w0=> ?_;dsimp only[aAa,AD]
 repeat(refine st ?_;intros)
 repeat(refine st ?_;intros)
 refine R.callX (hct:=hM1 _ _) (h:= ?_)
 rintro _ _ ⟨g1,C1,e1,rfl,rfl,hJ1,hF1,hE1⟩
 dsimp only[AA,AB]
 refine nx ?_
 try rw[hflv]
 have hF1c:=hF1.cnt
 have hF1b:=hF1.blk
 have hM2:=fun bs b=>bNr hR hJ1 _ (bNx s) 2 tf.count c 1 (by omega) 113 inferInstance _ (okT 5) (lwO bs s) (fun t _=>AG _) (by omega) tf tt (.inr h2) (by omega) (fun _=>t2)
  (fun h=>by rw[aDw (f:=bNx s) (g:=fun t=>⟨t.c2,AH .i64 (s*t.c2),0,0,0⟩) (fun _=>rfl),AX];omega) (.inr ⟨by omega,by omega⟩) hcB (by simp only[AL,AU];omega) (by omega) b
 simp only[hfl4] at hM2
 rw[aDw (f:=bNx s) (g:=fun t=>⟨t.c2,AH .i64 (s*t.c2),0,0,0⟩) (fun _=>rfl)] at hM2
 repeat(refine st ?_;intros)
 refine R.callX (hct:=hM2 _ _) (h:= ?_)
 rintro _ _ ⟨g2,C2,e2,rfl,rfl,hJ2,hF2,hE2⟩
 dsimp only[AA,AB]
 refine nx ?_
 try rw[hflv]
 have hF2c:=hF2.cnt
 have hF2b:=hF2.blk
 have hww:AH .i64 ((g1.count:Int)+(g2.count:Int))=((g1.count+g2.count:Nat):Int):=by rw[aAd (by omega)];omega
 have hM3:=fun b=>SMap2 hR hJ2 (fun t=>t) 2 (g1.count+g2.count) c (by omega) 114 inferInstance (okT 2) lwT (fun t h=>h) g1 g2 (oth.flatMap (aXs s)) (tt.map fun (t:T5)=>(⟨t.c2,AH .i64 (s*t.c2),0,0,0⟩:T5)) (by first|exact .inr (by assumption)|exact .inl (by repeat(first|exact AI|apply AJ))) (by first|exact .inr (by assumption)|exact .inl (by repeat(first|exact AI|apply AJ))) (by omega) (by omega)
  (fun h=>aKw (s:=s) hoth t2)
  (fun h=>by rw[(hF1.ok (hE2 h)).2,(hF2.ok h).2];exact AG _) (.inr ⟨by omega,by omega⟩) hcB (by simp only[AL,AU];omega) (by omega) b
 simp only[hfl4,List.map_id',AA,AB] at hM3
 rw[show oth.flatMap (aXs s)++(tt.map fun t=>(⟨t.c2,AH .i64 (s*t.c2),0,0,0⟩:T5))=aFb s oth tt from rfl] at hM3
 repeat(refine st ?_;intros)
 refine R.callX (hct:=hM3 _) (h:= ?_)
 rintro _ _ ⟨g3,C3,e3,rfl,rfl,hJ3,hF3,hE3⟩
 dsimp only[AA,AB]
 refine nx ?_
 try rw[hflv]
 have hF3c:=hF3.cnt
 have hF3b:=hF3.blk
 have hS4:=aXo hR hJ3 g3 _ _ o12 rfl false hF3 .here (by omega) hcB hT (by omega)
 rw[hflv,hto12] at hS4
 repeat(refine st ?_;intros)
 refine R.callX (hct:=hS4) (h:= ?_)
 rintro _ _ ⟨g4,C4,e4,rfl,rfl,hJ4,hF4,hE4⟩
 dsimp only[AA,AB]
 refine nx ?_
 try rw[hflv]
 have hF4c:=hF4.cnt
 have hS5:=aXo hR hJ4 g4 _ _ o1 rfl true hF4 .here (by omega) hcB hT (by omega)
 rw[hflv,hto1] at hS5
 repeat(refine st ?_;intros)
 refine R.callX (hct:=hS5) (h:= ?_)
 rintro _ _ ⟨g5,C5,e5,rfl,rfl,hJ5,hF5,hE5⟩
 dsimp only[AA,AB]
 refine nx ?_
 try rw[hflv]
 have hF5c:=hF5.cnt
 have hF5b:=hF5.blk
 have hM6:=fun b=>bNr hR hJ5 [] bNy 1 g5.count c 1 (by omega) 115 inferInstance [] (okT 2) lwV (fun t _=>AG _) (by omega) g5 (srt (ltO o1) true (srt (ltO o12) false (aFb s oth tt))) (by first|exact .inr (by assumption)|exact .inl (by repeat(first|exact AI|apply AJ))) (by omega) (fun _ t ht=>aKw hoth t2 t (aGk (aGk ht)))
  (fun h=>by rw[aDw (f:=bNy) (g:=fun t=>⟨t.c1,0,0,0,0⟩) (fun _=>rfl),AX,(hF5.ok h).2];exact AG _) (.inr ⟨by omega,by omega⟩) hcB (by simp only[AL,AU];omega) (by omega) b
 simp only[hfl4] at hM6
 rw[aDw (f:=bNy) (g:=fun t=>⟨t.c1,0,0,0,0⟩) (fun _=>rfl)] at hM6
 rw[show(srt (ltO o1) true (srt (ltO o12) false (aFb s oth tt))).map (fun t=>(⟨t.c1,0,0,0,0⟩:T5))=aCp s oth tt from rfl] at hM6
 repeat(refine st ?_;intros)
 refine R.callX (hct:=hM6 _) (h:= ?_)
 rintro _ _ ⟨g6,C6,e6,rfl,rfl,hJ6,hF6,hE6⟩
 dsimp only[AA,AB]
 refine nx ?_
 try rw[hflv]
 have hF6c:=hF6.cnt
 have hFr:=fun b=>bJc hR hJ6 [(g1,oth.flatMap (aXs s)),(g2,tt.map fun t=>⟨t.c2,AH .i64 (s*t.c2),0,0,0⟩),(g5,srt (ltO o1) true (srt (ltO o12) false (aFb s oth tt)))] ((g6,aCp s oth tt)::Gf) (.cons (.there (.there (.there .here))) (.cons (.there (.there .here)) (.cons (.there .here) .nil))) (by simp) _ 3 _ (vec3 b g1 g2 g5)
 simp only[hfl4,A0,DY,AA,AB] at hFr
 repeat(refine st ?_;intros)
 refine R.callX (hct:=hFr _) (h:= ?_)
 rintro _ _ ⟨C7,rfl,rfl,hJ7⟩
 dsimp only[AA,AB]
 refine nx ?_
 repeat(refine st ?_;intros)
 (refine Dn.post (Hr:=[C7]) Tryz.results63 (hR:= ?_);exact⟨g6,C7,e6,rfl,rfl,hJ7,⟨by omega,hF6.blk,hF6.ok⟩,fun h=>hE1 (hE2 (hE3 (hE4 (hE5 (hE6 h)))))⟩)
section
variable {P:Program} {ops:Array Oper} {Q:Exit→Act→World→Prop} {cls:Nat→Oper→Cls} {w0:World} {S:List Nat} {n:Nat} {l:List (Nat×Oper)} {L:aBe} {D:List Deferred} {H:Hp} {qs:List Rd} {k d:Nat} {ty:TypeId} {pos:String} {af:Array Edge} {g:Option (Nat×Bool)}
theorem R.indexS {T:TypeId} {x y:Operand} {s:ByteArray} {ky:IntKind} {i:Int} {j:Nat} {b:Int} (hu:P.underlying T=some .string) (hx:ev L x=some (.string s)) (hy:ev L y=some (.int ky i)) (hj:i=(j:Int)) (hlt:j<s.size) (hb:((s[j]'hlt).toNat:Int)=b)
  (hc:cls k ⟨some d,.index T x y,ty,pos,af,g⟩= .pure) (hn:d<n)
  (h:R P ops Q cls w0 S n l ((d,.int .u8 b)::L) D H qs):R1 P ops Q cls w0 S n k ⟨some d,.index T x y,ty,pos,af,g⟩ l L D H qs:=
 R1.pureStep hc rfl hn (fun a hf w=>by
  subst hj hb
  have h2:=run_index_string (P:=P) w T s ky (j:Int) hu
  rw[dif_pos ⟨by omega,by exact_mod_cast hlt⟩] at h2
  simp only[execOp,hf.eval hx,hf.eval hy]
  simp only[AP] at h2
  simp[h2,Result.andThen]) h
end
set_option maxRecDepth 100000 in
theorem len64c (x:Nat) (h:x<65536):CtQ AC 149 [.int .u64 (x:Int)] [] (.int .i64 (bitLen x:Int)):=by
 by_cases h8:x<256
 ·have e1:AH .u8 (x:Int)=(x:Int):=aDn (by omega)
  have hl:(bitLen x:Int)≤8:=by have:=bitLen_le8 x h8;omega
  have e2:AH .i64 (bitLen x:Int)=(bitLen x:Int):=aAd (by omega)
  have e3:AH .i64 (0+(bitLen x:Int))=(bitLen x:Int):=by rw[aAd (by omega)];omega
  have hu:=Tryz.underlying9
  refine Ct.intro Tryz.func149 rfl Tryz.ntmps149 (nle rfl) fun w0=> ?_;dsimp only[aAa,AD]
  repeat(first|(apply R.indexS (j:=x);exact hu;exact rfl;exact rfl;exact rfl;exact congrArg Int.ofNat (len8tab_get x h8);exact rfl;exact nle rfl)|(refine st ?_;intros))
  (refine Dn.post (Hr:=[]) Tryz.results149 (hR:= ?_);exact⟨rfl,rfl⟩)
 ·have h4:x/256<256:=by omega
  have e1:AH .u8 ((x/256:Nat):Int)=((x/256:Nat):Int):=aDn (by omega)
  have hl:(bitLen (x/256):Int)≤8:=by have:=bitLen_le8 (x/256) h4;omega
  have e2:AH .i64 (bitLen (x/256):Int)=(bitLen (x/256):Int):=aAd (by omega)
  have hb:bitLen x=8+bitLen (x/256):=bitLen_shift x 8 (by show x/256≠0;omega)
  have e3:AH .i64 (8+(bitLen (x/256):Int))=(bitLen x:Int):=by rw[hb,aAd (by omega)];omega
  have e4:(x:Int).fdiv (2^(min (8:Int).toNat IntKind.u64.bits))=((x/256:Nat):Int):=by
   have:(2:Int)^(min (8:Int).toNat IntKind.u64.bits)=256:=by decide
   rw[this,Int.fdiv_eq_ediv_of_nonneg _ (by omega)];omega
  have hu:=Tryz.underlying9
  refine Ct.intro Tryz.func149 rfl Tryz.ntmps149 (nle rfl) fun w0=> ?_;dsimp only[aAa,AD]
  repeat(first|(apply R.indexS (j:=x/256);exact hu;exact rfl;exact rfl;exact rfl;exact congrArg Int.ofNat (len8tab_get (x/256) h4);exact rfl;exact nle rfl)|(refine st ?_;intros))
  (refine Dn.post (Hr:=[]) Tryz.results149 (hR:= ?_);exact⟨rfl,rfl⟩)
def aVi (bn n:Nat):aAt Unit:=⟨fun _=>[[(bn,row [.int .i64 (n:Int)] 3)]],fun _ t=>if okQ n t then[⟨t.c0,0,0,0,0⟩] else[],fun _ _=>(),fun _ t=>if okQ n t then none else some 3⟩
theorem chkQ_C (bn n:Nat) (k:Unit):(aVi bn n).C k=[[(bn,row [.int .i64 (n:Int)] 3)]]:=rfl
theorem bOd (bn n:Nat):aGi (aVi bn n) 1 (fun _ t=>okT 3 t) 147 [] [pv bn]:=by
 rintro bx Pst Br bnd hP ps X ⟨⟩ t hX hk hb
 have htv:tv t= .agg #[.int .i64 t.c0,.int .i64 t.c1,.int .i64 t.c2,.int .i64 t.c3,.int .i64 t.c4]:=rfl
 rw[htv]
 unfold aWf
 simp only[AB,AA]
 show Ct _ _ _ [X,[(bn,row [.int .i64 (n:Int)] 3)]] _
 have ti:=aBm hk
 by_cases h:okQ n t
 ·simp only[aVi,if_pos h,CM] at hb
  have hP1:=hP ps X ⟨t.c0,0,0,0,0⟩ hX (okT1 ti.1) hb
  unfold okQ at h
  obtain⟨h0,h1,h2,h3⟩:=h
  refine Ct.intro Tryz.func147 rfl Tryz.ntmps147 (nle rfl) fun w0=> ?_;dsimp only[aAa,AD]
  repeat(refine st ?_;intros)
  refine R.callV (hct:=by exact hP1) (h:= ?_)
  rintro _ _ ⟨X',rfl,⟨rfl,hX'⟩|⟨rfl,hB⟩⟩
  try dsimp only[AA,AB]
  ·repeat(refine st ?_;intros)
   (refine Dn.post (Hr:=[X',[(bn,row [.int .i64 (n:Int)] 3)]]) Tryz.results147 (hR:= ?_);exact⟨X',(),rfl,.inl ⟨rfl,if_pos ⟨h0,h1,h2,h3⟩,(by trivial),by simpa[aVi,okQ,h0,h1,h2,h3] using hX'⟩⟩)
  ·repeat(refine st ?_;intros)
   (refine Dn.post (Hr:=[X',[(bn,row [.int .i64 (n:Int)] 3)]]) Tryz.results147 (hR:= ?_);exact⟨X',(),rfl,.inr (.inl ⟨rfl,hB⟩)⟩)
 ·have hn:(aVi bn n).err () t=some 3:=if_neg h
  unfold okQ at h
  by_cases h0:t.c0<0
  ·refine Ct.intro Tryz.func147 rfl Tryz.ntmps147 (nle rfl) fun w0=> ?_;dsimp only[aAa,AD]
   repeat(refine st ?_;intros)
   (refine Dn.post (Hr:=[X,[(bn,row [.int .i64 (n:Int)] 3)]]) Tryz.results147 (hR:= ?_);exact⟨X,(),rfl,.inr (.inr ⟨3,hn,by decide,rfl,ps,hX⟩)⟩)
  by_cases h1:t.c1<0
  ·refine Ct.intro Tryz.func147 rfl Tryz.ntmps147 (nle rfl) fun w0=> ?_;dsimp only[aAa,AD]
   repeat(refine st ?_;intros)
   (refine Dn.post (Hr:=[X,[(bn,row [.int .i64 (n:Int)] 3)]]) Tryz.results147 (hR:= ?_);exact⟨X,(),rfl,.inr (.inr ⟨3,hn,by decide,rfl,ps,hX⟩)⟩)
  by_cases h2:t.c2<t.c1
  ·refine Ct.intro Tryz.func147 rfl Tryz.ntmps147 (nle rfl) fun w0=> ?_;dsimp only[aAa,AD]
   repeat(refine st ?_;intros)
   (refine Dn.post (Hr:=[X,[(bn,row [.int .i64 (n:Int)] 3)]]) Tryz.results147 (hR:= ?_);exact⟨X,(),rfl,.inr (.inr ⟨3,hn,by decide,rfl,ps,hX⟩)⟩)
  have h3:(n:Int)≤t.c2:=by omega
  refine Ct.intro Tryz.func147 rfl Tryz.ntmps147 (nle rfl) fun w0=> ?_;dsimp only[aAa,AD]
  repeat(refine st ?_;intros)
  (refine Dn.post (Hr:=[X,[(bn,row [.int .i64 (n:Int)] 3)]]) Tryz.results147 (hR:= ?_);exact⟨X,(),rfl,.inr (.inr ⟨3,hn,by decide,rfl,ps,hX⟩)⟩)
def aSj:aAt Unit:=⟨fun _=>[],fun _ t=>aIb t,fun _ _=>(),fun _ _=>none⟩
theorem aVj:∀(ts:List T5) (k:Unit),aSj.all k ts=ts.flatMap aIb
 |[],_=>rfl
 |t::ts,k=>by simp only[aAt.all,aVj ts,A6];rfl
theorem bFt {n:Nat} {q:T5} (h:okQ n q) (hn:n≤10000) (hk:okT 3 q):∀p∈aIb q,okT 3 p:=by
 have h1:=aZq h
 have h2:=Nat.two_pow_pos (lgQ q)
 have h3:lgQ q≤14:=by
  rcases DQ (lgQ q) 15 with h|h4
  ·omega
  ·have h5:=Nat.pow_le_pow_right (n:=2) (by omega) h4
   have:2^15=32768:=by decide
   unfold okQ at h
   omega
 have ti:=aBm hk
 unfold okQ at h
 intro p hp
 unfold aIb at hp
 simp only[AM,CJ,or_false] at hp
 rcases hp with rfl|rfl
 ·exact bKv (by unfold aBa;omega) ti.2.1 ti.1
 ·exact bKv (by unfold aBa;omega) (by unfold aBa;omega) ti.1
theorem bOe (n:Nat) (hn:n≤10000):aGi aSj 3 (fun _ t=>okT 3 t∧okQ n t) 148 [] []:=by
 rintro bx Pst Br bnd hP ps X ⟨⟩ t hX ⟨hk,hq⟩ hb
 have htv:tv t= .agg #[.int .i64 t.c0,.int .i64 t.c1,.int .i64 t.c2,.int .i64 t.c3,.int .i64 t.c4]:=rfl
 rw[htv]
 unfold aWf
 simp only[AB,AA]
 show Ct _ _ _ [X] _
 have hok:=bFt hq hn hk
 have h1:=aZq hq
 have h2:=Nat.two_pow_pos (lgQ t)
 have hb':ps.length+2≤bnd:=hb
 have hP1:=hP ps X ⟨(lgQ t:Int),t.c1,t.c0,0,0⟩ hX (hok _ (by simp[aIb])) (by omega)
 have hP2:=fun X' h=>hP (ps++[⟨(lgQ t:Int),t.c1,t.c0,0,0⟩]) X' ⟨(lgQ t:Int),t.c2-((2^lgQ t:Nat):Int)+1,t.c0,0,0⟩ h (hok _ (by simp[aIb])) (by rw[AF,CM];omega)
 have h3:lgQ t≤14:=by
  rcases DQ (lgQ t) 15 with h|h4
  ·omega
  ·have h5:=Nat.pow_le_pow_right (n:=2) (by omega) h4
   have:2^15=32768:=by decide
   unfold okQ at hq
   omega
 unfold okQ at hq
 obtain⟨x,hx⟩:∃x:Nat,t.c2-t.c1+1=(x:Int):=⟨(t.c2-t.c1+1).toNat,by omega⟩
 have hlx:lgQ t=Nat.log2 x:=by unfold lgQ;rw[hx,AP]
 have hbl:bitLen x=lgQ t+1:=by unfold bitLen;rw[if_neg (by omega),←hlx]
 have hL:=len64c x (by omega)
 rw[hbl] at hL
 have e1:AH .i64 (t.c2-t.c1)=t.c2-t.c1:=aAd (by omega)
 have e2:AH .i64 (t.c2-t.c1+1)=(x:Int):=by rw[hx];exact aAd (by omega)
 have e3:AH .u64 (x:Int)=(x:Int):=aBz (by omega)
 have e4:AH .i64 (((lgQ t+1:Nat):Int)-1)=(lgQ t:Int):=by rw[aAd (by omega)];omega
 have hsh:AH .i64 (1*2^(min ((lgQ t:Nat):Int).toNat IntKind.i64.bits))=((2^lgQ t:Nat):Int):=by
  have h1:min ((lgQ t:Nat):Int).toNat IntKind.i64.bits=lgQ t:=by
   rw[AP];exact C0 (by show lgQ t≤64;omega)
  rw[h1]
  have h2:(1:Int)*2^(lgQ t)=((2^lgQ t:Nat):Int):=by rw[Int.one_mul];simp
  rw[h2];exact aAd (by omega)
 have e5:AH .i64 (t.c2-((2^lgQ t:Nat):Int))=t.c2-((2^lgQ t:Nat):Int):=aAd (by omega)
 have e6:AH .i64 (t.c2-((2^lgQ t:Nat):Int)+1)=t.c2-((2^lgQ t:Nat):Int)+1:=aAd (by omega)
 refine Ct.intro Tryz.func148 rfl Tryz.ntmps148 (nle rfl) fun w0=> ?_;dsimp only[aAa,AD]
 repeat(first|(refine st ?_;intros)|refine G.draw [] (h:= ?_))
 refine R.call (hct:=hL) (h:= ?_)
 rintro _ _ ⟨rfl,rfl⟩
 try dsimp only[AA,AB]
 repeat(first|(refine st ?_;intros)|refine G.draw [] (h:= ?_))
 refine R.callV (hct:=by exact hP1) (h:= ?_)
 rintro _ _ ⟨X',rfl,⟨rfl,hX'⟩|⟨rfl,hB⟩⟩
 try dsimp only[AA,AB]
 ·have hP3:=hP2 X' hX'
  repeat(first|(refine st ?_;intros)|refine G.draw [] (h:= ?_))
  refine R.callV (hct:=by exact hP3) (h:= ?_)
  rintro _ _ ⟨X2,rfl,⟨rfl,hX2⟩|⟨rfl,hB⟩⟩
  try dsimp only[AA,AB]
  ·repeat(first|(refine st ?_;intros)|refine G.draw [] (h:= ?_))
   (refine Dn.post (Hr:=[X2]) Tryz.results148 (hR:= ?_);exact⟨X2,(),rfl,.inl ⟨rfl,rfl,(by trivial),by simpa[aSj,aIb] using hX2⟩⟩)
  ·repeat(first|(refine st ?_;intros)|refine G.draw [] (h:= ?_))
   (refine Dn.post (Hr:=[X2]) Tryz.results148 (hR:= ?_);exact⟨X2,(),rfl,.inr (.inl ⟨rfl,hB⟩)⟩)
 ·repeat(first|(refine st ?_;intros)|refine G.draw [] (h:= ?_))
  (refine Dn.post (Hr:=[X']) Tryz.results148 (hR:= ?_);exact⟨X',(),rfl,.inr (.inl ⟨rfl,hB⟩)⟩)
instance (n:Nat) (qts:List T5):Decidable (bHn n qts):=by unfold bHn;infer_instance
def aSk (n:Nat) (qts:List T5):Option Nat:=if bHn n qts then none else some 3
theorem aSl (bn n:Nat):∀(ts:List T5) (k:Unit),(aVi bn n).bad k ts=if∀q∈ts,okQ n q then none else some 3
 |[],_=>by simp[aAt.bad]
 |t::ts,k=>by
  simp only[aAt.bad]
  have ih:=aSl bn n ts ((aVi bn n).next k t)
  by_cases h:okQ n t
  ·have:(aVi bn n).err k t=none:=if_pos h
   rw[this]
   dsimp only
   rw[ih]
   simp[h]
  ·have:(aVi bn n).err k t=some 3:=if_neg h
   rw[this]
   dsimp only
   rw[if_neg (by simp[h])]
theorem aZw (bn n:Nat):∀(ts:List T5) (k:Unit),(∀q∈ts,okQ n q)→(aVi bn n).all k ts=ts.map fun t=>⟨t.c0,0,0,0,0⟩
 |[],_,_=>rfl
 |t::ts,k,h=>by
  simp only[aAt.all,aZw bn n ts _ fun q hq=>h q (AJ _ hq),A0]
  have:(aVi bn n).outs k t=[⟨t.c0,0,0,0,0⟩]:=if_pos (h t AI)
  rw[this];rfl
theorem aVk {ts:List T5}:(srt (ltO o1) true (ts.map fun t=>(⟨t.c0,0,0,0,0⟩:T5))).length=ts.length↔ts.Pairwise fun a c=>a.c0≠c.c0:=by
 have:=aZo (ts.map fun t=>(⟨t.c0,0,0,0,0⟩:T5))
 rw[AX,List.pairwise_map] at this
 exact this
structure HlvX where
 e:Int
 er:Option Nat
 C:aAc
theorem bFu {p:Jp} {B m k a s0:Nat} {e:Int} {Gf:List (Fl×List T5)} {C:aAc} (hR:Rm p B m k a) (hJ:aHf p B k a s0 e none Gf C) (qf:Fl) (qts:List T5) (hq:In0 p (qf,qts)) (hw:qf.width=3) (hcq:qf.count≤300) (n:Nat) (hn:n≤10000) (c:Nat) (hc:qf.count≤c) (hcB:c≤B) (hT:aEi c≤m) (hl:Gf.length+2≤k) (hst:s0≤9000):
  Ct AC 116 [pv p.bj,flv qf,.int .i64 (n:Int)] [C] fun v H'=>∃f C' e',v=flv f∧H'=[C']∧aHf p B k a (s0+4) e' (aSk n qts) ((f,aAx qts)::Gf) C'∧FB (2*qf.count) c 3 (2*qf.count) e' f∧(e'=0→e=0):=by
 have hflv:∀f:Fl,flv f= .agg #[.int .i64 (f.first:Int),.int .i64 (f.blocks:Int),.int .i64 (f.width:Int),.int .i64 (f.count:Int)]:=fun _=>rfl
 have hfl4:∀f:Fl,fl4 f=[.int .i64 (f.first:Int),.int .i64 (f.blocks:Int),.int .i64 (f.width:Int),.int .i64 (f.count:Int)]:=fun _=>rfl
 have hto1:tv o1= .agg #[.int .i64 1,.int .i64 0,.int .i64 0,.int .i64 0,.int .i64 0]:=rfl
 have hto12:tv o12= .agg #[.int .i64 1,.int .i64 2,.int .i64 0,.int .i64 0,.int .i64 0]:=rfl
 obtain⟨hql,hqfit,hqb,_,_⟩:=aGl hq
 dsimp only at hql hqfit hqb
 rw[hw] at hqfit
 have hB:=hR.bs
 have hqbl:qf.blocks≤qf.count:=by rw[hqb];exact nb_le hR.ok.size.1 (by omega) (by omega)
 have hM1:=fun b5 b=>bKx hR hJ (aVi b5 n) () 1 qf.count c 1 (by omega) 147 inferInstance [pv b5] _ (bOd b5 n) (fun _ t _=>by unfold aVi;dsimp only;split<;>simp) (by omega) qf qts (.inr hq) (by omega)
  (fun _=>aAt.oks_of (M:=aVi b5 n) (I:=fun _=>True) (Q:=okT 3) (fun _ t _ h=>⟨h,trivial⟩) _ () trivial hqfit) (fun _=>by
   have:=aAt.all_len (M:=aVi b5 n) (n:=1) (fun _ t=>by unfold aVi;dsimp only;split<;>simp) qts ()
   omega) (by omega) hcB (by omega) (by omega) b
 simp only[hfl4,chkQ_C] at hM1
 rw[hflv]
 refine Ct.intro Tryz.func116 rfl Tryz.ntmps116 (nle rfl) fun w0=> ?_;dsimp only[aAa,AD]
 repeat(refine st ?_;intros)
 rename_i b4 b5 b6 b7
 refine R.callX (hct:=hM1 _ _) (h:= ?_)
 rintro _ _ ⟨f1,C1,e1,k1,rfl,rfl,hJ1,hF1,hE1⟩
 dsimp only[AA,AB]
 refine nx ?_
 try rw[hflv]
 rw[orNone,aSl] at hJ1
 have hS2:=aXo hR hJ1 f1 _ Gf o1 rfl true hF1 .here (by omega) hcB hT (by omega)
 rw[hflv,hto1] at hS2
 repeat(refine st ?_;intros)
 refine R.callX (hct:=hS2) (h:= ?_)
 rintro _ _ ⟨f2,C2,e2,rfl,rfl,hJ2,hF2,hE2⟩
 dsimp only[AA,AB]
 refine nx ?_
 try rw[hflv]
 have h12:e2=0→e1=0∧e=0∧(∀q∈qts,okQ n q)∧f2.count=(srt (ltO o1) true (qts.map fun t=>(⟨t.c0,0,0,0,0⟩:T5))).length:=fun h=>by
  have h1:=hE2 h
  have h2:=hE1 h1
  have h3:=h2.2.2
  rw[aSl] at h3
  have h4:∀q∈qts,okQ n q:=by
   by_cases h5:∀q∈qts,okQ n q
   ·exact h5
   ·rw[if_neg h5] at h3;cases h3
  have h6:=(hF2.ok h).2
  rw[aZw b5 n qts () h4] at h6
  exact⟨h1,h2.1,h4,h6⟩
 generalize (aVi b5 n).all () qts=als at*
 obtain⟨x2,hx2⟩:∃x2:Option Nat,x2=if qts.Pairwise (fun a c=>a.c0≠c.c0) then none else some 3:=⟨_,rfl⟩
 have herr:((if∀q∈qts,okQ n q then none else some 3:Option Nat).or x2)=aSk n qts:=by
  rw[hx2];unfold aSk
  by_cases h1:∀q∈qts,okQ n q
  ·rw[if_pos h1]
   by_cases h2:qts.Pairwise (fun a c=>a.c0≠c.c0)
   ·rw[if_pos h2,if_pos (show bHn n qts from ⟨h1,h2⟩)];rfl
   ·rw[if_neg h2,if_neg (show¬bHn n qts from fun h=>h2 h.2)];rfl
  ·rw[if_neg h1,if_neg (show¬bHn n qts from fun h=>h1 h.1)];rfl
 repeat(refine stn ?_;intros)
 rename_i bc
 refine G.cut (D':=[]) (X:=HlvX) (fun x=>aHf p B k a (s0+2) x.e (aSk n qts) ((f2,srt (ltO o1) true als)::Gf) x.C∧(x.e=0→e=0)) (fun _=>[(7,pv bc),(6,pv b6),(4,pv b4),(0,pv p.bj)])
  (fun x=>[x.C,[(bc,row [.int .i64 (f2.first:Int),.int .i64 (f2.blocks:Int),.int .i64 (f2.width:Int),.int .i64 (f2.count:Int)] 27)],[(b6,row [.int .i64 0,.int .i64 0,.int .i64 0,.int .i64 0] 27)],[(b4,row [.int .i64 (qf.first:Int),.int .i64 (qf.blocks:Int),.int .i64 (qf.width:Int),.int .i64 (qf.count:Int)] 27)]]) ?_ ?_
 ·by_cases hcc:(f2.count:Int)=(qf.count:Int)
  ·repeat(refine st ?_;intros)
   refine Dn.meet ⟨e2,none,C2⟩ ⟨?_,fun h=>(h12 h).2.1⟩
   rw[←herr]
   refine hJ2.orE x2 fun h=> ?_
   obtain⟨_,_,_,h4⟩:=h12 h
   rw[hx2,if_pos]
   exact aVk.1 (by omega)
  ·have hF3:=SFail hJ2 3 (by decide) (by decide) x2 (fun h=>by
    obtain⟨_,_,_,h4⟩:=h12 h
    rw[hx2,if_neg]
    intro h5
    have:=aVk.2 h5
    omega)
   repeat(refine st ?_;intros)
   refine R.callX (hct:=hF3) (h:= ?_)
   rintro _ _ ⟨e3,C3,rfl,rfl,hJ3,he3⟩
   dsimp only[AA,AB]
   refine nx ?_
   repeat(refine st ?_;intros)
   exact Dn.meet ⟨e3,none,C3⟩ ⟨by rw[←herr];exact hJ3,fun h=>absurd h he3⟩
 rintro⟨e3,_,C3⟩ ⟨hJ3,hE3⟩
 dsimp only at hJ3 hE3⊢
 have hFr:=fun b=>bJc hR hJ3 [(f2,srt (ltO o1) true als)] Gf (.cons .here .nil) (by simp) _ 1 _ (vec1 b f2)
 simp only[hfl4,A0,DY] at hFr
 repeat(refine st ?_;intros)
 refine R.callX (hct:=hFr _) (h:= ?_)
 rintro _ _ ⟨C4,rfl,rfl,hJ4⟩
 dsimp only[AA,AB]
 refine nx ?_
 have hwq:AH .i64 (2*(qf.count:Int))=((2*qf.count:Nat):Int):=by rw[aAd (by omega)];omega
 have hok4:e3=0→∀q∈qts,okT 3 q∧okQ n q:=fun h q hm=>by
  have h1:=hJ4.er0 h
  unfold aSk at h1
  split at h1
  ·rename_i h2;exact⟨hqfit q hm,h2.1 q hm⟩
  ·cases h1
 have hM5:=fun b=>bFh hR hJ4 aSj (fun _ _=>rfl) () 3 (2*qf.count) c 2 (by omega) 148 inferInstance [] _ (bOe n hn) (fun _ t _=>by simp[aSj,aIb]) (by omega) qf qts (.inr hq) (by omega)
  (fun h=>aAt.oks_of (M:=aSj) (I:=fun _=>True) (Q:=fun q=>okT 3 q∧okQ n q) (fun _ t _ h=>⟨h,trivial⟩) _ () trivial (hok4 h)) (fun _=>by
   have:=aAt.all_len (M:=aSj) (n:=2) (fun _ t=>by simp[aSj,aIb]) qts ()
   omega) (.inr ⟨by omega,by omega⟩) hcB (by omega) (by omega) b
 rw[aVj] at hM5
 simp only[hfl4,show∀k,aSj.C k=[] from fun _=>rfl] at hM5
 repeat(refine st ?_;intros)
 refine R.callX (hct:=hM5 _) (h:= ?_)
 rintro _ _ ⟨f5,C5,e5,k5,rfl,rfl,hJ5,hF5,hE5⟩
 dsimp only[AA,AB]
 refine nx ?_
 try rw[hflv]
 have hS6:=aXo hR hJ5 f5 _ Gf o12 rfl false hF5 .here (by omega) hcB hT (by omega)
 rw[hflv,hto12,show srt (ltO o12) false (qts.flatMap aIb)=aAx qts from rfl,aQv,hql] at hS6
 repeat(refine st ?_;intros)
 refine R.callX (hct:=hS6) (h:= ?_)
 rintro _ _ ⟨f6,C6,e6,rfl,rfl,hJ6,hF6,hE6⟩
 dsimp only[AA,AB]
 refine nx ?_
 try rw[hflv]
 repeat(refine st ?_;intros)
 (refine Dn.post (Hr:=[C6]) Tryz.results116 (hR:= ?_);exact⟨f6,C6,e6,rfl,rfl,hJ6,hF6,fun h=>hE3 (hE5 (hE6 h)).1⟩)
def bCk (ban bx:Nat) (t:T5) (ok:Bool):aAc:=[(ban,row [.func (.func 55) #[pv bx] #[],.int .i64 t.c0,.int .i64 t.c1,.int .i64 t.c2,.int .i64 t.c3,.int .i64 t.c4,.bool ok] 199)]
def bOf (ts:List T5) (i:Nat):T5:=ts.getD i T5.zero
theorem aZx {ts:List T5} {i:Nat} {t:T5} (h:ts[i]? =some t):bOf ts i=t:=by unfold bOf;rw[AN,h];rfl
theorem bFv {ts:List T5} {i:Nat} (h:ts.length≤i):bOf ts i=T5.zero:=by unfold bOf;rw[AN,List.getElem?_eq_none h];rfl
theorem aQz (bw bd ba bs:Nat) (W:Wk) (cd ca cs:aAc) (h:Wc bd ba bs W cd ca cs) (bx ban:Nat) (f:Fl) (ts:List T5) (LvF:List Ext) (hfo:aAq W.δ.disk W.δ.size LvF f ts) (hsub:∀e∈LvF,e∈W.live) (g:Gr) (base:List Gr) (hg:W.α.gs.Perm (g::base))
  (pos:Nat) (hpos:pos≤f.count) (cx cb:aAc) (hr:aGo bw bx W f ts g pos cx cb) (t0:T5) (ok0:Bool) (hac:W.δ.acts≤1000000000000):
  Ct AC 150 [pv ban] [bCk ban bx t0 ok0,aAh bw bd ba bs,cd,ca,cs,cx,cb] fun v H'=>
   ∃cd' ca' W' cx' cb' t ok e,v= .int .i64 e∧H'=[bCk ban bx t ok,aAh bw bd ba bs,cd',ca',cs,cx',cb']∧Wc bd ba bs W' cd' ca' cs∧Ev W W' 1 0∧W'.δ.disk=W.δ.disk∧W'.σ=W.σ∧W'.live=W.live∧
    ((e=0∧W'.α.gs.Perm (g::base)∧t=bOf ts pos∧ok=decide (pos<f.count)∧aGo bw bx W' f ts g (min (pos+1) f.count) cx' cb')∨(e=6∧W.δ.fault≠-1∧W'.α.gs.Perm base∧aDf bx cx')):=by
 have htl:=hfo.len
 have hz:tv T5.zero= .agg #[.int .i64 T5.zero.c0,.int .i64 T5.zero.c1,.int .i64 T5.zero.c2,.int .i64 T5.zero.c3,.int .i64 T5.zero.c4]:=rfl
 have hp1:=aAj (s:=W.δ.size) (k:=f.width) h.dev.num.1.1 hfo.w1 hfo.w2
 unfold bCk
 by_cases hlt:pos<f.count
 ·have htg:ts[pos]? =some ts[pos]:=AE (by omega)
  have hNx:=aJp bw bd ba bs W cd ca cs h bx f ts LvF hfo hsub g base hg pos cx cb hr _ htg hac
  have htv:tv ts[pos]= .agg #[.int .i64 (ts[pos]).c0,.int .i64 (ts[pos]).c1,.int .i64 (ts[pos]).c2,.int .i64 (ts[pos]).c3,.int .i64 (ts[pos]).c4]:=rfl
  have hat:=aZx htg
  rw[htv,hz] at hNx
  have hn1:aAb W.δ.size f.width (pos+1)-aAb W.δ.size f.width pos≤1:=by
   unfold aAb
   have h1:(pos+1+aAf W.δ.size f.width-1)/aAf W.δ.size f.width≤(pos+aAf W.δ.size f.width-1+aAf W.δ.size f.width)/aAf W.δ.size f.width:=BY (by omega)
   rw[Nat.add_div_right _ (by omega)] at h1
   omega
  generalize ts[pos]=u at*
  refine Ct.intro Tryz.func150 rfl Tryz.ntmps150 (nle rfl) fun w0=> ?_;dsimp only[aAa,AD]
  repeat(refine st ?_;intros)
  refine R.callV (hct:=by exact hNx) (h:= ?_)
  rintro _ _ ⟨cd1,ca1,W1,cx1,cb1,rfl,hW1,hE1,hd1,hσ1,hl1,⟨rfl,hα1,hr1⟩|⟨rfl,hf1,hδ1,hg1,hx1⟩⟩
  try dsimp only[AA,AB]
  ·repeat(refine st ?_;intros)
   (refine Dn.post (Hr:=[[(ban,row [.func (.func 55) #[pv bx] #[],.int .i64 u.c0,.int .i64 u.c1,.int .i64 u.c2,.int .i64 u.c3,.int .i64 u.c4,.bool true] 199)],aAh bw bd ba bs,cd1,ca1,cs,cx1,cb1]) Tryz.results150 (hR:= ?_);exact⟨cd1,ca1,W1,cx1,cb1,u,true,0,rfl,rfl,hW1,hE1.weak hn1 (AG _),hd1,hσ1,hl1,.inl ⟨rfl,by rw[hα1];exact hg,hat.symm,(decide_eq_true hlt).symm,by rw[C0 (by omega)];exact hr1⟩⟩)
  ·repeat(refine st ?_;intros)
   (refine Dn.post (Hr:=[[(ban,row [.func (.func 55) #[pv bx] #[],.int .i64 T5.zero.c0,.int .i64 T5.zero.c1,.int .i64 T5.zero.c2,.int .i64 T5.zero.c3,.int .i64 T5.zero.c4,.bool false] 199)],aAh bw bd ba bs,cd1,ca1,cs,cx1,cb1]) Tryz.results150 (hR:= ?_);exact⟨cd1,ca1,W1,cx1,cb1,T5.zero,false,6,rfl,rfl,hW1,hE1.weak hn1 (AG _),hd1,hσ1,hl1,.inr ⟨rfl,by omega,hg1,hx1⟩⟩)
 ·obtain rfl:pos=f.count:=by omega
  have hNe:=aFw bw bx W f ts g cx cb hr
  rw[hz] at hNe
  refine Ct.intro Tryz.func150 rfl Tryz.ntmps150 (nle rfl) fun w0=> ?_;dsimp only[aAa,AD]
  repeat(refine st ?_;intros)
  refine R.callVP (fs:=[pv bx]) (vs:=[]) (hf:=inferInstance) (hct:=hNe) (h:= ?_)
  repeat(refine st ?_;intros)
  (refine Dn.post (Hr:=[[(ban,row [.func (.func 55) #[pv bx] #[],.int .i64 T5.zero.c0,.int .i64 T5.zero.c1,.int .i64 T5.zero.c2,.int .i64 T5.zero.c3,.int .i64 T5.zero.c4,.bool false] 199)],aAh bw bd ba bs,cd,ca,cs,cx,cb]) Tryz.results150 (hR:= ?_);exact⟨cd,ca,W,cx,cb,T5.zero,false,0,rfl,rfl,h,(Ev.refl W).weak (AS _) (AG _),rfl,rfl,rfl,.inl ⟨rfl,hg,(bFv (by omega)).symm,(decide_eq_false (by omega)).symm,by rw[Nat.min_eq_right (by omega)];exact hr⟩⟩)
structure bHo where
 bw:Nat
 bx:Nat
 bx2:Nat
 ban:Nat
 first:Nat
 nb:Nat
 g:Gr
 g2:Gr
 pf:Fl
 pts:List T5
 vts:List T5
 Lv:List Ext
structure bFw where
 q:Nat
 i:Nat
 t:T5
 ok:Bool
 cx:aAc
 cb:aAc
 cy:aAc
 cc:aAc
 ro:Bool
 wo:Bool
def ltP (x:T5) (kk i:Nat):Prop:=x.c0<kk∨x.c0=kk∧x.c1<i
structure aXu (P:bHo) (W0:Wk) (kk il i:Nat) (W:Wk) (r:bFw):Prop where
 ro:r.ro=true
 wo:r.wo=true
 pl:r.i=i
 rd:aGo P.bw P.bx W P.pf P.pts P.g (min (r.q+1) P.pf.count) r.cx r.cb
 wr:aIa P.bw P.bx2 W P.first P.nb 2 P.pf.count P.g2 ((P.pts.take r.q).map (aCt P.vts)) r.cy r.cc
 lv:aDm P.first P.nb P.Lv W.live
 kp:aBr P.Lv W0 W
 fl:W0.δ.fault= -1→W.δ.fault= -1
 qn:r.q≤P.pf.count
 tt:r.t=bOf P.pts r.q
 oo:r.ok=decide (r.q<P.pf.count)
 lo:∀j x,j<r.q→P.pts[j]? =some x→ltP x kk il
 hi:∀j x,r.q≤j→P.pts[j]? =some x→¬ltP x kk i
structure AnsB (P:bHo) (W0:Wk) (W:Wk) (r:bFw) (e:Int):Prop where
 e6:e=6
 fl:W0.δ.fault≠-1
 kp:aBr P.Lv W0 W
 rd:(r.ro=true∧∃pos,aGo P.bw P.bx W P.pf P.pts P.g pos r.cx r.cb)∨(r.ro=false∧aDf P.bx r.cx)
 wr:(r.wo=true∧aDm P.first P.nb P.Lv W.live∧∃ps,aIa P.bw P.bx2 W P.first P.nb 2 P.pf.count P.g2 ps r.cy r.cc)∨(r.wo=false∧W.live.Perm P.Lv∧aDy P.bx2 r.cy)
def aIp (P:bHo) (r:bFw):List Gr:=(if r.ro then[P.g] else[])++(if r.wo then[P.g2] else[])
def bKz (P:bHo) (b1 b2 b3 b4 kk:Nat) (r:bFw):Hp:=[bCk P.ban P.bx r.t r.ok,[(b1,row [pv P.ban] 196)],[(b2,row [.int .i64 (kk:Int)] 2)],[(b3,row [.int .i64 (r.i:Int)] 2)],[(b4,row [.func (.func 74) #[pv P.bx2] #[]] 87)],r.cx,r.cb,r.cy,r.cc]
structure AnsX where
 cd:aAc
 ca:aAc
 cs:aAc
 W:Wk
 r:bFw
theorem ans1ct (bd ba bs:Nat) (P:bHo) (W0:Wk) (kk i:Nat) (b1 b2 b3 b4:Nat) (W:Wk) (cd ca cs:aAc) (h:Wc bd ba bs W cd ca cs) (r:bFw) (hJ:aXu P W0 kk i i W r) (base:List Gr) (hg:W.α.gs.Perm (P.g::P.g2::base)) (hn:P.pts.length=P.pf.count) (hw5:1≤P.pf.width∧P.pf.width≤5)
  (LvP:List Ext) (hfp:∀W1 r1 il i,aXu P W0 kk il i W1 r1→aAq W1.δ.disk W1.δ.size LvP P.pf P.pts) (hsub:∀e∈LvP,e∈P.Lv) (hord:P.pts.Pairwise fun a c=>a.c0<c.c0∨a.c0=c.c0∧a.c1≤c.c1) (hpi:∀x∈P.pts,aBa x.c2) (hvi:∀x∈P.vts,aBa x.c0)
  (u:T5) (hu:u.c0=aJr (at0 P.vts) i (2^kk-1)) (hi:i≤1000000) (hac:W.δ.acts+2*P.pf.count≤1000000000000):
  Ct AC 173 [tv u,pv b1,pv b2,pv b3,pv b4] (aAh P.bw bd ba bs::cd::ca::cs::bKz P b1 b2 b3 b4 kk r) fun v H'=>
   ∃cd' ca' cs' W' r' e,v= .int .i64 e∧H'=aAh P.bw bd ba bs::cd'::ca'::cs'::bKz P b1 b2 b3 b4 kk r'∧Wc bd ba bs W' cd' ca' cs'∧Ev W W' (2*P.pf.count) 0∧W'.α.gs.Perm (aIp P r'++base)∧(e=0→aXu P W0 kk (i+1) (i+1) W' r')∧(e≠0→AnsB P W0 W' r' e):=by
 have htv:tv u= .agg #[.int .i64 u.c0,.int .i64 u.c1,.int .i64 u.c2,.int .i64 u.c3,.int .i64 u.c4]:=rfl
 rw[htv]
 unfold bKz bCk
 refine Ct.intro Tryz.func173 rfl Tryz.ntmps173 (nle rfl) fun w0=> ?_;dsimp only[aAa,AD]
 repeat(first|(refine st ?_;intros)|refine G.draw [] (h:= ?_))
 rename_i b5
 refine G.loop (X:=AnsX) (fun x=>Wc bd ba bs x.W x.cd x.ca x.cs∧aXu P W0 kk (i+1) i x.W x.r∧r.q≤x.r.q∧Ev W x.W (2*(x.r.q-r.q)) 0∧x.W.α.gs.Perm (P.g::P.g2::base))
  (fun _=>[(1,pv b1),(2,pv b2),(3,pv b3),(4,pv b4),(5,pv b5)])
  (fun x=>[[(b5,row [.int .i64 u.c0,.int .i64 u.c1,.int .i64 u.c2,.int .i64 u.c3,.int .i64 u.c4] 49)],[(P.ban,row [.func (.func 55) #[pv P.bx] #[],.int .i64 x.r.t.c0,.int .i64 x.r.t.c1,.int .i64 x.r.t.c2,.int .i64 x.r.t.c3,.int .i64 x.r.t.c4,.bool x.r.ok] 199)],
   [(b1,row [pv P.ban] 196)],[(b2,row [.int .i64 (kk:Int)] 2)],[(b3,row [.int .i64 (x.r.i:Int)] 2)],[(b4,row [.func (.func 74) #[pv P.bx2] #[]] 87)],aAh P.bw bd ba bs,x.cd,x.ca,x.cs,x.r.cx,x.r.cb,x.r.cy,x.r.cc]) (fun x=>P.pf.count-x.r.q) ⟨cd,ca,cs,W,r⟩
  ⟨h,{hJ with lo:=fun j x hj hx=>by have:=hJ.lo j x hj hx;unfold ltP at this⊢;omega},AG _,(Ev.refl W).weak (AS _) (AG _),hg⟩ (body:= ?_)
 rintro⟨cd1,ca1,cs1,W1,r1⟩ ⟨hW1,hJ1,hq1,hE1,hg1⟩
 dsimp only at hW1 hJ1 hq1 hE1 hg1⊢
 obtain⟨q,i',t,ok,cx,cb,cy,cc,ro,wo⟩:=r1
 obtain⟨hro,hwo,hpl,hrd,hwr,hlv,hkp,hfl,hqn,htt,hoo,hlo,hhi⟩:=id hJ1
 dsimp only at hro hwo hpl hrd hwr hlv hkp hfl hqn htt hoo hlo hhi hq1 hE1⊢
 subst hro hwo hpl
 have hac1:=hE1.acts.2
 have hend:(∀x,P.pts[q]? =some x→¬(x.c0=kk∧x.c1=(i':Int)))→aXu P W0 kk (i'+1) (i'+1) W1 ⟨q,i'+1,t,ok,cx,cb,cy,cc,true,true⟩:=by
  intro hne
  refine⟨rfl,rfl,rfl,hrd,hwr,hlv,hkp,hfl,hqn,htt,hoo,fun j x hj hx=> ?_,fun j x hj hx=> ?_⟩
  ·exact hlo j x hj hx
  ·dsimp only at hj
   have h1:=hhi j x hj hx
   have h2:q<P.pts.length:=by have:=(AK.1 hx).1;omega
   have h3:P.pts[q]? =some P.pts[q]:=AE h2
   have h4:=hne _ h3
   have h5:=hhi q _ (AG _) h3
   have h6:P.pts[q].c0<x.c0∨P.pts[q].c0=x.c0∧P.pts[q].c1≤x.c1:=by
    rcases DQ q j with hqj|hqj
    ·obtain⟨hj2,rfl⟩:=AK.1 hx
     exact List.pairwise_iff_getElem.1 hord q j h2 hj2 hqj
    ·obtain rfl:j=q:=by omega
     rw[h3,A9] at hx
     rw[hx];right;exact⟨rfl,Int.le_refl _⟩
   unfold ltP at h1 h5⊢
   omega
 have ewr:AH .i64 ((i':Int)+1)=((i'+1:Nat):Int):=by rw[aAd (by omega)];omega
 by_cases hlt:q<P.pf.count
 rotate_left
 ·have hj:=hend (fun x hx=>by have:=(AK.1 hx).1;omega)
  rw[decide_eq_false hlt] at hoo
  subst hoo
  repeat(first|(refine st ?_;intros)|refine G.draw [] (h:= ?_))
  (refine Dn.post (Hr:=[aAh P.bw bd ba bs,cd1,ca1,cs1,[(P.ban,row [.func (.func 55) #[pv P.bx] #[],.int .i64 t.c0,.int .i64 t.c1,.int .i64 t.c2,.int .i64 t.c3,.int .i64 t.c4,.bool false] 199)],[(b1,row [pv P.ban] 196)],[(b2,row [.int .i64 (kk:Int)] 2)],[(b3,row [.int .i64 ((i'+1:Nat):Int)] 2)],[(b4,row [.func (.func 74) #[pv P.bx2] #[]] 87)],cx,cb,cy,cc]) Tryz.results173 (hR:= ?_);exact⟨cd1,ca1,cs1,W1,⟨q,i'+1,t,false,cx,cb,cy,cc,true,true⟩,0,rfl,rfl,hW1,hE1.weak (by omega) (AG _),hg1,fun _=>hj,fun h0=>absurd rfl h0⟩)
 rw[decide_eq_true hlt] at hoo
 subst hoo
 have htg:P.pts[q]? =some P.pts[q]:=AE (by omega)
 have htq:t=P.pts[q]:=htt.trans (aZx htg)
 have hmem:t∈P.pts:=by rw[htq];exact B4 _
 rw[←htq] at htg
 by_cases hc:t.c0=(kk:Int)∧t.c1=(i':Int)
 rotate_left
 ·have hj:=hend (fun x hx=>by rw[htg,A9] at hx;subst hx;exact hc)
  by_cases hc0:t.c0=(kk:Int)
  ·have hc1:¬t.c1=(i':Int):=fun h=>hc ⟨hc0,h⟩
   repeat(first|(refine st ?_;intros)|refine G.draw [] (h:= ?_))
   (refine Dn.post (Hr:=[aAh P.bw bd ba bs,cd1,ca1,cs1,[(P.ban,row [.func (.func 55) #[pv P.bx] #[],.int .i64 t.c0,.int .i64 t.c1,.int .i64 t.c2,.int .i64 t.c3,.int .i64 t.c4,.bool true] 199)],[(b1,row [pv P.ban] 196)],[(b2,row [.int .i64 (kk:Int)] 2)],[(b3,row [.int .i64 ((i'+1:Nat):Int)] 2)],[(b4,row [.func (.func 74) #[pv P.bx2] #[]] 87)],cx,cb,cy,cc]) Tryz.results173 (hR:= ?_);exact⟨cd1,ca1,cs1,W1,⟨q,i'+1,t,true,cx,cb,cy,cc,true,true⟩,0,rfl,rfl,hW1,hE1.weak (by omega) (AG _),hg1,fun _=>hj,fun h0=>absurd rfl h0⟩)
  ·repeat(first|(refine st ?_;intros)|refine G.draw [] (h:= ?_))
   (refine Dn.post (Hr:=[aAh P.bw bd ba bs,cd1,ca1,cs1,[(P.ban,row [.func (.func 55) #[pv P.bx] #[],.int .i64 t.c0,.int .i64 t.c1,.int .i64 t.c2,.int .i64 t.c3,.int .i64 t.c4,.bool true] 199)],[(b1,row [pv P.ban] 196)],[(b2,row [.int .i64 (kk:Int)] 2)],[(b3,row [.int .i64 ((i'+1:Nat):Int)] 2)],[(b4,row [.func (.func 74) #[pv P.bx2] #[]] 87)],cx,cb,cy,cc]) Tryz.results173 (hR:= ?_);exact⟨cd1,ca1,cs1,W1,⟨q,i'+1,t,true,cx,cb,cy,cc,true,true⟩,0,rfl,rfl,hW1,hE1.weak (by omega) (AG _),hg1,fun _=>hj,fun h0=>absurd rfl h0⟩)
 obtain⟨hc0,hc1⟩:=hc
 have hfd:aCt P.vts t=⟨t.c2,u.c0,0,0,0⟩:=by unfold aCt;rw[hc0,hc1,AP,AP,←hu]
 have hh2:1≤aAf W1.δ.size 2:=aAj hW1.dev.num.1.1 (by omega) (by omega)
 have hpl:((P.pts.take q).map (aCt P.vts)).length=q:=by rw[AX,List.length_take];omega
 have hPt:=bNl P.bw bd ba bs W1 cd1 ca1 cs1 hW1 P.bx2 P.first P.nb 2 P.pf.count P.g2 _ cy cc hwr (P.g::base) (hg1.trans (.swap _ _ _)) P.Lv hlv (by rw[hpl];exact hlt) ⟨t.c2,u.c0,0,0,0⟩ (bBm (hpi t hmem) (by rw[hu];exact aGy hvi _ _)) (by omega) hh2
 have htp:tv ⟨t.c2,u.c0,0,0,0⟩= .agg #[.int .i64 t.c2,.int .i64 u.c0,.int .i64 0,.int .i64 0,.int .i64 0]:=rfl
 rw[htp] at hPt
 repeat(first|(refine st ?_;intros)|refine G.draw [] (h:= ?_))
 refine R.callV (hct:=by exact hPt) (h:= ?_)
 rintro _ _ ⟨cd2,ca2,cs2,W2,cy2,cc2,e2,rfl,rfl,hW2,hE2,hK2,hc2⟩
 try dsimp only[AA,AB]
 rcases hc2 with⟨rfl,hg2,hl2,hw2⟩|⟨rfl,hf2,hS2⟩
 ·have hfo2:aAq W2.δ.disk W2.δ.size LvP P.pf P.pts:=by
   have h1:=hfp W1 _ _ _ hJ1
   rw[hE2.size]
   exact h1.keep fun x ⟨e,he,h3⟩=>hK2 x ⟨e,hsub e he,h3⟩
  have hM:=aQz P.bw bd ba bs W2 cd2 ca2 cs2 hW2 P.bx P.ban P.pf P.pts LvP hfo2 (fun e he=>hl2.mem (hsub e he)) P.g (P.g2::base) (hg2.trans (.swap _ _ _)) (min (q+1) P.pf.count) (Nat.min_le_right _ _) cx cb (hrd.move hE2.size) t true (by have:=hE2.acts.2;omega)
  unfold bCk at hM
  have hE12:=hE1.trans hE2
  repeat(first|(refine st ?_;intros)|refine G.draw [] (h:= ?_))
  refine R.call (hct:=hM) (h:= ?_)
  rintro _ _ ⟨cd3,ca3,W3,cx3,cb3,t3,ok3,e3,rfl,rfl,hW3,hE3,hd3,hσ3,hl3,hc3⟩
  try dsimp only[AA,AB]
  have hE13:=hE12.trans hE3
  have hK3:aBr P.Lv W0 W3:=fun x hx=>by rw[hd3];exact(hkp.trans hK2) x hx
  have hwr3:aIa P.bw P.bx2 W3 P.first P.nb 2 P.pf.count P.g2 ((P.pts.take (q+1)).map (aCt P.vts)) cy2 cc2:=by
   have:(P.pts.take (q+1)).map (aCt P.vts)=(P.pts.take q).map (aCt P.vts)++[⟨t.c2,u.c0,0,0,0⟩]:=by
    rw[List.take_add_one,htg,List.map_append,←hfd];rfl
   rw[this]
   exact hw2.move hE3.size (fun x _ _=>by rw[hd3])
  have hlv3:aDm P.first P.nb P.Lv W3.live:=by rw[hl3];exact hl2
  rcases hc3 with⟨rfl,hg3,ht3,hok3,hr3⟩|⟨rfl,hf3,hg3,hx3⟩
  ·have hmin:min (q+1) P.pf.count=q+1:=by omega
   rw[hmin] at ht3 hok3 hr3
   repeat(first|(refine st ?_;intros)|refine G.draw [] (h:= ?_))
   refine Dn.round ⟨cd3,ca3,cs2,W3,⟨q+1,i',t3,ok3,cx3,cb3,cy2,cc2,true,true⟩⟩ ⟨hW3,⟨rfl,rfl,rfl,hr3,hwr3,hlv3,hK3,fun hf=>hE3.fault (hE2.fault (hfl hf)),hlt,ht3,hok3,fun j x hj hx=> ?_,fun j x hj hx=>hhi j x (by dsimp only at hj;omega) hx⟩,by dsimp only;omega,hE13.weak (by dsimp only;omega) (AG _),hg3⟩ (by dsimp only;omega)
   dsimp only at hj
   by_cases hjq:j=q
   ·subst hjq
    rw[htg,A9] at hx
    subst hx
    unfold ltP;omega
   ·exact hlo j x (by omega) hx
  ·repeat(first|(refine st ?_;intros)|refine G.draw [] (h:= ?_))
   (refine Dn.post (Hr:=[aAh P.bw bd ba bs,cd3,ca3,cs2,[(P.ban,row [.func (.func 55) #[pv P.bx] #[],.int .i64 t3.c0,.int .i64 t3.c1,.int .i64 t3.c2,.int .i64 t3.c3,.int .i64 t3.c4,.bool ok3] 199)],[(b1,row [pv P.ban] 196)],[(b2,row [.int .i64 (kk:Int)] 2)],[(b3,row [.int .i64 (i':Int)] 2)],[(b4,row [.func (.func 74) #[pv P.bx2] #[]] 87)],cx3,cb3,cy2,cc2]) Tryz.results173 (hR:= ?_);exact⟨cd3,ca3,cs2,W3,⟨q,i',t3,ok3,cx3,cb3,cy2,cc2,false,true⟩,6,rfl,rfl,hW3,hE13.weak (by omega) (AG _),hg3,fun h0=>absurd h0 (by decide),fun _=>⟨rfl,fun hf=>hf3 (hE2.fault (hfl hf)),hK3,.inr ⟨rfl,hx3⟩,.inl ⟨rfl,hlv3,_,hwr3⟩⟩⟩)
 ·have hE12:=hE1.trans hE2
  have hrd2:=hrd.move hE2.size
  have hfl2:W0.δ.fault≠-1:=fun hf=>hf2 (hfl hf)
  repeat(first|(refine st ?_;intros)|refine G.draw [] (h:= ?_))
  (refine Dn.post (Hr:=[aAh P.bw bd ba bs,cd2,ca2,cs2,[(P.ban,row [.func (.func 55) #[pv P.bx] #[],.int .i64 t.c0,.int .i64 t.c1,.int .i64 t.c2,.int .i64 t.c3,.int .i64 t.c4,.bool true] 199)],[(b1,row [pv P.ban] 196)],[(b2,row [.int .i64 (kk:Int)] 2)],[(b3,row [.int .i64 (i':Int)] 2)],[(b4,row [.func (.func 74) #[pv P.bx2] #[]] 87)],cx,cb,cy2,cc2]) Tryz.results173 (hR:= ?_);skip)
  rcases hS2 with⟨a1,a2,a3⟩|⟨a1,a2,a3⟩
  ·exact⟨cd2,ca2,cs2,W2,⟨q,i',t,true,cx,cb,cy2,cc2,true,true⟩,6,rfl,rfl,hW2,hE12.weak (by omega) (AG _),a1.trans (.swap _ _ _),fun h0=>absurd h0 (by decide),fun _=>⟨rfl,hfl2,hkp.trans hK2,.inl ⟨rfl,_,hrd2⟩,.inl ⟨rfl,a2,a3⟩⟩⟩
  ·exact⟨cd2,ca2,cs2,W2,⟨q,i',t,true,cx,cb,cy2,cc2,true,false⟩,6,rfl,rfl,hW2,hE12.weak (by omega) (AG _),a1,fun h0=>absurd h0 (by decide),fun _=>⟨rfl,hfl2,hkp.trans hK2,.inl ⟨rfl,_,hrd2⟩,.inr ⟨rfl,a2,a3⟩⟩⟩
theorem aXu.sz {P:bHo} {W0 W:Wk} {kk il i:Nat} {r:bFw} (h:aXu P W0 kk il i W r):P.g.n=W.δ.size:=h.rd.1
def bJh (P:bHo) (W0:Wk) (kk b1 b2 b3 b4:Nat):Seer bFw where
 own:=aIp P
 C r:=(bKz P b1 b2 b3 b4 kk r).flatten
 J W r i:=aXu P W0 kk i i W r
 B W r e:=AnsB P W0 W r e
 κ:=2*P.pf.count
theorem bOg (P:bHo) (W0:Wk) (kk b1 b2 b3 b4:Nat):(bJh P W0 kk b1 b2 b3 b4).Ok where
 stay:=by
  intro W W' r i h hs hd _ hl hf
  exact{h with
   rd:=h.rd.move hs
   wr:=h.wr.move hs (fun x _ _=>by rw[hd])
   lv:=by rw[hl];exact h.lv
   kp:=fun x hx=>by rw[hd];exact h.kp x hx
   fl:=fun e=>hf (h.fl e)}
 flt:=by
  intro W W' r i h hf hd _ hl
  have e1:W'.δ.disk=W.δ.disk:=by rw[hd];rfl
  have e2:W'.δ.size=W.δ.size:=by rw[hd];rfl
  exact⟨rfl,fun e=>by have:=h.fl e;omega,fun x hx=>by rw[e1];exact h.kp x hx,.inl ⟨h.ro,_,h.rd.move e2⟩,.inl ⟨h.wo,by rw[hl];exact h.lv,_,h.wr.move e2 (fun x _ _=>by rw[e1])⟩⟩
 stayB:=by
  intro W α r e h
  refine{h with
   rd:= ?_
   wr:= ?_}
  ·rcases h.rd with⟨a,p,b⟩|⟨a,b⟩
   ·exact .inl ⟨a,p,b.move rfl⟩
   ·exact .inr ⟨a,b⟩
  ·rcases h.wr with⟨a,b,ps,c⟩|⟨a,b,c⟩
   ·exact .inl ⟨a,b,ps,c.move rfl (fun _ _ _=>rfl)⟩
   ·exact .inr ⟨a,b,c⟩
structure AnsF (P:bHo) (W0:Wk) (LvP:List Ext):Prop where
 n:P.pts.length=P.pf.count
 fo:aAq W0.δ.disk W0.δ.size LvP P.pf P.pts
 sub:∀e∈LvP,e∈P.Lv
 ord:P.pts.Pairwise fun a c=>a.c0<c.c0∨a.c0=c.c0∧a.c1≤c.c1
 pi:∀x∈P.pts,aBa x.c2
 vi:∀x∈P.vts,aBa x.c0
 sz:P.g.n=W0.δ.size
 c1:P.pf.count≤1000
theorem bFx (bd ba bs:Nat) (P:bHo) (W0:Wk) (LvP:List Ext) (hP:AnsF P W0 LvP) (kk:Nat) (W:Wk) (cd ca cs:aAc) (h:Wc bd ba bs W cd ca cs) (r:bFw) (hJ:aXu P W0 kk 0 0 W r) (base:List Gr) (hg:W.α.gs.Perm (P.g::P.g2::base))
  (f:Fl) (LvF:List Ext) (hfo:aAq W0.δ.disk W0.δ.size LvF f (aTb P.vts kk)) (hsub:∀e∈LvF,e∈P.Lv) (hr:W.δ.size≤W.α.room-W.α.used) (hac:W.δ.acts≤1000000000) (hcn:f.count≤1000):
  Ct AC 151 [pv P.ban,pv P.bw,.int .i64 (kk:Int),flv f,.func (.func 74) #[pv P.bx2] #[]] [aAh P.bw bd ba bs,cd,ca,cs,bCk P.ban P.bx r.t r.ok,r.cx,r.cb,r.cy,r.cc] fun v H'=>
   ∃cd' ca' cs' W' r' e,v= .int .i64 e∧H'=[aAh P.bw bd ba bs,cd',ca',cs',bCk P.ban P.bx r'.t r'.ok,r'.cx,r'.cb,r'.cy,r'.cc]∧Wc bd ba bs W' cd' ca' cs'∧Ev W W' (f.count+f.count*(2*P.pf.count)) 0∧W'.α.gs.Perm (aIp P r'++base)∧
    (e=0→aXu P W0 kk f.count f.count W' r')∧(e≠0→AnsB P W0 W' r' e):=by
 have hflv:flv f= .agg #[.int .i64 (f.first:Int),.int .i64 (f.blocks:Int),.int .i64 (f.width:Int),.int .i64 (f.count:Int)]:=rfl
 have hw1:=hP.fo.w1
 have hw5:=hP.fo.w2
 have hc1:=hP.c1
 have hlen:=hfo.len
 have hkeep:∀{W1:Wk} {r1:bFw} {il i:Nat} {fx:Fl} {tx:List T5} {Lx:List Ext},aXu P W0 kk il i W1 r1→aAq W0.δ.disk W0.δ.size Lx fx tx→(∀e∈Lx,e∈P.Lv)→aAq W1.δ.disk W1.δ.size Lx fx tx:=by
  intro W1 r1 il i fx tx Lx h1 h2 h3
  rw[←h1.sz,hP.sz]
  exact h2.keep fun x ⟨e,he,h4⟩=>h1.kp x ⟨e,h3 e he,h4⟩
 have hO:=fun b1 b2 b3 b4=>bDu P.bw bd ba bs (bJh P W0 kk b1 b2 b3 b4) (bOg P W0 kk b1 b2 b3 b4) f (aTb P.vts kk) LvF 173 inferInstance [] [pv b1,pv b2,pv b3,pv b4] W.δ.size W.α.room (by
   intro base W1 cd1 ca1 cs1 r1 i u hW1 hg1 hrm1 hsz1 hJ1 hu hac1
   have hg1':W1.α.gs.Perm (P.g::P.g2::base):=by simpa[bJh,aIp,hJ1.ro,hJ1.wo] using hg1
   have hil:i<(aTb P.vts kk).length:=(AK.1 hu).1
   have huv:u.c0=aJr (at0 P.vts) i (2^kk-1):=by
    rw[←aOs hu]
    refine aXr ?_
    rw[aNi] at hil
    have:=Nat.two_pow_pos kk
    omega
   have h1:=ans1ct bd ba bs P W0 kk i b1 b2 b3 b4 W1 cd1 ca1 cs1 hW1 r1 hJ1 base hg1' hP.n ⟨hw1,hw5⟩ LvP (fun W2 r2 il i h2=>hkeep h2 hP.fo hP.sub) hP.sub hP.ord hP.pi hP.vi u huv (by omega) (by omega)
   refine Ct.convP h1 (by simp[bJh]) ?_
   rintro v H' ⟨cd',ca',cs',W',r',e,rfl,rfl,a1,a2,a3,a4,a5⟩
   exact⟨[aAh P.bw bd ba bs,cd',ca',cs',(bJh P W0 kk b1 b2 b3 b4).C r'],⟨cd',ca',cs',W',r',e,rfl,rfl,a1,a2,a3,a4,a5⟩,by simp[bJh]⟩) W cd ca cs h r base (by simpa[bJh,aIp,hJ.ro,hJ.wo] using hg) rfl rfl hJ (fun W1 r1 i h1=>⟨by
    have h2:aXu P W0 kk i i W1 r1:=h1
    have h3:=hkeep h2 hfo hsub
    rw[←h2.sz,hJ.sz] at h3
    exact h3,fun e he=>h1.lv.mem (hsub e he)⟩) hr (by
    have h1:f.count*(2*P.pf.count)≤1000*2000:=DA hcn (by omega)
    have h2:aAb W.δ.size f.width f.count≤f.count:=aAv (aAj h.dev.num.1.1 hfo.w1 hfo.w2)
    show _+_+_*(2*P.pf.count)≤_
    omega) (by omega)
 have hO:∀b1 b2 b3 b4:Nat,Ct AC 90 [pv P.bw,flv f,.func (.func 173) #[] #[pv b1,pv b2,pv b3,pv b4]] (aAh P.bw bd ba bs::cd::ca::cs::bKz P b1 b2 b3 b4 kk r) fun v H'=>
   ∃cd' ca' cs' W' r' e,v= .int .i64 e∧H'=aAh P.bw bd ba bs::cd'::ca'::cs'::bKz P b1 b2 b3 b4 kk r'∧Wc bd ba bs W' cd' ca' cs'∧Ev W W' (aAb W.δ.size f.width f.count+f.count*(2*P.pf.count)) 0∧W'.α.gs.Perm (aIp P r'++base)∧
    (e=0→aXu P W0 kk f.count f.count W' r')∧(e≠0→AnsB P W0 W' r' e):=by
  intro b1 b2 b3 b4
  refine Ct.convP (hO b1 b2 b3 b4) (by simp[bJh]) ?_
  rintro v H' ⟨cd',ca',cs',W',r',e,rfl,rfl,a⟩
  exact⟨aAh P.bw bd ba bs::cd'::ca'::cs'::bKz P b1 b2 b3 b4 kk r',⟨cd',ca',cs',W',r',e,rfl,rfl,a⟩,by simp[bJh]⟩
 have hi0:=hJ.pl
 obtain⟨q,i',t,ok,cx,cb,cy,cc,ro,wo⟩:=r
 dsimp only at hi0
 subst hi0
 unfold bKz bCk at hO
 unfold bCk
 dsimp only at hO⊢
 simp only[show((0:Nat):Int)=0 from rfl] at hO
 rw[hflv] at hO⊢
 refine Ct.intro Tryz.func151 rfl Tryz.ntmps151 (nle rfl) fun w0=> ?_;dsimp only[aAa,AD]
 repeat(refine st ?_;intros)
 rename_i b1 b2 b8 b4 b3
 refine R.callX (hct:=hO _ _ _ _) (h:= ?_)
 rintro _ _ ⟨cd',ca',cs',W',r',e,rfl,rfl,a1,a2,a3,a4,a5⟩
 dsimp only[AA,AB]
 refine nx ?_
 have hnb:aAb W.δ.size f.width f.count≤f.count:=aAv (aAj h.dev.num.1.1 hfo.w1 hfo.w2)
 repeat(refine st ?_;intros)
 (refine Dn.post (Hr:=[aAh P.bw bd ba bs,cd',ca',cs',[(P.ban,row [.func (.func 55) #[pv P.bx] #[],.int .i64 r'.t.c0,.int .i64 r'.t.c1,.int .i64 r'.t.c2,.int .i64 r'.t.c3,.int .i64 r'.t.c4,.bool r'.ok] 199)],r'.cx,r'.cb,r'.cy,r'.cc]) Tryz.results151 (hR:= ?_);exact⟨cd',ca',cs',W',r',e,rfl,rfl,a1,a2.weak (by omega) (AG _),a3,a4,a5⟩)
structure LevX where
 i:Nat
 cd:aAc
 ca:aAc
 cs:aAc
 xa:aAc
 ba':aAc
 xb:aAc
 bb':aAc
 cy:aAc
 cc:aAc
 W:Wk
def bLa (on:Nat) (ts:List T5) (i:Nat):T5:=⟨min (at0 ts i) (at0 ts (i+on)),0,0,0,0⟩
theorem at0in {ts:List T5} (h:∀t∈ts,okT 1 t) (i:Nat):aBa (at0 ts i):=aGy (fun t ht=>(aBm (h t ht)).1) i 0
theorem bOh {ts:List T5} (h:∀t∈ts,okT 1 t) (on i:Nat):okT 1 (bLa on ts i):=by
 have h1:=at0in h i
 have h2:=at0in h (i+on)
 refine okT1 ?_
 unfold aBa at*
 omega
theorem bJi (bw bd ba bs:Nat) (W:Wk) (cd ca cs:aAc) (h:Wc bd ba bs W cd ca cs) (f:Fl) (ts:List T5) (LvF:List Ext) (hfo:aAq W.δ.disk W.δ.size LvF f ts) (hsub:∀e∈LvF,e∈W.live) (hw:f.width=1) (on:Nat) (hon:on≤1000000) (hcn:f.count≤1000000)
  (hr:3*W.δ.size≤W.α.room-W.α.used) (hfit:aAb W.δ.size 1 (f.count-on)≤big W.σ.free) (hac:W.δ.acts≤1000000000):
  Ct AC 152 [pv bw,flv f,.int .i64 (on:Int)] [aAh bw bd ba bs,cd,ca,cs] fun v H'=>
   ∃cd' ca' cs' W' f' e,v= .tuple #[flv f',.int .i64 e]∧H'=[aAh bw bd ba bs,cd',ca',cs']∧Wc bd ba bs W' cd' ca' cs'∧Ev W W' (3*f.count+1) (aAb W.δ.size 1 (f.count-on))∧aBr W.live W W'∧W'.α.gs.Perm W.α.gs∧
    ((e=0∧W'.live.Perm (aCh f' W.live)∧f'.width=1∧f'.count=f.count-on∧aAq W'.δ.disk W.δ.size [f'.ext] f' (bFm on ts))∨(e=6∧f'=⟨0,0,0,0⟩∧W.δ.fault≠-1∧W'.live.Perm W.live)):=by
 obtain⟨⟨hs1,hs2⟩,_⟩:=h.dev.num
 have htl:=hfo.len
 have hfit1:=hfo.fit
 rw[hw] at hfit1
 have hp1:=aAj (s:=W.δ.size) (k:=1) hs1 (by omega) (by omega)
 have hRd:=aIk bw bd ba bs W cd ca cs h f ts LvF hfo (by omega)
 have hflv:flv f= .agg #[.int .i64 (f.first:Int),.int .i64 (f.blocks:Int),.int .i64 (f.width:Int),.int .i64 (f.count:Int)]:=rfl
 have hz:tv T5.zero= .agg #[.int .i64 T5.zero.c0,.int .i64 T5.zero.c1,.int .i64 T5.zero.c2,.int .i64 T5.zero.c3,.int .i64 T5.zero.c4]:=rfl
 obtain⟨nb,hnb⟩:∃nb,nb=aAb W.δ.size 1 (f.count-on):=⟨_,rfl⟩
 rw[←hnb] at hfit⊢
 have hmx:max ((f.count:Int)-(on:Int)) 0=((f.count-on:Nat):Int):=by omega
 have hbad:∀(W':Wk) (cd' ca' cs':aAc) (kk:Nat),Wc bd ba bs W' cd' ca' cs'→Ev W W' kk nb→kk≤3*f.count+1→aBr W.live W W'→W'.α.gs.Perm W.α.gs→W.δ.fault≠-1→W'.live.Perm W.live→
   ∃cd'' ca'' cs'' W'' f' e,Value.tuple #[.agg #[.int .i64 0,.int .i64 0,.int .i64 0,.int .i64 0],.int .i64 6]= .tuple #[flv f',.int .i64 e]∧[aAh bw bd ba bs,cd',ca',cs']=[aAh bw bd ba bs,cd'',ca'',cs'']∧Wc bd ba bs W'' cd'' ca'' cs''∧Ev W W'' (3*f.count+1) nb∧aBr W.live W W''∧W''.α.gs.Perm W.α.gs∧
    ((e=0∧W''.live.Perm (aCh f' W.live)∧f'.width=1∧f'.count=f.count-on∧aAq W''.δ.disk W.δ.size [f'.ext] f' (bFm on ts))∨(e=6∧f'=⟨0,0,0,0⟩∧W.δ.fault≠-1∧W''.live.Perm W.live)):=
  fun W' cd' ca' cs' kk a1 a2 a3 a4 a5 a7 a8=>⟨cd',ca',cs',W',⟨0,0,0,0⟩,6,rfl,rfl,a1,a2.weak a3 (AG _),a4,a5,.inr ⟨rfl,rfl,a7,a8⟩⟩
 rw[hflv] at hRd⊢
 refine Ct.introD Tryz.func152 rfl Tryz.ntmps152 (nle rfl) fun w0=> ?_;dsimp only[aAa,AD]
 repeat(refine st ?_;intros)
 rename_i b4 b6
 refine R.call (hct:=hRd) (h:= ?_)
 rintro _ _ ⟨bxa,ga,ca1,α1,cxa,cba,rfl,rfl,hW1,hE1,hg1,hgn1,hr1⟩
 dsimp only[AA,AB]
 have hu1:α1.used=W.α.used+W.δ.size:=by
  have:=hW1.ar.num.2.2.2
  dsimp only at this
  rw[this,(hg1.map (·.n)).sum_nat,h.ar.num.2.2.2];simp[hgn1];omega
 have hrm1:α1.room=W.α.room:=hE1.room
 have hRd2:=aIk bw bd ba bs {W with α:=α1} cd ca1 cs hW1 f ts LvF hfo (by dsimp only;omega)
 rw[hflv] at hRd2
 repeat(refine st ?_;intros)
 refine R.call (hct:=hRd2) (h:= ?_)
 rintro _ _ ⟨bxb,gb,ca2,α2,cxb,cbb,rfl,rfl,hW2,hE2,hg2,hgn2,hr2⟩
 dsimp only[AA,AB]
 have hu2:α2.used=α1.used+W.δ.size:=by
  have h1:=hW2.ar.num.2.2.2
  have h3:=hW1.ar.num.2.2.2
  dsimp only at h1 h3 hgn2
  rw[h1,(hg2.map (·.n)).sum_nat,h3];simp[hgn2];omega
 have hrm2:α2.room=α1.room:=hE2.room
 have hWr:=aJy bw bd ba bs {W with α:=α2} cd ca2 cs hW2 1 (f.count-on) (by omega) (by omega) (by omega) (by dsimp only;omega)
 dsimp only at hWr
 repeat(refine st ?_;intros)
 rw[hmx]
 refine R.call (hct:=hWr) (h:= ?_)
 rintro _ _ (⟨_,bx2,first,g2,cd3,ca3,cs3,W3,cy,cc,rfl,rfl,hW3,hE3,e1,e2,e3,e4,e5⟩|⟨hfull,_⟩)
 rotate_left
 ·exact absurd hfit (by omega)
 dsimp only[AA,AB]
 rw[←hnb] at e4 e5 hE3
 have hE13:=(hE1.trans hE2).trans hE3
 have hK3:aBr W.live W W3:=fun x _=>by rw[e1]
 have hs3z:W3.δ.size=W.δ.size:=hE13.size
 have hg3':W3.α.gs.Perm (g2::gb::ga::W.α.gs):=e2.trans ((hg2.trans (hg1.cons _)).cons _)
 repeat(refine st ?_;intros)
 refine G.loop (X:=LevX) (fun x=>x.i≤f.count∧Wc bd ba bs x.W x.cd x.ca x.cs∧Ev W x.W (3*x.i) nb∧x.W.α.gs.Perm (g2::gb::ga::W.α.gs)∧
   aGo bw bxa x.W f ts ga (x.i-on) x.xa x.ba'∧aGo bw bxb x.W f ts gb x.i x.xb x.bb'∧aIa bw bx2 x.W first nb 1 (f.count-on) g2 (aCz (bLa on ts) (x.i-on)) x.cy x.cc∧aDm first nb W.live x.W.live∧aBr W.live W x.W)
  (fun x=>[(14,.int .i64 (x.i:Int)),(12,.func (.func 55) #[pv bxa] #[]),(13,.func (.func 55) #[pv bxb] #[]),(11,pv bx2),(4,pv b4),(2,.int .i64 (on:Int)),(6,pv b6)])
  (fun x=>[[(b6,row [.int .i64 0,.int .i64 0,.int .i64 0,.int .i64 0] 27)],[(b4,row [.int .i64 (f.first:Int),.int .i64 (f.blocks:Int),.int .i64 (f.width:Int),.int .i64 (f.count:Int)] 27)],aAh bw bd ba bs,x.cd,x.ca,x.cs,x.xa,x.ba',x.xb,x.bb',x.cy,x.cc]) (fun x=>f.count-x.i) ⟨0,cd3,ca3,cs3,cxa,cba,cxb,cbb,cy,cc,W3⟩
  ⟨AS _,hW3,hE13.weak (AS _) (by omega),hg3',by dsimp only;rw[Nat.zero_sub];exact hr1.move hE13.size,hr2.move hE13.size,by dsimp only;rw[Nat.zero_sub];exact e5,e4,hK3⟩ (body:= ?_)
 rintro⟨i,cd4,ca4,cs4,cxa4,cba4,cxb4,cbb4,cy4,cc4,W4⟩ ⟨hi,hW4,hE4,hg4,hra4,hrb4,hwr4,hl4,hK4⟩
 dsimp only at hi hW4 hE4 hg4 hra4 hrb4 hwr4 hl4 hK4⊢
 have hsz4:W4.δ.size=W.δ.size:=hE4.size
 have hac4:=hE4.acts.2
 have hfo4:aAq W4.δ.disk W4.δ.size LvF f ts:=by rw[hsz4];exact hfo.keep fun x ⟨e,he,h2⟩=>hK4 x ⟨e,hsub e he,h2⟩
 have hsub4:∀e∈LvF,e∈W4.live:=fun e he=>hl4.mem (hsub e he)
 have hact1:∀i:Nat,aAb W.δ.size 1 (i+1)-aAb W.δ.size 1 i≤1:=fun i=>by
  unfold aAb
  have h1:(i+1+aAf W.δ.size 1-1)/aAf W.δ.size 1≤(i+aAf W.δ.size 1-1+aAf W.δ.size 1)/aAf W.δ.size 1:=BY (by omega)
  rw[Nat.add_div_right _ (by omega)] at h1
  omega
 by_cases hlt:i<f.count
 ·have htg:ts[i]? =some ts[i]:=AE (by omega)
  have hgb4:W4.α.gs.Perm (gb::(g2::ga::W.α.gs)):=hg4.trans (.swap _ _ _)
  have hNx:=aJp bw bd ba bs W4 cd4 ca4 cs4 hW4 bxb f ts LvF hfo4 hsub4 gb _ hgb4 i cxb4 cbb4 hrb4 _ htg (by omega)
  have htv:tv ts[i]= .agg #[.int .i64 (ts[i]).c0,.int .i64 (ts[i]).c1,.int .i64 (ts[i]).c2,.int .i64 (ts[i]).c3,.int .i64 (ts[i]).c4]:=rfl
  have hat:=aOs htg
  rw[htv,hz,hsz4,hw] at hNx
  have hac1:=hact1 i
  generalize ht:ts[i]=u at*
  repeat(refine st ?_;intros)
  refine R.callV (fs:=[pv bxb]) (vs:=[]) (hf:=inferInstance) (hct:=hNx) (h:= ?_)
  rintro _ _ ⟨cd5,ca5,W5,cxb5,cbb5,rfl,hW5,hE5,hd5,hσ5,hl5,⟨rfl,hα5,hrb5⟩|⟨rfl,hf5,hδ5,hg5,hx5⟩⟩<;>dsimp only[AA,AB]
  ·have hE45:=hE4.trans hE5
   have hac5:=hE45.acts.2
   have hsz5:W5.δ.size=W.δ.size:=hE45.size
   have hK5:aBr W.live W W5:=fun x hx=>by rw[hd5];exact hK4 x hx
   have hl5':aDm first nb W.live W5.live:=by rw[hl5];exact hl4
   have hra5:aGo bw bxa W5 f ts ga (i-on) cxa4 cba4:=hra4.move hE5.size
   have hwr5:aIa bw bx2 W5 first nb 1 (f.count-on) g2 (aCz (bLa on ts) (i-on)) cy4 cc4:=hwr4.move hE5.size (fun x _ _=>by rw[hd5])
   have hg5:W5.α.gs.Perm (g2::gb::ga::W.α.gs):=by rw[hα5];exact hg4
   by_cases hion:i<on
   ·repeat(refine st ?_;intros)
    refine Dn.round ⟨i+1,cd5,ca5,cs4,cxa4,cba4,cxb5,cbb5,cy4,cc4,W5⟩ ⟨hlt,hW5,hE45.weak (by dsimp only;omega) (by omega),hg5,by dsimp only;rw[show i+1-on=i-on by omega];exact hra5,hrb5,by dsimp only;rw[show i+1-on=i-on by omega];exact hwr5,hl5',hK5⟩ (by dsimp only;omega)
   ·have htg2:ts[i-on]? =some ts[i-on]:=AE (by omega)
    have hga5:W5.α.gs.Perm (ga::(g2::gb::W.α.gs)):=hg5.trans ((CO _ _ _).cons _|>.trans (.swap _ _ _))
    have hfo5:aAq W5.δ.disk W5.δ.size LvF f ts:=by rw[hsz5];exact hfo.keep fun x ⟨e,he,h2⟩=>hK5 x ⟨e,hsub e he,h2⟩
    have hNx2:=aJp bw bd ba bs W5 cd5 ca5 cs4 hW5 bxa f ts LvF hfo5 (fun e he=>hl5'.mem (hsub e he)) ga _ hga5 (i-on) cxa4 cba4 hra5 _ htg2 (by omega)
    have htv2:tv ts[i-on]= .agg #[.int .i64 (ts[i-on]).c0,.int .i64 (ts[i-on]).c1,.int .i64 (ts[i-on]).c2,.int .i64 (ts[i-on]).c3,.int .i64 (ts[i-on]).c4]:=rfl
    have hat2:=aOs htg2
    rw[htv2,hz,hsz5,hw] at hNx2
    have hac2:=hact1 (i-on)
    have hlo:bLa on ts (i-on)=⟨min ts[i-on].c0 u.c0,0,0,0,0⟩:=by unfold bLa;rw[hat2,show i-on+on=i by omega,hat]
    have hlok:=bOh hfit1 on (i-on)
    rw[hlo] at hlok
    have hsucc:aCz (bLa on ts) (i+1-on)=aCz (bLa on ts) (i-on)++[⟨min ts[i-on].c0 u.c0,0,0,0,0⟩]:=by rw[show i+1-on=i-on+1 by omega,aOo,hlo]
    generalize ht2:ts[i-on]=t at*
    repeat(refine st ?_;intros)
    refine R.callV (fs:=[pv bxa]) (vs:=[]) (hf:=inferInstance) (hct:=hNx2) (h:= ?_)
    rintro _ _ ⟨cd6,ca6,W6,cxa6,cba6,rfl,hW6,hE6,hd6,hσ6,hl6,⟨rfl,hα6,hra6⟩|⟨rfl,hf6,hδ6,hg6,hx6⟩⟩<;>dsimp only[AA,AB]
    ·have hE46:=hE45.trans hE6
     have hac6:=hE46.acts.2
     have hsz6:W6.δ.size=W.δ.size:=hE46.size
     have hK6:aBr W.live W W6:=fun x hx=>by rw[hd6];exact hK5 x hx
     have hl6':aDm first nb W.live W6.live:=by rw[hl6];exact hl5'
     have hrb6:aGo bw bxb W6 f ts gb (i+1) cxb5 cbb5:=hrb5.move hE6.size
     have hwr6:aIa bw bx2 W6 first nb 1 (f.count-on) g2 (aCz (bLa on ts) (i-on)) cy4 cc4:=hwr5.move hE6.size (fun x _ _=>by rw[hd6])
     have hg6:W6.α.gs.Perm (g2::gb::ga::W.α.gs):=by rw[hα6];exact hg5
     have hPt:=bNl bw bd ba bs W6 cd6 ca6 cs4 hW6 bx2 first nb 1 (f.count-on) g2 _ cy4 cc4 hwr6 (gb::ga::W.α.gs) hg6 W.live hl6' (by rw[aGx];omega) ⟨min t.c0 u.c0,0,0,0,0⟩ hlok (by omega) (by rw[hsz6];exact hp1)
     have htp:tv ⟨min t.c0 u.c0,0,0,0,0⟩= .agg #[.int .i64 (min t.c0 u.c0),.int .i64 0,.int .i64 0,.int .i64 0,.int .i64 0]:=rfl
     rw[htp] at hPt
     repeat(refine st ?_;intros)
     refine R.call (hct:=hPt) (h:= ?_)
     rintro _ _ ⟨cd7,ca7,cs7,W7,cy7,cc7,e,rfl,rfl,hW7,hE7,hK7,hc7⟩
     try dsimp only[AA,AB]
     have hE47:=hE46.trans hE7
     rcases hc7 with⟨rfl,hg7,hl7,hw7⟩|⟨rfl,hf7,hS7⟩
     ·repeat(refine st ?_;intros)
      refine Dn.round ⟨i+1,cd7,ca7,cs7,cxa6,cba6,cxb5,cbb5,cy7,cc7,W7⟩ ⟨hlt,hW7,hE47.weak (by dsimp only;omega) (by omega),hg7,by dsimp only;rw[show i+1-on=i-on+1 by omega];exact hra6.move hE7.size,hrb6.move hE7.size,by dsimp only;rw[hsucc];exact hw7,hl7,hK6.trans hK7⟩ (by dsimp only;omega)
     ·have hD:=aDz bw bd ba bs W7 cd7 ca7 cs7 hW7 bx2 first nb 1 (f.count-on) g2 (gb::ga::W.α.gs) W.live cy7 cc7 (hS7)
      repeat(refine st ?_;intros)
      refine Go.SL.Lv.call (hc:=hD) (h:= ?_)
      rintro _ _ ⟨cdA,caA,csA,WA,cyA,ccA,rfl,hWA,hEA,hdA,hgA,hlA⟩
      try dsimp only[AA,AB]
      have hRb:=aBh bw bd ba bs WA cdA caA csA hWA bxb f ts gb (ga::W.α.gs) cxb5 cbb5 (.inl ⟨hgA,i+1,hrb6.move (hE7.trans hEA).size⟩)
      refine Go.SL.Lv.call (hc:=hRb) (h:= ?_)
      rintro _ _ ⟨caB,αB,cxB,rfl,hWB,hEB,hgB⟩
      try dsimp only[AA,AB]
      have hRa:=aBh bw bd ba bs {WA with α:=αB} cdA caB csA hWB bxa f ts ga W.α.gs cxa6 cba6 (.inl ⟨hgB,i-on+1,hra6.move (hE7.trans hEA).size⟩)
      refine Go.SL.Lv.call (hc:=hRa) (h:= ?_)
      rintro _ _ ⟨caC,αC,cxC,rfl,hWC,hEC,hgC⟩
      try dsimp only[AA,AB]
      have hEe:=(hE47).trans (hEA.trans (hEB.trans hEC))
      have hKe:aBr W.live W {WA with α:=αC}:=fun x hx=>by show WA.δ.disk x=_;rw[hdA];exact(hK6.trans hK7) x hx
      (refine Go.SL.Lv.nil (Hr:=[aAh bw bd ba bs,cdA,caC,csA]) Tryz.results152 (hR:= ?_);exact hbad {WA with α:=αC} cdA caC csA _ hWC hEe (by omega) hKe hgC (aBd hE46 hf7) hlA)
    ·have hE46:=hE45.trans hE6
     have hf5:W5.δ.fault≠-1:=by omega
     have hKx:aBr W.live W W6:=fun x hx=>by rw[hd6];exact hK5 x hx
     have hD:=aDz bw bd ba bs W6 cd6 ca6 cs4 hW6 bx2 first nb 1 (f.count-on) g2 (gb::W.α.gs) W.live cy4 cc4 (.inl ⟨hg6,by rw[hl6];exact hl5',_,hwr5.move hE6.size (fun x _ _=>by rw[hd6])⟩)
     repeat(refine st ?_;intros)
     refine Go.SL.Lv.call (hc:=hD) (h:= ?_)
     rintro _ _ ⟨cdA,caA,csA,WA,cyA,ccA,rfl,hWA,hEA,hdA,hgA,hlA⟩
     try dsimp only[AA,AB]
     have hRb:=aBh bw bd ba bs WA cdA caA csA hWA bxb f ts gb (W.α.gs) cxb5 cbb5 (.inl ⟨hgA,i+1,hrb5.move (hE6.trans hEA).size⟩)
     refine Go.SL.Lv.call (hc:=hRb) (h:= ?_)
     rintro _ _ ⟨caB,αB,cxB,rfl,hWB,hEB,hgB⟩
     try dsimp only[AA,AB]
     have hRa:=aBh bw bd ba bs {WA with α:=αB} cdA caB csA hWB bxa f ts ga W.α.gs cxa6 cba6 (.inr ⟨hgB,hx6⟩)
     refine Go.SL.Lv.call (hc:=hRa) (h:= ?_)
     rintro _ _ ⟨caC,αC,cxC,rfl,hWC,hEC,hgC⟩
     try dsimp only[AA,AB]
     have hEe:=(hE46).trans (hEA.trans (hEB.trans hEC))
     have hKe:aBr W.live W {WA with α:=αC}:=fun x hx=>by show WA.δ.disk x=_;rw[hdA];exact(hKx) x hx
     (refine Go.SL.Lv.nil (Hr:=[aAh bw bd ba bs,cdA,caC,csA]) Tryz.results152 (hR:= ?_);exact hbad {WA with α:=αC} cdA caC csA _ hWC hEe (by omega) hKe hgC (aBd hE45 hf5) hlA)
  ·have hE45:=hE4.trans hE5
   have hf4:W4.δ.fault≠-1:=by omega
   have hKx:aBr W.live W W5:=fun x hx=>by rw[hd5];exact hK4 x hx
   have hD:=aDz bw bd ba bs W5 cd5 ca5 cs4 hW5 bx2 first nb 1 (f.count-on) g2 (ga::W.α.gs) W.live cy4 cc4 (.inl ⟨hg5,by rw[hl5];exact hl4,_,hwr4.move hE5.size (fun x _ _=>by rw[hd5])⟩)
   repeat(refine st ?_;intros)
   refine Go.SL.Lv.call (hc:=hD) (h:= ?_)
   rintro _ _ ⟨cdA,caA,csA,WA,cyA,ccA,rfl,hWA,hEA,hdA,hgA,hlA⟩
   try dsimp only[AA,AB]
   have hRb:=aBh bw bd ba bs WA cdA caA csA hWA bxb f ts gb (ga::W.α.gs) cxb5 cbb5 (.inr ⟨hgA,hx5⟩)
   refine Go.SL.Lv.call (hc:=hRb) (h:= ?_)
   rintro _ _ ⟨caB,αB,cxB,rfl,hWB,hEB,hgB⟩
   try dsimp only[AA,AB]
   have hRa:=aBh bw bd ba bs {WA with α:=αB} cdA caB csA hWB bxa f ts ga W.α.gs cxa4 cba4 (.inl ⟨hgB,i-on,hra4.move (hE5.trans hEA).size⟩)
   refine Go.SL.Lv.call (hc:=hRa) (h:= ?_)
   rintro _ _ ⟨caC,αC,cxC,rfl,hWC,hEC,hgC⟩
   try dsimp only[AA,AB]
   have hEe:=(hE45).trans (hEA.trans (hEB.trans hEC))
   have hKe:aBr W.live W {WA with α:=αC}:=fun x hx=>by show WA.δ.disk x=_;rw[hdA];exact(hKx) x hx
   (refine Go.SL.Lv.nil (Hr:=[aAh bw bd ba bs,cdA,caC,csA]) Tryz.results152 (hR:= ?_);exact hbad {WA with α:=αC} cdA caC csA _ hWC hEe (by omega) hKe hgC (aBd hE4 hf4) hlA)
 ·obtain rfl:i=f.count:=by omega
  have hCl:=aXm bw bd ba bs W4 cd4 ca4 cs4 hW4 bx2 first nb 1 (f.count-on) g2 _ cy4 cc4 hwr4 (gb::ga::W.α.gs) hg4 W.live hl4 (by omega) (by rw[hsz4];exact hp1)
  repeat(refine st ?_;intros)
  refine R.call (hct:=hCl) (h:= ?_)
  rintro _ _ ⟨cd5,ca5,cs5,W5,cy5,cc5,f',e,rfl,rfl,hW5,hE5,hK5,hg5,hx5,hc5⟩
  try dsimp only[AA,AB]
  have hfv:flv f'= .agg #[.int .i64 (f'.first:Int),.int .i64 (f'.blocks:Int),.int .i64 (f'.width:Int),.int .i64 (f'.count:Int)]:=rfl
  rw[hfv]
  have hD:=aDz bw bd ba bs W5 cd5 ca5 cs5 hW5 bx2 first nb 1 (f.count-on) g2 (gb::ga::W.α.gs) W5.live cy5 cc5 (.inr ⟨hg5,.refl _,hx5⟩)
  repeat(refine st ?_;intros)
  refine Go.SL.Lv.call (hc:=hD) (h:= ?_)
  rintro _ _ ⟨cdA,caA,csA,WA,cyA,ccA,rfl,hWA,hEA,hdA,hgA,hlA⟩
  try dsimp only[AA,AB]
  have hRb:=aBh bw bd ba bs WA cdA caA csA hWA bxb f ts gb (ga::W.α.gs) cxb4 cbb4 (.inl ⟨hgA,f.count,hrb4.move (hE5.trans hEA).size⟩)
  refine Go.SL.Lv.call (hc:=hRb) (h:= ?_)
  rintro _ _ ⟨caB,αB,cxB,rfl,hWB,hEB,hgB⟩
  try dsimp only[AA,AB]
  have hRa:=aBh bw bd ba bs {WA with α:=αB} cdA caB csA hWB bxa f ts ga W.α.gs cxa4 cba4 (.inl ⟨hgB,f.count-on,hra4.move (hE5.trans hEA).size⟩)
  refine Go.SL.Lv.call (hc:=hRa) (h:= ?_)
  rintro _ _ ⟨caC,αC,cxC,rfl,hWC,hEC,hgC⟩
  try dsimp only[AA,AB]
  have hEe:=(hE4.trans hE5).trans (hEA.trans (hEB.trans hEC))
  have hKe:aBr W.live W {WA with α:=αC}:=fun x hx=>by show WA.δ.disk x=_;rw[hdA];exact(hK4.trans hK5) x hx
  (refine Go.SL.Lv.nil (Hr:=[aAh bw bd ba bs,cdA,caC,csA]) Tryz.results152 (hR:= ?_);refine⟨cdA,caC,csA,{WA with α:=αC},f',e,rfl,rfl,hWC,hEe.weak (by omega) (by omega),hKe,hgC,?_⟩)
  rcases hc5 with⟨rfl,hl5,hfw,hfc,hfo5⟩|⟨rfl,rfl,hf5,hl5⟩
  ·rw[aGx] at hfc
   refine .inl ⟨rfl,hlA.trans hl5,hfw,hfc,?_⟩
   show aAq WA.δ.disk _ _ _ _
   unfold bFm
   rw[hdA,←hsz4,htl]
   exact hfo5
  ·exact .inr ⟨rfl,rfl,aBd hE4 hf5,hlA.trans hl5⟩
structure FndX where
 k:Nat
 own:Bool
 f:Fl
 cd:aAc
 ca:aAc
 cs:aAc
 W:Wk
 r:bFw
theorem lvX {first nb:Nat} {Lv live:List Ext}:aDm first nb Lv live↔live.Perm (aCh ⟨first,nb,0,0⟩ Lv):=by
 unfold aDm aCh
 dsimp only[Fl.ext]
 split<;>exact Iff.rfl
def lvO (own:Bool) (f:Fl) (L:List Ext):List Ext:=if own then aCh f L else L
theorem aOv {own:Bool} {f:Fl} {L:List Ext} {e:Ext} (h:e∈L):e∈lvO own f L:=by
 unfold lvO;split
 ·exact aKq h
 ·exact h
theorem aZy (f:Fl) (L:List Ext):(aCh f L).length≤L.length+1:=by unfold aCh;split<;>simp
abbrev bCl:Nat:=6000000
theorem bJj (p:Jp) (bw bd ba bs bj:Nat) (hbw:p.bw=bw) (W:Wk) (cd ca cs:aAc) (h:Wc bd ba bs W cd ca cs) (pf vf:Fl) (vts qts:List T5) (hpf:aBx W (pf,aAx qts)) (hvf:aBx W (vf,vts)) (hwv:vf.width=1) (hcv:vf.count≤500) (hcp:pf.count≤500)
  (hpp:∀x∈aAx qts,okP vts.length x) (m:Nat) (hm1:aAb W.δ.size 2 pf.count≤m) (hm2:aAb W.δ.size 1 vf.count≤m) (hm:m≤1000) (hroom:m*(W.live.length+3)+(aBb W.live+2*m)≤W.σ.n) (hr:5*W.δ.size≤W.α.room-W.α.used) (hac:W.δ.acts≤900000000) (ph:Option Addr) (nh capj:Nat):
  Ct AC 118 [pv bj,flv pf,flv vf] [aFa bj bw 0 ph nh capj,aAh bw bd ba bs,cd,ca,cs] fun v H'=>
   ∃f e cd' ca' cs' W',v= .tuple #[flv f,.int .i64 e]∧H'=[aFa bj bw 0 ph nh capj,aAh bw bd ba bs,cd',ca',cs']∧Wc bd ba bs W' cd' ca' cs'∧aDp p W W' bCl 20000 none ((aAx qts).map (aCt vts)) f e∧
    (f.count≤pf.count∧f.blocks≤aAb W.δ.size 2 pf.count∧(e=0→f.width=2∧f.count=pf.count)):=by
 obtain⟨LvP,hfoP,hsubP⟩:=hpf
 obtain⟨LvV,hfoV,hsubV⟩:=hvf
 dsimp only at hfoP hfoV
 obtain⟨⟨hs1,hs2⟩,_⟩:=h.dev.num
 have hlP:=hfoP.len
 have hlV:=hfoV.len
 have hv1:∀t∈vts,okT 1 t:=by have:=hfoV.fit;rw[hwv] at this;exact this
 have hvi:∀t∈vts,aBa t.c0:=fun t ht=>(aBm (hv1 t ht)).1
 have hpi:∀x∈aAx qts,aBa x.c2:=fun x hx=>(aBm (hfoP.fit x hx)).2.2.1
 obtain⟨_,_,_,_,_,hfk,_⟩:=h.sp
 have hbig0:m≤big W.σ.free:=aSb h.live hfk (by
  have:m*(W.live.length+1)≤m*(W.live.length+3):=BU _ (by omega)
  omega)
 obtain⟨nb,hnb⟩:∃nb,nb=aAb W.δ.size 2 pf.count:=⟨_,rfl⟩
 rw[←hnb] at hm1⊢
 have hflv:∀f:Fl,flv f= .agg #[.int .i64 (f.first:Int),.int .i64 (f.blocks:Int),.int .i64 (f.width:Int),.int .i64 (f.count:Int)]:=fun _=>rfl
 have hh2:1≤aAf W.δ.size 2:=aAj hs1 (by omega) (by omega)
 have hRd:=aIk bw bd ba bs W cd ca cs h pf (aAx qts) LvP hfoP (by omega)
 have hfin:∀(W':Wk) (cd' ca' cs':aAc) (f:Fl) (e:Int) (kk:Nat),Wc bd ba bs W' cd' ca' cs'→W'.α.gs.Perm W.α.gs→Ev W W' kk 20000→kk≤bCl→aBr W.live W W'→
   ((e=0∧W'.live.Perm (aCh f W.live)∧f.width=2∧f.count=pf.count∧aAq W'.δ.disk W.δ.size [f.ext] f ((aAx qts).map (aCt vts)))∨(e=6∧f=⟨0,0,0,0⟩∧W.δ.fault≠-1∧W'.live.Perm W.live))→
   ∃f' e' cd'' ca'' cs'' W'',Value.tuple #[flv f,.int .i64 e]= .tuple #[flv f',.int .i64 e']∧[aFa bj bw 0 ph nh capj,aAh bw bd ba bs,cd',ca',cs']=[aFa bj bw 0 ph nh capj,aAh bw bd ba bs,cd'',ca'',cs'']∧Wc bd ba bs W'' cd'' ca'' cs''∧aDp p W W'' bCl 20000 none ((aAx qts).map (aCt vts)) f' e'∧
    (f'.count≤pf.count∧f'.blocks≤nb∧(e'=0→f'.width=2∧f'.count=pf.count)):=by
  intro W' cd' ca' cs' f e kk a1 a2 a3 a4 a5 a6
  refine⟨f,e,cd',ca',cs',W',rfl,rfl,a1,⟨a2,a3.room,a3.size,a3.n,by have:=a3.acts.2;omega,a3.big,a3.fault,a5,?_⟩,?_⟩
  ·rcases a6 with⟨x1,x2,_,_,x3⟩|⟨x1,x2,x3,x4⟩
   ·exact .inl ⟨x1,rfl,x2,x3⟩
   ·exact .inr ⟨by omega,x2,x4,.inl ⟨x1,x3⟩⟩
  ·rcases a6 with⟨x1,x2,y1,y2,x3⟩|⟨x1,rfl,x3,x4⟩
   ·exact⟨by omega,by rw[x3.blk,y1,y2,hnb];exact AG _,fun _=>⟨y1,y2⟩⟩
   ·exact⟨AS _,AS _,fun h=>by omega⟩
 rw[hflv pf] at hRd
 rw[hflv pf,hflv vf]
 unfold aFa at hfin⊢
 refine Ct.introD Tryz.func118 rfl Tryz.ntmps118 (nle rfl) fun w0=> ?_;dsimp only[aAa,AD]
 repeat(first|(refine st ?_;intros)|refine G.draw [] (h:= ?_))
 rename_i b4 b5 b6
 refine R.callX (hct:=hRd) (h:= ?_)
 rintro _ _ ⟨bx,g,ca1,α1,cx,cb,rfl,rfl,hW1,hE1,hg1,hgn1,hr1⟩
 dsimp only[AA,AB]
 refine nx ?_
 have hu1:α1.used=W.α.used+W.δ.size:=by
  have:=hW1.ar.num.2.2.2
  dsimp only at this
  rw[this,(hg1.map (·.n)).sum_nat,h.ar.num.2.2.2];simp[hgn1];omega
 have hrm1:α1.room=W.α.room:=hE1.room
 have hWr:=aJy bw bd ba bs {W with α:=α1} cd ca1 cs hW1 2 pf.count (by omega) (by omega) (by omega) (by dsimp only;omega)
 dsimp only at hWr
 rw[←hnb] at hWr
 repeat(first|(refine st ?_;intros)|refine G.draw [] (h:= ?_))
 refine R.callX (hct:=hWr) (h:= ?_)
 rintro _ _ (⟨_,bx2,first,g2,cd2,ca2,cs2,W2,cy,cc,rfl,rfl,hW2,hE2,e1,e2,e3,e4,e5⟩|⟨hfull,_⟩)
 rotate_left
 ·exact absurd hbig0 (by omega)
 dsimp only[AA,AB]
 refine nx ?_
 have hE12:=hE1.trans hE2
 have hs2z:W2.δ.size=W.δ.size:=hE12.size
 have hK2:aBr W.live W W2:=fun x _=>by rw[e1]
 have hg2:W2.α.gs.Perm (g::g2::W.α.gs):=(e2.trans (hg1.cons _)).trans (.swap _ _ _)
 have hused:∀{W1:Wk} {cd1 ca1 cs1:aAc},Wc bd ba bs W1 cd1 ca1 cs1→W1.α.gs.Perm (g::g2::W.α.gs)→W1.α.used=W.α.used+2*W.δ.size:=by
  intro W1 cd1 ca1 cs1 h1 h2
  rw[h1.ar.num.2.2.2,(h2.map (·.n)).sum_nat,h.ar.num.2.2.2];simp[hgn1,e3];omega
 repeat(first|(refine st ?_;intros)|refine G.draw [] (h:= ?_))
 rename_i ban
 have hM:=aQz bw bd ba bs W2 cd2 ca2 cs2 hW2 bx ban pf (aAx qts) LvP (by rw[e1];exact hfoP) (fun e he=>e4.mem (hsubP e he)) g (g2::W.α.gs) hg2 0 (AS _) cx cb (hr1.move hE2.size) T5.zero false (by rw[e1];omega)
 unfold bCk at hM
 refine R.call (hct:=hM) (h:= ?_)
 rintro _ _ ⟨cd3,ca3,W3,cx3,cb3,t3,ok3,e,rfl,rfl,hW3,hE3,hd3,hσ3,hl3,hc3⟩
 try dsimp only[AA,AB]
 have hE13:=hE12.trans hE3
 have hK3:aBr W.live W W3:=fun x hx=>by rw[hd3];exact hK2 x hx
 have hlv3:aDm first nb W.live W3.live:=by rw[hl3];exact e4
 have hwr3:aIa bw bx2 W3 first nb 2 pf.count g2 [] cy cc:=by
  exact e5.move hE3.size (fun x _ _=>by rw[hd3])
 rcases hc3 with⟨rfl,hg3,rfl,hok3,hr3⟩|⟨rfl,hf3,hg3,hx3⟩
 rotate_left
 ·have hD:=aDz bw bd ba bs W3 cd3 ca3 cs2 hW3 bx2 first nb 2 pf.count g2 (W.α.gs) (W.live) cy cc (.inl ⟨hg3,hlv3,_,hwr3⟩)
  repeat(first|(refine st ?_;intros)|refine G.draw [] (h:= ?_))
  refine Go.SL.Lv.call (hc:=hD) (h:= ?_)
  rintro _ _ ⟨cdA,caA,csA,WA,cyA,ccA,rfl,hWA,hEA,hdA,hgA,hlA⟩
  try dsimp only[AA,AB]
  have hRc:=aBh bw bd ba bs WA cdA caA csA hWA bx pf (aAx qts) g W.α.gs cx3 cb3 (.inr ⟨hgA,hx3⟩)
  refine Go.SL.Lv.call (hc:=hRc) (h:= ?_)
  rintro _ _ ⟨caB,αB,cxB,rfl,hWB,hEB,hgB⟩
  try dsimp only[AA,AB]
  have hEe:=(hE13).trans (hEA.trans hEB)
  have hKe:aBr W.live W {WA with α:=αB}:=fun x hx=>by show WA.δ.disk x=_;rw[hdA];exact(hK3) x hx
  (refine Go.SL.Lv.nil (Hr:=[[(bj,row [pv bw,.int .i64 0,.slice ph nh capj] 95)],aAh bw bd ba bs,cdA,caB,csA]) Tryz.results118 (hR:= ?_);exact hfin {WA with α:=αB} cdA caB csA ⟨0,0,0,0⟩ 6 _ hWB hgB (hEe.weak (AG _) (by omega)) (by unfold bCl;omega) hKe (.inr ⟨rfl,rfl,aBd hE12 hf3,hlA⟩))
 have hmin:min (0+1) pf.count=min 1 pf.count:=rfl
 rw[hok3]
 have hJ0:aXu ⟨bw,bx,bx2,ban,first,nb,g,g2,pf,aAx qts,vts,W.live⟩ W3 0 0 0 W3 ⟨0,0,bOf (aAx qts) 0,decide (0<pf.count),cx3,cb3,cy,cc,true,true⟩:=
  ⟨rfl,rfl,rfl,hr3,hwr3,hlv3,aBr.refl _ _,id,AS _,rfl,rfl,fun j x hj=>absurd hj (Nat.not_lt_zero _),fun j x _ hx=>by
   have:=hpp x (AZ hx)
   unfold okP at this
   unfold ltP;omega⟩
 have hlev0:aTb vts 0=vts:=bFn hv1
 repeat(first|(refine st ?_;intros)|refine G.draw [] (h:= ?_))
 rename_i b13
 refine G.loop (X:=FndX) (fun x=>Wc bd ba bs x.W x.cd x.ca x.cs∧aXu ⟨bw,bx,bx2,ban,first,nb,g,g2,pf,aAx qts,vts,lvO x.own x.f W.live⟩ x.W x.k 0 0 x.W x.r∧x.W.α.gs.Perm (g::g2::W.α.gs)∧(∃LvF,aAq x.W.δ.disk W.δ.size LvF x.f (aTb vts x.k)∧∀e∈LvF,e∈lvO x.own x.f W.live)∧x.f.width=1∧
   aBr W.live W x.W∧Ev W x.W (1+x.k*600000) (nb+x.k*1000)∧(x.k=0→x.own=false)∧x.k≤9∧(x.own=true→x.f.blocks≤m))
  (fun x=>[(15,.int .i64 (x.k:Int)),(14,.bool x.own),(0,pv bj),(8,pv bx),(10,pv bx2),(11,pv ban),(13,pv b13),(6,pv b6)])
  (fun x=>[[(b6,row [.int .i64 0,.int .i64 0,.int .i64 0,.int .i64 0] 27)],[(b13,row [.int .i64 (x.f.first:Int),.int .i64 (x.f.blocks:Int),.int .i64 (x.f.width:Int),.int .i64 (x.f.count:Int)] 27)],[(bj,row [pv bw,.int .i64 0,.slice ph nh capj] 95)],[(ban,row [.func (.func 55) #[pv bx] #[],.int .i64 x.r.t.c0,.int .i64 x.r.t.c1,.int .i64 x.r.t.c2,.int .i64 x.r.t.c3,.int .i64 x.r.t.c4,.bool x.r.ok] 199)],aAh bw bd ba bs,x.cd,x.ca,x.cs,x.r.cx,x.r.cb,x.r.cy,x.r.cc]) (fun x=>20-x.k) ⟨0,false,vf,cd3,ca3,cs2,W3,_⟩
  ⟨hW3,hJ0,hg3,⟨LvV,by rw[hlev0];exact hfoV.keep fun x ⟨e,he,h2⟩=>hK3 x ⟨e,hsubV e he,h2⟩,hsubV⟩,hwv,hK3,hE13.weak (by dsimp only;omega) (by dsimp only;omega),fun _=>rfl,by dsimp only;omega,fun h=>by cases h⟩ (body:= ?_)
 rintro⟨k,own,f,cd4,ca4,cs4,W4,r4⟩ ⟨hW4,hJ4,hg4,⟨LvF,hfoF,hsubF⟩,hw4,hK4,hE4,hown,hk10,hfm⟩
 dsimp only at hW4 hJ4 hg4 hfoF hsubF hw4 hK4 hE4 hown hk10 hfm⊢
 have hsz4:W4.δ.size=W.δ.size:=hE4.size
 have hac4:=hE4.acts.2
 have hlF:=hfoF.len
 rw[aNi] at hlF
 have hp2:=Nat.two_pow_pos k
 have hu4:=hused hW4 hg4
 have hrm4:W4.α.room=W.α.room:=hE4.room
 have hF4:AnsF ⟨bw,bx,bx2,ban,first,nb,g,g2,pf,aAx qts,vts,lvO own f W.live⟩ W4 LvP:=
  ⟨hlP,by rw[hsz4];exact hfoP.keep fun x ⟨e,he,h2⟩=>hK4 x ⟨e,hsubP e he,h2⟩,fun e he=>aOv (hsubP e he),aSh qts,hpi,hvi,hJ4.sz,by dsimp only;omega⟩
 have hAn:=bFx bd ba bs _ W4 LvP hF4 k W4 cd4 ca4 cs4 hW4 r4 hJ4 W.α.gs hg4 f LvF (by rw[hsz4];exact hfoF) hsubF (by omega) (by omega) (by omega)
 have hok4:=hJ4.oo
 have hq4:=hJ4.qn
 have hhi4:=hJ4.hi
 have hrd4:=hJ4.rd
 have hwr4:=hJ4.wr
 have hlv4:=hJ4.lv
 dsimp only at hok4 hq4 hhi4 hrd4 hwr4 hlv4 hAn
 unfold bCk at hAn
 rw[hflv f] at hAn
 have hbig:∀{W1:Wk} {cd1 ca1 cs1:aAc},Wc bd ba bs W1 cd1 ca1 cs1→W1.σ.n=W.σ.n→aDm first nb (lvO own f W.live) W1.live→m≤big W1.σ.free:=by
  intro W1 cd1 ca1 cs1 h1 hn hlv
  obtain⟨_,_,_,_,_,hfk1,_⟩:=h1.sp
  have h2:=lvX.1 hlv
  have h3:=h2.length_eq
  have h4:=aFp h2
  rw[aLw] at h4
  have h5:=aZy ⟨first,nb,0,0⟩ (lvO own f W.live)
  have h6:(lvO own f W.live).length≤W.live.length+1:=by
   unfold lvO;split
   ·exact aZy _ _
   ·omega
  have h7:aBb (lvO own f W.live)≤m+aBb W.live:=by
   unfold lvO;split
   ·rename_i ho
    rw[aLw]
    have:=hfm ho
    omega
   ·omega
  refine aSb h1.live hfk1 ?_
  have h8:m*(W1.live.length+1)≤m*(W.live.length+3):=BU _ (by omega)
  dsimp only at h4
  rw[hn];omega
 by_cases hlt:r4.q<pf.count
 rotate_left
 ·have hqe:r4.q=pf.count:=by omega
  rw[decide_eq_false hlt] at hok4
  have hps:((aAx qts).take r4.q).map (aCt vts)=(aAx qts).map (aCt vts):=by rw[List.take_of_length_le (by omega)]
  rw[hps] at hwr4
  have hCl0:=fun (L:List Ext) (W5:Wk) (cs5:aAc) (hW5:Wc bd ba bs W5 cd4 ca4 cs5) (hδ:W5.δ=W4.δ) (hα:W5.α=W4.α) (hl:aDm first nb L W5.live)=>aXm bw bd ba bs W5 cd4 ca4 cs5 hW5 bx2 first nb 2 pf.count g2 _ r4.cy r4.cc (hwr4.move (by rw[hδ]) (fun x _ _=>by rw[hδ])) (g::W.α.gs) (by rw[hα];exact hg4.trans (.swap _ _ _)) L hl (by rw[hδ];omega) (by rw[hδ,hsz4];exact hh2)
  have hlen:((aAx qts).map (aCt vts)).length=pf.count:=by rw[AX];exact hlP
  cases own with
  |false=>
   have hCl:=hCl0 W.live W4 cs4 hW4 rfl rfl (by exact hlv4)
   repeat(first|(refine st ?_;intros)|refine G.draw [] (h:= ?_))
   refine R.call (hct:=hCl) (h:= ?_)
   rintro _ _ ⟨cd6,ca6,cs6,W6,cy6,cc6,f6,e6,rfl,rfl,hW6,hE6,hK6,hg6,hx6,hc6⟩
   try dsimp only[AA,AB]
   rw[hflv f6]
   have hD:=aDz bw bd ba bs W6 cd6 ca6 cs6 hW6 bx2 first nb 2 pf.count g2 (g::W.α.gs) W6.live cy6 cc6 (.inr ⟨hg6,.refl _,hx6⟩)
   repeat(first|(refine st ?_;intros)|refine G.draw [] (h:= ?_))
   refine Go.SL.Lv.call (hc:=hD) (h:= ?_)
   rintro _ _ ⟨cdA,caA,csA,WA,cyA,ccA,rfl,hWA,hEA,hdA,hgA,hlA⟩
   try dsimp only[AA,AB]
   have hRc:=aBh bw bd ba bs WA cdA caA csA hWA bx pf (aAx qts) g W.α.gs r4.cx r4.cb (.inl ⟨hgA,_,hrd4.move (by rw[hEA.size,hE6.size])⟩)
   refine Go.SL.Lv.call (hc:=hRc) (h:= ?_)
   rintro _ _ ⟨caB,αB,cxB,rfl,hWB,hEB,hgB⟩
   try dsimp only[AA,AB]
   have hEe:=(hE4).trans (hE6.trans (hEA.trans hEB))
   have hKe:aBr W.live W {WA with α:=αB}:=fun x hx=>by show WA.δ.disk x=_;rw[hdA,hK6 x hx];exact hK4 x hx
   (refine Go.SL.Lv.nil (Hr:=[[(bj,row [pv bw,.int .i64 0,.slice ph nh capj] 95)],aAh bw bd ba bs,cdA,caB,csA]) Tryz.results118 (hR:= ?_);refine hfin {WA with α:=αB} cdA caB csA f6 e6 _ hWB hgB (hEe.weak (AG _) (by omega)) (by unfold bCl;omega) hKe ?_)
   rcases hc6 with⟨rfl,hl6,hfw,hfc,hfo6⟩|⟨rfl,rfl,hf6,hl6⟩
   ·exact .inl ⟨rfl,hlA.trans hl6,hfw,hfc.trans hlen,by rw[hdA];rw[hsz4] at hfo6;exact hfo6⟩
   ·exact .inr ⟨rfl,rfl,aBd (hE4) hf6,hlA.trans hl6⟩
  |true=>
   have hFr:=aKn bw bd ba bs W4 cd4 ca4 cs4 hW4 f (aCh ⟨first,nb,0,0⟩ W.live) (aDm.add ((lvX.1 hlv4).trans (aDv _ _ _)))
   rw[hflv f] at hFr
   repeat(first|(refine st ?_;intros)|refine G.draw [] (h:= ?_))
   refine R.callX (hct:=hFr) (h:= ?_)
   rintro _ _ ⟨cs5,W5,rfl,rfl,hW5,hE5,hδ5,hα5,hl5⟩
   dsimp only[AA,AB]
   refine nx ?_
   have hCl:=hCl0 W.live W5 cs5 hW5 hδ5 hα5 (lvX.2 (by rw[hl5]))
   repeat(first|(refine st ?_;intros)|refine G.draw [] (h:= ?_))
   refine R.call (hct:=hCl) (h:= ?_)
   rintro _ _ ⟨cd6,ca6,cs6,W6,cy6,cc6,f6,e6,rfl,rfl,hW6,hE6,hK6,hg6,hx6,hc6⟩
   try dsimp only[AA,AB]
   rw[hflv f6]
   have hD:=aDz bw bd ba bs W6 cd6 ca6 cs6 hW6 bx2 first nb 2 pf.count g2 (g::W.α.gs) W6.live cy6 cc6 (.inr ⟨hg6,.refl _,hx6⟩)
   repeat(first|(refine st ?_;intros)|refine G.draw [] (h:= ?_))
   refine Go.SL.Lv.call (hc:=hD) (h:= ?_)
   rintro _ _ ⟨cdA,caA,csA,WA,cyA,ccA,rfl,hWA,hEA,hdA,hgA,hlA⟩
   try dsimp only[AA,AB]
   have hRc:=aBh bw bd ba bs WA cdA caA csA hWA bx pf (aAx qts) g W.α.gs r4.cx r4.cb (.inl ⟨hgA,_,hrd4.move (by rw[hEA.size,hE6.size,hδ5])⟩)
   refine Go.SL.Lv.call (hc:=hRc) (h:= ?_)
   rintro _ _ ⟨caB,αB,cxB,rfl,hWB,hEB,hgB⟩
   try dsimp only[AA,AB]
   have hEe:=(hE4.trans hE5).trans (hE6.trans (hEA.trans hEB))
   have hKe:aBr W.live W {WA with α:=αB}:=fun x hx=>by show WA.δ.disk x=_;rw[hdA,hK6 x hx,hδ5];exact hK4 x hx
   (refine Go.SL.Lv.nil (Hr:=[[(bj,row [pv bw,.int .i64 0,.slice ph nh capj] 95)],aAh bw bd ba bs,cdA,caB,csA]) Tryz.results118 (hR:= ?_);refine hfin {WA with α:=αB} cdA caB csA f6 e6 _ hWB hgB (hEe.weak (AG _) (by omega)) (by unfold bCl;omega) hKe ?_)
   rcases hc6 with⟨rfl,hl6,hfw,hfc,hfo6⟩|⟨rfl,rfl,hf6,hl6⟩
   ·exact .inl ⟨rfl,hlA.trans hl6,hfw,hfc.trans hlen,by rw[hdA];rw[hδ5,hsz4] at hfo6;exact hfo6⟩
   ·exact .inr ⟨rfl,rfl,aBd (hE4.trans hE5) hf6,hlA.trans hl6⟩
 rw[decide_eq_true hlt] at hok4
 have htg:(aAx qts)[r4.q]? =some (aAx qts)[r4.q]:=AE (by omega)
 have hpk:=hpp _ (B4 (l:=aAx qts) (n:=r4.q) (by omega))
 have hkq:=hhi4 r4.q _ (AG _) htg
 have hkn:2^k≤vts.length:=by
  unfold okP at hpk
  unfold ltP at hkq
  have h1:k≤(aAx qts)[r4.q].c0.toNat:=by omega
  have h2:=Nat.pow_le_pow_right (n:=2) (by omega) h1
  omega
 have hk8:k≤8:=by
  rcases DQ k 9 with h1|h1
  ·omega
  ·have h2:=Nat.pow_le_pow_right (n:=2) (by omega) h1
   have:2^9=512:=by decide
   omega
 have hwk:AH .i64 ((k:Int)+1)=((k+1:Nat):Int):=by rw[aAd (by omega)];omega
 have hk512:2^k≤512:=by omega
 have hsh:AH .i64 (1*2^(min ((k:Nat):Int).toNat IntKind.i64.bits))=((2^k:Nat):Int):=by
  have h1:min ((k:Nat):Int).toNat IntKind.i64.bits=k:=by
   rw[AP];exact C0 (by show k≤64;omega)
  rw[h1]
  have h2:(1:Int)*2^k=((2^k:Nat):Int):=by rw[Int.one_mul];simp
  rw[h2];exact aAd (by omega)
 repeat(first|(refine st ?_;intros)|refine G.draw [] (h:= ?_))
 refine R.callX (hct:=hAn) (h:= ?_)
 rintro _ _ ⟨cd5,ca5,cs5,W5,r5,e,rfl,rfl,hW5,hE5,hg5,hJ5,hB5⟩
 dsimp only[AA,AB]
 refine nx ?_
 have hfc5:f.count+f.count*(2*pf.count)≤500+500*(2*500):=by
  have:f.count*(2*pf.count)≤500*(2*500):=DA (by omega) (by omega)
  omega
 have hE45:=hE4.trans hE5
 have hac5:=hE45.acts.2
 by_cases he:e=0
 rotate_left
 ·cases own with
  |false=>
   obtain⟨e6,hfl5,hkp5,hrd5,hwr5⟩:=hB5 he
   dsimp only at hkp5 hrd5 hwr5
   subst e6
   have hK5:aBr W.live W W5:=hK4.trans (hkp5.sub fun e he=>aOv he)
   have hwr6:WSt bw bx2 first nb 2 pf.count g2 (if r5.ro=true then g::W.α.gs else W.α.gs) W.live W5 r5.cy r5.cc:=by
    rcases hwr5 with⟨a,b,ps,c⟩|⟨a,b,c⟩
    ·refine .inl ⟨?_,b,ps,c⟩
     refine hg5.trans ?_;unfold aIp;rw[a];cases r5.ro<;>simp[CO]
    ·refine .inr ⟨?_,b,c⟩
     refine hg5.trans ?_;unfold aIp;rw[a];cases r5.ro<;>simp
   have hrd6:∀(WA:Wk),WA.δ.size=W5.δ.size→WA.α.gs.Perm (if r5.ro=true then g::W.α.gs else W.α.gs)→RSt bw bx pf (aAx qts) g W.α.gs WA r5.cx r5.cb:=by
    intro WA hs hgs
    rcases hrd5 with⟨a,pos,b⟩|⟨a,b⟩
    ·rw[if_pos a] at hgs;exact .inl ⟨hgs,pos,b.move hs⟩
    ·rw[if_neg (by rw[a];decide)] at hgs;exact .inr ⟨hgs,b⟩
   have hD:=aDz bw bd ba bs W5 cd5 ca5 cs5 hW5 bx2 first nb 2 pf.count g2 (if r5.ro=true then g::W.α.gs else W.α.gs) (W.live) r5.cy r5.cc (hwr6)
   repeat(first|(refine st ?_;intros)|refine G.draw [] (h:= ?_))
   refine Go.SL.Lv.call (hc:=hD) (h:= ?_)
   rintro _ _ ⟨cdA,caA,csA,WA,cyA,ccA,rfl,hWA,hEA,hdA,hgA,hlA⟩
   try dsimp only[AA,AB]
   have hRc:=aBh bw bd ba bs WA cdA caA csA hWA bx pf (aAx qts) g W.α.gs r5.cx r5.cb (hrd6 WA hEA.size hgA)
   refine Go.SL.Lv.call (hc:=hRc) (h:= ?_)
   rintro _ _ ⟨caB,αB,cxB,rfl,hWB,hEB,hgB⟩
   try dsimp only[AA,AB]
   have hEe:=(hE45).trans (hEA.trans hEB)
   have hKe:aBr W.live W {WA with α:=αB}:=fun x hx=>by show WA.δ.disk x=_;rw[hdA];exact(hK5) x hx
   (refine Go.SL.Lv.nil (Hr:=[[(bj,row [pv bw,.int .i64 0,.slice ph nh capj] 95)],aAh bw bd ba bs,cdA,caB,csA]) Tryz.results118 (hR:= ?_);exact hfin {WA with α:=αB} cdA caB csA ⟨0,0,0,0⟩ 6 _ hWB hgB (hEe.weak (AG _) (by omega)) (by unfold bCl;omega) hKe (.inr ⟨rfl,rfl,aBd hE4 hfl5,hlA⟩))
  |true=>
   obtain⟨e6,hfl5,hkp5,hrd5,hwr5⟩:=hB5 he
   dsimp only at hkp5 hrd5 hwr5
   subst e6
   have hK5:aBr W.live W W5:=hK4.trans (hkp5.sub fun e he=>aOv he)
   have hlx:W5.live.Perm (aCh f (if r5.wo=true then aCh ⟨first,nb,0,0⟩ W.live else W.live)):=by
    rcases hwr5 with⟨a,b,_⟩|⟨a,b,_⟩
    ·rw[if_pos a];exact(lvX.1 b).trans (aDv _ _ _)
    ·rw[if_neg (by rw[a];decide)];exact b
   have hFr:=aKn bw bd ba bs W5 cd5 ca5 cs5 hW5 f _ (aDm.add hlx)
   rw[hflv f] at hFr
   repeat(first|(refine st ?_;intros)|refine G.draw [] (h:= ?_))
   refine R.callX (hct:=hFr) (h:= ?_)
   rintro _ _ ⟨cs6,W6,rfl,rfl,hW6,hE6,hδ6,hα6,hl6⟩
   dsimp only[AA,AB]
   refine nx ?_
   have hE46:=hE45.trans hE6
   have hwr6:WSt bw bx2 first nb 2 pf.count g2 (if r5.ro=true then g::W.α.gs else W.α.gs) W.live W6 r5.cy r5.cc:=by
    rcases hwr5 with⟨a,b,ps,c⟩|⟨a,b,c⟩
    ·refine .inl ⟨?_,lvX.2 (by rw[hl6,if_pos a]),ps,c.move hE6.size (fun x _ _=>by rw[hδ6])⟩
     rw[hα6];refine hg5.trans ?_;unfold aIp;rw[a];cases r5.ro<;>simp[CO]
    ·refine .inr ⟨?_,by rw[hl6,if_neg (by rw[a];decide)],c⟩
     rw[hα6];refine hg5.trans ?_;unfold aIp;rw[a];cases r5.ro<;>simp
   have hKx:aBr W.live W W6:=fun x hx=>by rw[hδ6];exact hK5 x hx
   have hrd6:∀(WA:Wk),WA.δ.size=W5.δ.size→WA.α.gs.Perm (if r5.ro=true then g::W.α.gs else W.α.gs)→RSt bw bx pf (aAx qts) g W.α.gs WA r5.cx r5.cb:=by
    intro WA hs hgs
    rcases hrd5 with⟨a,pos,b⟩|⟨a,b⟩
    ·rw[if_pos a] at hgs;exact .inl ⟨hgs,pos,b.move hs⟩
    ·rw[if_neg (by rw[a];decide)] at hgs;exact .inr ⟨hgs,b⟩
   have hD:=aDz bw bd ba bs W6 cd5 ca5 cs6 hW6 bx2 first nb 2 pf.count g2 (if r5.ro=true then g::W.α.gs else W.α.gs) (W.live) r5.cy r5.cc (hwr6)
   repeat(first|(refine st ?_;intros)|refine G.draw [] (h:= ?_))
   refine Go.SL.Lv.call (hc:=hD) (h:= ?_)
   rintro _ _ ⟨cdA,caA,csA,WA,cyA,ccA,rfl,hWA,hEA,hdA,hgA,hlA⟩
   try dsimp only[AA,AB]
   have hRc:=aBh bw bd ba bs WA cdA caA csA hWA bx pf (aAx qts) g W.α.gs r5.cx r5.cb (hrd6 WA (by rw[hEA.size,hE6.size]) hgA)
   refine Go.SL.Lv.call (hc:=hRc) (h:= ?_)
   rintro _ _ ⟨caB,αB,cxB,rfl,hWB,hEB,hgB⟩
   try dsimp only[AA,AB]
   have hEe:=(hE46).trans (hEA.trans hEB)
   have hKe:aBr W.live W {WA with α:=αB}:=fun x hx=>by show WA.δ.disk x=_;rw[hdA];exact(hKx) x hx
   (refine Go.SL.Lv.nil (Hr:=[[(bj,row [pv bw,.int .i64 0,.slice ph nh capj] 95)],aAh bw bd ba bs,cdA,caB,csA]) Tryz.results118 (hR:= ?_);exact hfin {WA with α:=αB} cdA caB csA ⟨0,0,0,0⟩ 6 _ hWB hgB (hEe.weak (AG _) (by omega)) (by unfold bCl;omega) hKe (.inr ⟨rfl,rfl,aBd hE4 hfl5,hlA⟩))
 subst he
 have hJ5:=hJ5 rfl
 obtain⟨hro5,hwo5,hpl5,hrd5,hwr5,hlv5,hkp5,hfl5,hqn5,htt5,hoo5,hlo5,hhi5⟩:=id hJ5
 dsimp only at hro5 hwo5 hpl5 hrd5 hwr5 hlv5 hkp5 hfl5 hqn5 htt5 hoo5 hlo5 hhi5
 have hg5':W5.α.gs.Perm (g::g2::W.α.gs):=by simpa[aIp,hro5,hwo5] using hg5
 have hsz5:W5.δ.size=W.δ.size:=hE45.size
 have hK5:aBr W.live W W5:=hK4.trans (hkp5.sub fun e he=>aOv he)
 have hu5:=hused hW5 hg5'
 have hrm5:W5.α.room=W.α.room:=hE45.room
 have hb5:=hbig hW5 hE45.n hlv5
 have hnl:aAb W5.δ.size 1 (f.count-2^k)≤m:=by
  rw[hsz5]
  exact Nat.le_trans (aAk (by omega)) hm2
 have hLe:=bJi bw bd ba bs W5 cd5 ca5 cs5 hW5 f (aTb vts k) LvF (by rw[hsz5];exact hfoF.keep fun x ⟨e,he,h2⟩=>hkp5 x ⟨e,hsubF e he,h2⟩) (fun e he=>hlv5.mem (hsubF e he)) hw4 (2^k) (by omega) (by omega) (by omega) (by omega) (by omega)
 rw[hflv f,bFo] at hLe
 repeat(first|(refine st ?_;intros)|refine G.draw [] (h:= ?_))
 refine R.callX (hct:=hLe) (h:= ?_)
 rintro _ _ ⟨cd6,ca6,cs6,W6,up,e,rfl,rfl,hW6,hE6,hK6,hg6,hc6⟩
 dsimp only[AA,AB]
 refine nx ?_
 rw[hflv up]
 have hE46:=hE45.trans hE6
 have hac6:=hE46.acts.2
 have hsz6:W6.δ.size=W.δ.size:=hE46.size
 have hg6':W6.α.gs.Perm (g::g2::W.α.gs):=hg6.trans hg5'
 have hK6':aBr W.live W W6:=hK5.trans (hK6.sub fun e he=>hlv5.mem (aOv he))
 have hrd6:aGo bw bx W6 pf (aAx qts) g (min (r5.q+1) pf.count) r5.cx r5.cb:=hrd5.move hE6.size
 have hwr6:aIa bw bx2 W6 first nb 2 pf.count g2 (((aAx qts).take r5.q).map (aCt vts)) r5.cy r5.cc:=hwr5.move hE6.size (fun x h1 h2=>by
  by_cases hn0:nb=0
  ·omega
  ·refine hK6 x ⟨(first,nb),(lvX.1 hlv5).mem_iff.2 ?_,h1,h2⟩
   unfold aCh;rw[if_neg hn0];exact AI)
 have hlo6:∀j x,j<r5.q→(aAx qts)[j]? =some x→ltP x (k+1) 0:=fun j x hj hx=>by
  have:=hlo5 j x hj hx
  unfold ltP at this⊢;omega
 have hhi6:∀j x,r5.q≤j→(aAx qts)[j]? =some x→¬ltP x (k+1) 0:=fun j x hj hx=>by
  have h1:=hhi5 j x hj hx
  have h2:=hpp x (AZ hx)
  unfold okP at h2
  unfold ltP at h1⊢
  by_cases hck:x.c0=(k:Int)
  ·exfalso
   rw[hck,AP] at h2
   omega
  ·omega
 rcases hc6 with⟨rfl,hl6,hfw6,hfc6,hfo6⟩|⟨rfl,rfl,hf6,hl6⟩
 ·cases own with
  |false=>
   repeat(first|(refine st ?_;intros)|refine G.draw [] (h:= ?_))
   refine Dn.round ⟨k+1,true,up,cd6,ca6,cs6,W6,{r5 with i:=0}⟩ ⟨hW6,⟨hro5,hwo5,rfl,hrd6,hwr6,lvX.2 (hl6.trans ((aCx (lvX.1 hlv5)).trans (aDv _ _ _))),aBr.refl _ _,id,hqn5,htt5,hoo5,hlo6,hhi6⟩,by exact hg6',?_,hfw6,hK6',hE46.weak (by dsimp only;omega) (by dsimp only;omega),fun h=>absurd h (by dsimp only;omega),by dsimp only;omega,fun _=> ?_⟩ (by dsimp only;omega)
   ·have h1:aAq W6.δ.disk W.δ.size [up.ext] up (aTb vts (k+1)):=by rw[←hsz5];exact hfo6
    by_cases hub:up.blocks=0
    ·exact⟨[],{h1 with live:=fun h=>absurd hub h},fun e he=>by cases he⟩
    ·refine⟨[up.ext],h1,fun e he=> ?_⟩
     simp only[AY] at he;subst he
     show up.ext∈aCh up W.live
     unfold aCh;rw[if_neg hub];exact AI
   ·dsimp only;rw[hfo6.blk,hfw6,hfc6];exact hnl
  |true=>
   have hlx:W6.live.Perm (aCh f (aCh ⟨first,nb,0,0⟩ (aCh up W.live))):=by
    refine hl6.trans ((aCx (lvX.1 hlv5)).trans ?_)
    refine(aCx (aDv _ _ _)).trans ((aDv _ _ _).trans (aCx (aDv _ _ _)))
   have hFr:=aKn bw bd ba bs W6 cd6 ca6 cs6 hW6 f _ (aDm.add hlx)
   rw[hflv f] at hFr
   repeat(first|(refine st ?_;intros)|refine G.draw [] (h:= ?_))
   refine R.callX (hct:=hFr) (h:= ?_)
   rintro _ _ ⟨cs7,W7,rfl,rfl,hW7,hE7,hδ7,hα7,hl7⟩
   dsimp only[AA,AB]
   refine nx ?_
   repeat(first|(refine st ?_;intros)|refine G.draw [] (h:= ?_))
   refine Dn.round ⟨k+1,true,up,cd6,ca6,cs7,W7,{r5 with i:=0}⟩ ⟨hW7,⟨hro5,hwo5,rfl,hrd6.move hE7.size,hwr6.move hE7.size (fun x _ _=>by rw[hδ7]),lvX.2 (by rw[hl7];exact .refl _),aBr.refl _ _,id,hqn5,htt5,hoo5,hlo6,hhi6⟩,by rw[hα7];exact hg6',?_,hfw6,fun x hx=>by rw[hδ7];exact hK6' x hx,(hE46.trans hE7).weak (by dsimp only;omega) (by dsimp only;omega),fun h=>absurd h (by dsimp only;omega),by dsimp only;omega,fun _=> ?_⟩ (by dsimp only;omega)
   ·have h1:aAq W7.δ.disk W.δ.size [up.ext] up (aTb vts (k+1)):=by rw[hδ7,←hsz5];exact hfo6
    by_cases hub:up.blocks=0
    ·exact⟨[],{h1 with live:=fun h=>absurd hub h},fun e he=>by cases he⟩
    ·refine⟨[up.ext],h1,fun e he=> ?_⟩
     simp only[AY] at he;subst he
     show up.ext∈aCh up W.live
     unfold aCh;rw[if_neg hub];exact AI
   ·dsimp only;rw[hfo6.blk,hfw6,hfc6];exact hnl
 ·cases own with
  |false=>
   have hD:=aDz bw bd ba bs W6 cd6 ca6 cs6 hW6 bx2 first nb 2 pf.count g2 (g::W.α.gs) (W.live) r5.cy r5.cc (.inl ⟨hg6'.trans (.swap _ _ _),lvX.2 (hl6.trans (lvX.1 hlv5)),_,hwr6⟩)
   repeat(first|(refine st ?_;intros)|refine G.draw [] (h:= ?_))
   refine Go.SL.Lv.call (hc:=hD) (h:= ?_)
   rintro _ _ ⟨cdA,caA,csA,WA,cyA,ccA,rfl,hWA,hEA,hdA,hgA,hlA⟩
   try dsimp only[AA,AB]
   have hRc:=aBh bw bd ba bs WA cdA caA csA hWA bx pf (aAx qts) g W.α.gs r5.cx r5.cb (.inl ⟨hgA,_,(hrd6.move hEA.size)⟩)
   refine Go.SL.Lv.call (hc:=hRc) (h:= ?_)
   rintro _ _ ⟨caB,αB,cxB,rfl,hWB,hEB,hgB⟩
   try dsimp only[AA,AB]
   have hEe:=(hE46).trans (hEA.trans hEB)
   have hKe:aBr W.live W {WA with α:=αB}:=fun x hx=>by show WA.δ.disk x=_;rw[hdA];exact(hK6') x hx
   (refine Go.SL.Lv.nil (Hr:=[[(bj,row [pv bw,.int .i64 0,.slice ph nh capj] 95)],aAh bw bd ba bs,cdA,caB,csA]) Tryz.results118 (hR:= ?_);exact hfin {WA with α:=αB} cdA caB csA ⟨0,0,0,0⟩ 6 _ hWB hgB (hEe.weak (AG _) (by omega)) (by unfold bCl;omega) hKe (.inr ⟨rfl,rfl,aBd hE45 hf6,hlA⟩))
  |true=>
   have hlx:W6.live.Perm (aCh f (aCh ⟨first,nb,0,0⟩ W.live)):=hl6.trans ((lvX.1 hlv5).trans (aDv _ _ _))
   have hFr:=aKn bw bd ba bs W6 cd6 ca6 cs6 hW6 f _ (aDm.add hlx)
   rw[hflv f] at hFr
   repeat(first|(refine st ?_;intros)|refine G.draw [] (h:= ?_))
   refine R.callX (hct:=hFr) (h:= ?_)
   rintro _ _ ⟨cs7,W7,rfl,rfl,hW7,hE7,hδ7,hα7,hl7⟩
   dsimp only[AA,AB]
   refine nx ?_
   have hKx:aBr W.live W W7:=fun x hx=>by rw[hδ7];exact hK6' x hx
   have hD:=aDz bw bd ba bs W7 cd6 ca6 cs7 hW7 bx2 first nb 2 pf.count g2 (g::W.α.gs) (W.live) r5.cy r5.cc (.inl ⟨by rw[hα7];exact hg6'.trans (.swap _ _ _),lvX.2 (by rw[hl7]),_,hwr6.move hE7.size (fun x _ _=>by rw[hδ7])⟩)
   repeat(first|(refine st ?_;intros)|refine G.draw [] (h:= ?_))
   refine Go.SL.Lv.call (hc:=hD) (h:= ?_)
   rintro _ _ ⟨cdA,caA,csA,WA,cyA,ccA,rfl,hWA,hEA,hdA,hgA,hlA⟩
   try dsimp only[AA,AB]
   have hRc:=aBh bw bd ba bs WA cdA caA csA hWA bx pf (aAx qts) g W.α.gs r5.cx r5.cb (.inl ⟨hgA,_,(hrd6.move (hE7.trans hEA).size)⟩)
   refine Go.SL.Lv.call (hc:=hRc) (h:= ?_)
   rintro _ _ ⟨caB,αB,cxB,rfl,hWB,hEB,hgB⟩
   try dsimp only[AA,AB]
   have hEe:=((hE46.trans hE7)).trans (hEA.trans hEB)
   have hKe:aBr W.live W {WA with α:=αB}:=fun x hx=>by show WA.δ.disk x=_;rw[hdA];exact(hKx) x hx
   (refine Go.SL.Lv.nil (Hr:=[[(bj,row [pv bw,.int .i64 0,.slice ph nh capj] 95)],aAh bw bd ba bs,cdA,caB,csA]) Tryz.results118 (hR:= ?_);exact hfin {WA with α:=αB} cdA caB csA ⟨0,0,0,0⟩ 6 _ hWB hgB (hEe.weak (AG _) (by omega)) (by unfold bCl;omega) hKe (.inr ⟨rfl,rfl,aBd hE45 hf6,hlA⟩))
end Go.Proofs.YtammjnjpheobaaaGreat
