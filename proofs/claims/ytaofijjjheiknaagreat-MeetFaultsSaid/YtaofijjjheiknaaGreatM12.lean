/-
  Parts of the proof, put together (12). No condition.
-/
import Derived.Laws.MathBits
import Derived.Test.YtaofijjjheiknaaGreatM11
set_option linter.unusedVariables false
set_option linter.unusedSimpArgs false
set_option linter.unnecessarySimpa false
set_option maxHeartbeats 4000000
open Go.IntKind renaming wrap→AJ
open Go.Proofs.Tryz renaming prog→AC
open Int renaming toNat_natCast→AR
open List renaming cons_append→AA,nil_append→AB,getElem?_eq_getElem→AE,length_append→AF,mem_cons_self→AH,mem_cons_of_mem→AI,getElem?_eq_some_iff→AK,length_cons→AL,mem_cons→AM,getD_eq_getElem?_getD→AN,mem_append→AO,mem_singleton→AT,mem_map→AU,length_nil→AV,length_map→AY,map_cons→AZ,mem_of_getElem?→A3,pairwise_map→BC,getElem_mem→B5,not_mem_nil→B6,mem_flatMap→B9,length_singleton→CO,map_nil→D7
open List.Perm renaming swap→CQ
open Nat renaming reduceAdd→AD,le_refl→AG,zero_le→AS,mul_le_mul_right→A7,le_trans→BB,div_le_div_right→BX,mul_le_mul_left→B7,min_eq_left→C0,mul_le_mul→DG,lt_or_ge→DO
open Option.some renaming injEq→BA
namespace Go.Proofs.YtaofijjjheiknaaGreat
open Go.SL Go.Spc Go.Tup Go.Srt
def aQq (la:List T5):List T5:=la.flatMap aUo
def aUs (to:List T5):List T5:=to.map fun t=>⟨t.c3,t.c4,t.c2,0,0⟩
def aBe (la to tr:List T5):List T5:=(srt (ltO o12) false (aDo 2 2 tr (aQq la++aUs to))).map fun t=>⟨t.c2,0,0,0,0⟩
theorem bCe (t:T5):(aUo t).length≤1:=by unfold aUo;split<;>simp
theorem aOc (la:List T5):(aQq la).length≤la.length:=by
 have:=bIm (f:=aUo) (n:=1) la fun t _=>bCe t
 unfold aQq;omega
theorem aPt (la to tr:List T5):(aBe la to tr).length=(aQq la).length+to.length:=by
 unfold aBe aUs
 rw[AY,(aBa _).length_eq,aCr,AF,AY]
theorem bIv {la:List T5} (h:∀t∈la,okT 2 t):∀t∈aQq la,okT 3 t:=by
 intro t ht
 unfold aQq at ht
 obtain⟨u,hu,ht⟩:=B9.1 ht
 have ti:=aBb (h u hu)
 unfold aUo at ht
 split at ht
 ·rw[AT] at ht;subst ht
  exact aUm ti.1 aHd ti.1
 ·cases ht
theorem bIw {to:List T5} (h:∀t∈to,okT 5 t):∀t∈aUs to,okT 3 t:=by
 intro t ht
 unfold aUs at ht
 obtain⟨u,hu,rfl⟩:=AU.1 ht
 have ti:=aBb (h u hu)
 exact aUm ti.2.2.2.1 ti.2.2.2.2 ti.2.2.1
theorem bIx {la to tr:List T5} (h1:∀t∈la,okT 2 t) (h2:∀t∈to,okT 5 t) (h3:∀t∈tr,okT 5 t):∀t∈aDo 2 2 tr (aQq la++aUs to),okT 3 t:=
 aJj h3 (fun t ht=>by
  rcases AO.1 ht with ht|ht
  ·exact bIv h1 t ht
  ·exact bIw h2 t ht) 2 2 oM oM
theorem aTl {la to tr:List T5} (h1:∀t∈la,okT 2 t) (h2:∀t∈to,okT 5 t) (h3:∀t∈tr,okT 5 t):∀t∈aBe la to tr,okT 1 t:=by
 intro t ht
 unfold aBe at ht
 obtain⟨u,hu,rfl⟩:=AU.1 ht
 exact okT1 (aBb (bIx h1 h2 h3 u (aDf hu))).2.2.1
def aCc (vs:List T5):List T5:=srt (ltO o1) true (srt (ltO o12) false (atF 0 vs))
theorem bIy {p:Jp} {B m k a s0:Nat} {e:Int} {er:Option Nat} {Gf:List (Fl×List T5)} {C:aAc} (hR:Rm p B m k a) (hJ:aGh p B k a s0 e er Gf C) (lf of tf:Fl) (la to tr:List T5) (h1:In0 p (lf,la)) (h2:In0 p (of,to)) (h3:In0 p (tf,tr)) (a2:lf.width=2) (a3:of.width=5) (aq:tf.width=5)
  (c:Nat) (hb:lf.count+of.count≤2*c) (b8:tf.count≤1000) (hc:c≤400) (ac:c≤B) (hT:aFb c≤m) (ah:tr.Pairwise fun a c=>a.c0<c.c0) (hk:Gf.length+4≤k) (b9:s0≤9000):
  Ct AC 55 [pv p.bj,flv lf,flv of,flv tf] [C] fun v H'=>∃g C' e',v=flv g∧H'=[C']∧aGh p B k a (s0+7) e' er ((g,aBe la to tr)::Gf) C'∧FB (lf.count+of.count) c 1 (aBe la to tr).length e' g∧(e'=0→e=0):=by
 have aa:=eQ0
 have ab:=eQ2
 have ai:tv o12= .agg #[.int .i64 1,.int .i64 2,.int .i64 0,.int .i64 0,.int .i64 0]:=rfl
 obtain⟨l1,l2,l3,l4,l5⟩:=aFn h1
 obtain⟨a4,ad,au,av,aw⟩:=aFn h2
 obtain⟨t1,t2,t3,t4,t5⟩:=aFn h3
 dsimp only at l1 l2 l3 l4 l5 a4 ad au av aw t1 t2 t3 t4 t5
 have hp:=hR.ok
 have hB:=hR.bs
 have cg:lf.blocks≤lf.count:=by rw[l3];exact aAx (aAl hp.size.1 l4 l5)
 have ci:of.blocks≤of.count:=by rw[au];exact aAx (aAl hp.size.1 av aw)
 have a5:tf.blocks≤tf.count:=by rw[t3];exact aAx (aAl hp.size.1 t4 t5)
 rw[a2] at l2
 rw[a3] at ad
 rw[aq] at t2
 have a6:∀e,FB tf.count tf.count 5 tf.count e tf:=fun e=>⟨AG _,a5,fun _=>⟨aq,rfl⟩⟩
 have aj:=fun b=>bRr hR hJ [] aUo 3 lf.count c 1 oM 117 inferInstance [] (okT 2) mtR (fun t _=>bCe t) oM lf la (.inr h1) oM (fun _=>l2)
  (fun h=>by have:=aOc la;unfold aQq at this;omega) (.inr ⟨oM,oM⟩) ac oM oM b
 simp only[ab] at aj
 rw[show la.flatMap aUo=aQq la from rfl] at aj
 rw[aa lf,aa of,aa tf]
 refine Ct.go Tryz.func55 Tryz.ntmps55 fun w0=> ?_
 repeat(refine st ?_;intros)
 repeat(refine st ?_;intros)
 refine R.callX (hct:=aj _) (h:= ?_)
 rintro _ _ ⟨g1,C1,e1,rfl,rfl,a7,ak,a8⟩
 dsimp only[AA,AB]
 refine nx ?_
 try rw[aa]
 have bq:=ak.cnt
 have bu:=ak.blk
 have ae:=fun b=>bRr hR a7 [] bRw 3 of.count c 1 oM 118 inferInstance [] (okT 5) mtA (fun t _=>AG _) oM of to (.inr h2) oM (fun _=>ad)
  (fun h=>by rw[aFh (f:=bRw) (g:=fun t=>⟨t.c3,t.c4,t.c2,0,0⟩) (fun _=>rfl),AY];omega) (.inr ⟨oM,oM⟩) ac oA8 oM b
 simp only[ab] at ae
 rw[aFh (f:=bRw) (g:=fun t=>⟨t.c3,t.c4,t.c2,0,0⟩) (fun _=>rfl)] at ae
 rw[show to.map (fun t=>(⟨t.c3,t.c4,t.c2,0,0⟩:T5))=aUs to from rfl] at ae
 repeat(refine st ?_;intros)
 refine R.callX (hct:=ae _) (h:= ?_)
 rintro _ _ ⟨g2,C2,e2,rfl,rfl,a9,al,ax⟩
 dsimp only[AA,AB]
 refine nx ?_
 try rw[aa]
 have bv:=al.cnt
 have bz:=al.blk
 have cj:AJ .i64 ((g1.count:Int)+(g2.count:Int))=((g1.count+g2.count:Nat):Int):=by rw[aAd oM];omega
 have ay:=fun b=>SMap2 hR a9 (fun t=>t) 3 (g1.count+g2.count) c oM 119 inferInstance (okT 3) mtT (fun t h=>h) g1 g2 (aQq la) (aUs to) oA2 oA2 oM oM
  (fun h t ht=>by
   rcases AO.1 ht with ht|ht
   ·exact bIv l2 t ht
   ·exact bIw ad t ht)
  (fun h=>by rw[(ak.ok (ax h)).2,(al.ok h).2];exact AG _) (.inr ⟨oM,oM⟩) ac oA8 oM b
 simp only[ab,List.map_id',AA,AB] at ay
 repeat(refine st ?_;intros)
 refine R.callX (hct:=ay _) (h:= ?_)
 rintro _ _ ⟨g3,C3,e3,rfl,rfl,bc,am,be⟩
 dsimp only[AA,AB]
 refine nx ?_
 try rw[aa]
 have b1:=am.cnt
 have b2:=am.blk
 have az:=aKj hR bc g3 tf (aQq la++aUs to) tr _ 2 oM am (a6 e3) .here (.inr h3) oM oM oM (fun _=>ah) (fun _=>AF) oM (.inr ⟨oM,oM⟩) ac hT oA8 oM
 rw[aa g3,aa tf] at az
 repeat(refine st ?_;intros)
 refine R.callX (hct:=az) (h:= ?_)
 rintro _ _ ⟨g4,C4,e4,rfl,rfl,bf,an,bg⟩
 dsimp only[AA,AB]
 refine nx ?_
 try rw[aa]
 have b3:=an.cnt
 have b4:=an.blk
 have a0:=aLe hR bf g4 _ _ o12 rfl false an .here oM ac hT oM
 rw[aa,ai] at a0
 repeat(refine st ?_;intros)
 refine R.callX (hct:=a0) (h:= ?_)
 rintro _ _ ⟨g5,C5,e5,rfl,rfl,bh,ao,bi⟩
 dsimp only[AA,AB]
 refine nx ?_
 try rw[aa]
 have b5:=ao.cnt
 have b6:=ao.blk
 have ag:=fun b=>bRr hR bh [] bRx 1 g5.count c 1 oM 120 inferInstance [] (okT 3) mtV (fun t _=>AG _) oM g5 (srt (ltO o12) false (aDo 2 2 tr (aQq la++aUs to))) oA2 oM (fun _ t ht=>bIx l2 ad t2 t (aDf ht))
  (fun h=>by rw[aFh (f:=bRx) (g:=fun t=>⟨t.c2,0,0,0,0⟩) (fun _=>rfl),AY,(ao.ok h).2];exact AG _) (.inr ⟨oM,oM⟩) ac oA8 oM b
 simp only[ab] at ag
 rw[aFh (f:=bRx) (g:=fun t=>⟨t.c2,0,0,0,0⟩) (fun _=>rfl)] at ag
 rw[show(srt (ltO o12) false (aDo 2 2 tr (aQq la++aUs to))).map (fun t=>(⟨t.c2,0,0,0,0⟩:T5))=aBe la to tr from rfl] at ag
 repeat(refine st ?_;intros)
 refine R.callX (hct:=ag _) (h:= ?_)
 rintro _ _ ⟨g6,C6,e6,rfl,rfl,bk,ap,bo⟩
 dsimp only[AA,AB]
 refine nx ?_
 try rw[aa]
 have b7:=ap.cnt
 have a1:=fun b=>bIk hR bk [(g1,aQq la),(g2,aUs to),(g5,srt (ltO o12) false (aDo 2 2 tr (aQq la++aUs to)))] ((g6,aBe la to tr)::Gf) (.cons (.there (.there (.there .here))) (.cons (.there (.there .here)) (.cons (.there .here) .nil))) oA15 _ 3 _ (vec3 b g1 g2 g5)
 simp only[ab,AZ,D7,AA,AB] at a1
 repeat(refine st ?_;intros)
 refine R.callX (hct:=a1 _) (h:= ?_)
 rintro _ _ ⟨C7,rfl,rfl,bp⟩
 dsimp only[AA,AB]
 refine nx ?_
 repeat(refine st ?_;intros)
 (refine Dn.post (Hr:=[C7]) Tryz.results55 (hR:= ?_);exact⟨g6,C7,e6,rfl,rfl,bp,⟨oM,ap.blk,ap.ok⟩,fun h=>a8 (ax (be (bg (bi (bo h)))))⟩)
theorem bIz {p:Jp} {B m k a s0:Nat} {e:Int} {er:Option Nat} {Gf:List (Fl×List T5)} {C:aAc} (hR:Rm p B m k a) (hJ:aGh p B k a s0 e er Gf C) (vf:Fl) (vs:List T5) (an:(vf,vs)∈Gf) (ao:∀t∈vs,okT 1 t) (az:vs.length≤1000000) (b0 c:Nat) (hF:FB b0 c 1 vs.length e vf) (hb:b0≤2*c) (hc:c≤400) (ac:c≤B) (hT:aFb c≤m) (hk:Gf.length+1≤k) (a3:s0≤9000):
  Ct AC 56 [pv p.bj,flv vf] [C] fun v H'=>∃g C' e',v=flv g∧H'=[C']∧aGh p B k a (s0+3) e' er ((g,aCc vs)::Gf) C'∧FB b0 c 2 (aCc vs).length e' g∧(e'=0→e=0):=by
 have aa:=eQ0
 have ag:=eQ2
 have ah:tv o1= .agg #[.int .i64 1,.int .i64 0,.int .i64 0,.int .i64 0,.int .i64 0]:=rfl
 have ad:tv o12= .agg #[.int .i64 1,.int .i64 2,.int .i64 0,.int .i64 0,.int .i64 0]:=rfl
 have hB:=hR.bs
 have a4:=hF.cnt
 have a5:=hF.blk
 have ap:e=0→vs.length=vf.count:=fun h=>(hF.ok h).2.symm
 have ab:∀ba,(atM ba).all 0 vs=atF 0 vs:=fun ba=>bIu ba vs 0 oM
 have ai:=fun ba b=>aTg hR hJ (atM ba) (fun _ _=>rfl) 0 2 vf.count c 1 oM 121 inferInstance [pv ba] _ (at_mk ba) (fun _ t _=>AG _) oM vf vs (.inl an) oM
  (fun _=>aAt.oks_of (M:=atM ba) (I:=fun _=>True) (Q:=okT 1) (fun _ t _ h=>⟨h,trivial⟩) _ _ trivial ao) (fun h=>by rw[ab,aZn,ap h];exact AG _) (.inr ⟨oM,oM⟩) ac oM oM b
 simp only[ag,atM_C,ab] at ai
 rw[aa vf]
 refine Ct.go Tryz.func56 Tryz.ntmps56 fun w0=> ?_
 repeat(refine st ?_;intros)
 refine R.callX (hct:=ai _ _) (h:= ?_)
 rintro _ _ ⟨f1,C1,e1,k1,rfl,rfl,aq,aj,au⟩
 dsimp only[AA,AB]
 refine nx ?_
 try rw[aa]
 have a0:=aj.cnt
 have ak:=aLe hR aq f1 _ _ o12 rfl false aj .here oM ac hT oM
 rw[aa,ad] at ak
 repeat(refine st ?_;intros)
 refine R.callX (hct:=ak) (h:= ?_)
 rintro _ _ ⟨f2,C2,e2,rfl,rfl,av,al,aw⟩
 dsimp only[AA,AB]
 refine nx ?_
 try rw[aa]
 have a1:=al.cnt
 have am:=aLe hR av f2 _ _ o1 rfl true al .here oM ac hT oM
 rw[aa,ah] at am
 repeat(refine st ?_;intros)
 refine R.callX (hct:=am) (h:= ?_)
 rintro _ _ ⟨f3,C3,e3,rfl,rfl,ax,ae,ay⟩
 dsimp only[AA,AB]
 refine nx ?_
 try rw[aa]
 have a2:=ae.cnt
 repeat(refine st ?_;intros)
 (refine Dn.post (Hr:=[C3]) Tryz.results56 (hR:= ?_);exact⟨f3,C3,e3,rfl,rfl,ax,⟨oM,ae.blk,ae.ok⟩,fun h=>(au (aw (ay h))).1⟩)
section
variable {P:Program} {ops:Array Oper} {Q:Exit→Act→World→Prop} {cls:Nat→Oper→Cls} {w0:World} {S:List Nat} {n:Nat} {l:List (Nat×Oper)} {L:aBk} {D:List Deferred} {H:Hp} {qs:List Rd} {k d:Nat} {ty:TypeId} {pos:String} {af:Array Edge} {g:Option (Nat×Bool)}
theorem R.indexS {T:TypeId} {x y:Operand} {s:ByteArray} {ky:IntKind} {i:Int} {j:Nat} {b:Int} (hu:P.underlying T=some .string) (hx:ev L x=some (.string s)) (hy:ev L y=some (.int ky i)) (hj:i=(j:Int)) (aa:j<s.size) (hb:((s[j]'aa).toNat:Int)=b)
  (hc:cls k ⟨some d,.index T x y,ty,pos,af,g⟩= .pure) (hn:d<n)
  (h:R P ops Q cls w0 S n l ((d,.int .u8 b)::L) D H qs):R1 P ops Q cls w0 S n k ⟨some d,.index T x y,ty,pos,af,g⟩ l L D H qs:=
 R1.pureStep hc rfl hn (fun a hf w=>by
  subst hj hb
  have h2:=run_index_string (P:=P) w T s ky (j:Int) hu
  rw[dif_pos ⟨oM,by exact_mod_cast aa⟩] at h2
  simp only[execOp,hf.eval hx,hf.eval hy]
  simp only[AR] at h2
  simp[h2,Result.andThen]) h
end
set_option maxRecDepth 100000 in
theorem len64c (x:Nat) (h:x<65536):CtQ AC 174 [.int .u64 (x:Int)] [] (.int .i64 (bitLen x:Int)):=by
 by_cases h8:x<256
 ·have e1:AJ .u8 (x:Int)=(x:Int):=aDw oM
  have hl:(bitLen x:Int)≤8:=by have:=bitLen_le8 x h8;omega
  have e2:AJ .i64 (bitLen x:Int)=(bitLen x:Int):=aAd oM
  have e3:AJ .i64 (0+(bitLen x:Int))=(bitLen x:Int):=by rw[aAd oM];omega
  have hu:=Tryz.underlying9
  refine Ct.go Tryz.func174 Tryz.ntmps174 fun w0=> ?_
  repeat(first|(apply R.indexS (j:=x);exact hu;exact rfl;exact rfl;exact rfl;exact congrArg Int.ofNat (len8tab_get x h8);exact rfl;exact nle rfl)|(refine st ?_;intros))
  (refine Dn.post (Hr:=[]) Tryz.results174 (hR:= ?_);exact⟨rfl,rfl⟩)
 ·have h4:x/256<256:=oM
  have e1:AJ .u8 ((x/256:Nat):Int)=((x/256:Nat):Int):=aDw oM
  have hl:(bitLen (x/256):Int)≤8:=by have:=bitLen_le8 (x/256) h4;omega
  have e2:AJ .i64 (bitLen (x/256):Int)=(bitLen (x/256):Int):=aAd oM
  have hb:bitLen x=8+bitLen (x/256):=bitLen_shift x 8 (by show x/256≠0;omega)
  have e3:AJ .i64 (8+(bitLen (x/256):Int))=(bitLen x:Int):=by rw[hb,aAd oM];omega
  have e4:(x:Int).fdiv (2^(min (8:Int).toNat IntKind.u64.bits))=((x/256:Nat):Int):=by
   have:(2:Int)^(min (8:Int).toNat IntKind.u64.bits)=256:=by decide
   rw[this,Int.fdiv_eq_ediv_of_nonneg _ oM];omega
  have hu:=Tryz.underlying9
  refine Ct.go Tryz.func174 Tryz.ntmps174 fun w0=> ?_
  repeat(first|(apply R.indexS (j:=x/256);exact hu;exact rfl;exact rfl;exact rfl;exact congrArg Int.ofNat (len8tab_get (x/256) h4);exact rfl;exact nle rfl)|(refine st ?_;intros))
  (refine Dn.post (Hr:=[]) Tryz.results174 (hR:= ?_);exact⟨rfl,rfl⟩)
def aXa (bn n:Nat):aAt Unit:=⟨fun _=>[[(bn,row [.int .i64 (n:Int)] 3)]],fun _ t=>if okQ n t then[⟨t.c0,0,0,0,0⟩] else[],fun _ _=>(),fun _ t=>if okQ n t then none else some 3⟩
theorem chkQ_C (bn n:Nat) (k:Unit):(aXa bn n).C k=[[(bn,row [.int .i64 (n:Int)] 3)]]:=rfl
theorem bSb (bn n:Nat):aFt (aXa bn n) 1 (fun _ t=>okT 3 t) 172 [] [pv bn]:=by
 rintro bx Pst Br bnd hP ps X ⟨⟩ t hX hk hb
 have aa:tv t= .agg #[.int .i64 t.c0,.int .i64 t.c1,.int .i64 t.c2,.int .i64 t.c3,.int .i64 t.c4]:=rfl
 rw[aa]
 unfold aPd
 simp only[AB,AA]
 show Ct _ _ _ [X,[(bn,row [.int .i64 (n:Int)] 3)]] _
 have ti:=aBb hk
 by_cases h:okQ n t
 ·simp only[aXa,if_pos h,CO] at hb
  have ab:=hP ps X ⟨t.c0,0,0,0,0⟩ hX (okT1 ti.1) hb
  unfold okQ at h
  obtain⟨h0,h1,h2,h3⟩:=h
  refine Ct.go Tryz.func172 Tryz.ntmps172 fun w0=> ?_
  repeat(refine st ?_;intros)
  refine R.callV (hct:=by exact ab) (h:= ?_)
  rintro _ _ ⟨X',rfl,⟨rfl,ac⟩|⟨rfl,hB⟩⟩
  try dsimp only[AA,AB]
  ·repeat(refine st ?_;intros)
   (refine Dn.post (Hr:=[X',[(bn,row [.int .i64 (n:Int)] 3)]]) Tryz.results172 (hR:= ?_);exact⟨X',(),rfl,.inl ⟨rfl,if_pos ⟨h0,h1,h2,h3⟩,(by trivial),by simpa[aXa,okQ,h0,h1,h2,h3] using ac⟩⟩)
  ·repeat(refine st ?_;intros)
   (refine Dn.post (Hr:=[X',[(bn,row [.int .i64 (n:Int)] 3)]]) Tryz.results172 (hR:= ?_);exact⟨X',(),rfl,.inr (.inl ⟨rfl,hB⟩)⟩)
 ·have hn:(aXa bn n).err () t=some 3:=if_neg h
  unfold okQ at h
  by_cases h0:t.c0<0
  ·refine Ct.go Tryz.func172 Tryz.ntmps172 fun w0=> ?_
   repeat(refine st ?_;intros)
   (refine Dn.post (Hr:=[X,[(bn,row [.int .i64 (n:Int)] 3)]]) Tryz.results172 (hR:= ?_);exact⟨X,(),rfl,.inr (.inr ⟨3,hn,by decide,rfl,ps,hX⟩)⟩)
  by_cases h1:t.c1<0
  ·refine Ct.go Tryz.func172 Tryz.ntmps172 fun w0=> ?_
   repeat(refine st ?_;intros)
   (refine Dn.post (Hr:=[X,[(bn,row [.int .i64 (n:Int)] 3)]]) Tryz.results172 (hR:= ?_);exact⟨X,(),rfl,.inr (.inr ⟨3,hn,by decide,rfl,ps,hX⟩)⟩)
  by_cases h2:t.c2<t.c1
  ·refine Ct.go Tryz.func172 Tryz.ntmps172 fun w0=> ?_
   repeat(refine st ?_;intros)
   (refine Dn.post (Hr:=[X,[(bn,row [.int .i64 (n:Int)] 3)]]) Tryz.results172 (hR:= ?_);exact⟨X,(),rfl,.inr (.inr ⟨3,hn,by decide,rfl,ps,hX⟩)⟩)
  have h3:(n:Int)≤t.c2:=oM
  refine Ct.go Tryz.func172 Tryz.ntmps172 fun w0=> ?_
  repeat(refine st ?_;intros)
  (refine Dn.post (Hr:=[X,[(bn,row [.int .i64 (n:Int)] 3)]]) Tryz.results172 (hR:= ?_);exact⟨X,(),rfl,.inr (.inr ⟨3,hn,by decide,rfl,ps,hX⟩)⟩)
def aTm:aAt Unit:=⟨fun _=>[],fun _ t=>aIa t,fun _ _=>(),fun _ _=>none⟩
theorem aXb:∀(ts:List T5) (k:Unit),aTm.all k ts=ts.flatMap aIa
 |[],_=>rfl
 |t::ts,k=>by simp only[aAt.all,aXb ts,List.flatMap_cons];rfl
theorem bJa {n:Nat} {q:T5} (h:okQ n q) (hn:n≤10000) (hk:okT 3 q):∀p∈aIa q,okT 3 p:=by
 have h1:=bCb h
 have h2:=Nat.two_pow_pos (lgQ q)
 have h3:lgQ q≤14:=by
  rcases DO (lgQ q) 15 with h|h4
  ·omega
  ·have h5:=Nat.pow_le_pow_right (n:=2) oM h4
   have:2^15=32768:=by decide
   unfold okQ at h
   omega
 have ti:=aBb hk
 unfold okQ at h
 intro p hp
 unfold aIa at hp
 simp only[AM,B6,or_false] at hp
 rcases hp with rfl|rfl
 ·exact aUm (by unfold aAv;omega) ti.2.1 ti.1
 ·exact aUm (by unfold aAv;omega) (by unfold aAv;omega) ti.1
theorem bSc (n:Nat) (hn:n≤10000):aFt aTm 3 (fun _ t=>okT 3 t∧okQ n t) 173 [] []:=by
 rintro bx Pst Br bnd hP ps X ⟨⟩ t hX ⟨hk,hq⟩ hb
 have ab:tv t= .agg #[.int .i64 t.c0,.int .i64 t.c1,.int .i64 t.c2,.int .i64 t.c3,.int .i64 t.c4]:=rfl
 rw[ab]
 unfold aPd
 simp only[AB,AA]
 show Ct _ _ _ [X] _
 have aa:=bJa hq hn hk
 have h1:=bCb hq
 have h2:=Nat.two_pow_pos (lgQ t)
 have ak:ps.length+2≤bnd:=hb
 have ac:=hP ps X ⟨(lgQ t:Int),t.c1,t.c0,0,0⟩ hX (aa _ (by simp[aIa])) oM
 have ad:=fun X' h=>hP (ps++[⟨(lgQ t:Int),t.c1,t.c0,0,0⟩]) X' ⟨(lgQ t:Int),t.c2-((2^lgQ t:Nat):Int)+1,t.c0,0,0⟩ h (aa _ (by simp[aIa])) (by rw[AF,CO];omega)
 have h3:lgQ t≤14:=by
  rcases DO (lgQ t) 15 with h|h4
  ·omega
  ·have h5:=Nat.pow_le_pow_right (n:=2) oM h4
   have:2^15=32768:=by decide
   unfold okQ at hq
   omega
 unfold okQ at hq
 obtain⟨x,hx⟩:∃x:Nat,t.c2-t.c1+1=(x:Int):=⟨(t.c2-t.c1+1).toNat,oM⟩
 have ae:lgQ t=Nat.log2 x:=by unfold lgQ;rw[hx,AR]
 have ag:bitLen x=lgQ t+1:=by unfold bitLen;rw[if_neg oM,←ae]
 have hL:=len64c x oM
 rw[ag] at hL
 have e1:AJ .i64 (t.c2-t.c1)=t.c2-t.c1:=aAd oM
 have e2:AJ .i64 (t.c2-t.c1+1)=(x:Int):=by rw[hx];exact aAd oM
 have e3:AJ .u64 (x:Int)=(x:Int):=aCe oM
 have e4:AJ .i64 (((lgQ t+1:Nat):Int)-1)=(lgQ t:Int):=by rw[aAd oM];omega
 have al:AJ .i64 (1*2^(min ((lgQ t:Nat):Int).toNat IntKind.i64.bits))=((2^lgQ t:Nat):Int):=by
  have h1:min ((lgQ t:Nat):Int).toNat IntKind.i64.bits=lgQ t:=by
   rw[AR];exact C0 (by show lgQ t≤64;omega)
  rw[h1]
  have h2:(1:Int)*2^(lgQ t)=((2^lgQ t:Nat):Int):=by rw[Int.one_mul];simp
  rw[h2];exact aAd oM
 have e5:AJ .i64 (t.c2-((2^lgQ t:Nat):Int))=t.c2-((2^lgQ t:Nat):Int):=aAd oM
 have e6:AJ .i64 (t.c2-((2^lgQ t:Nat):Int)+1)=t.c2-((2^lgQ t:Nat):Int)+1:=aAd oM
 refine Ct.go Tryz.func173 Tryz.ntmps173 fun w0=> ?_
 repeat(refine sv ?_;intros)
 refine R.call (hct:=hL) (h:= ?_)
 rintro _ _ ⟨rfl,rfl⟩
 try dsimp only[AA,AB]
 repeat(refine sv ?_;intros)
 refine R.callV (hct:=by exact ac) (h:= ?_)
 rintro _ _ ⟨X',rfl,⟨rfl,ah⟩|⟨rfl,hB⟩⟩
 try dsimp only[AA,AB]
 ·have ai:=ad X' ah
  repeat(refine sv ?_;intros)
  refine R.callV (hct:=by exact ai) (h:= ?_)
  rintro _ _ ⟨X2,rfl,⟨rfl,aj⟩|⟨rfl,hB⟩⟩
  try dsimp only[AA,AB]
  ·repeat(refine sv ?_;intros)
   (refine Dn.post (Hr:=[X2]) Tryz.results173 (hR:= ?_);exact⟨X2,(),rfl,.inl ⟨rfl,rfl,(by trivial),by simpa[aTm,aIa] using aj⟩⟩)
  ·repeat(refine sv ?_;intros)
   (refine Dn.post (Hr:=[X2]) Tryz.results173 (hR:= ?_);exact⟨X2,(),rfl,.inr (.inl ⟨rfl,hB⟩)⟩)
 ·repeat(refine sv ?_;intros)
  (refine Dn.post (Hr:=[X']) Tryz.results173 (hR:= ?_);exact⟨X',(),rfl,.inr (.inl ⟨rfl,hB⟩)⟩)
instance (n:Nat) (qts:List T5):Decidable (bMs n qts):=by unfold bMs;infer_instance
def bEn (n:Nat) (qts:List T5):Option Nat:=if bMs n qts then none else some 3
theorem aTn (bn n:Nat):∀(ts:List T5) (k:Unit),(aXa bn n).bad k ts=if∀q∈ts,okQ n q then none else some 3
 |[],_=>by simp[aAt.bad]
 |t::ts,k=>by
  simp only[aAt.bad]
  have ih:=aTn bn n ts ((aXa bn n).next k t)
  by_cases h:okQ n t
  ·have:(aXa bn n).err k t=none:=if_pos h
   rw[this]
   dsimp only
   rw[ih]
   simp[h]
  ·have:(aXa bn n).err k t=some 3:=if_neg h
   rw[this]
   dsimp only
   rw[if_neg (by simp[h])]
theorem bCf (bn n:Nat):∀(ts:List T5) (k:Unit),(∀q∈ts,okQ n q)→(aXa bn n).all k ts=ts.map fun t=>⟨t.c0,0,0,0,0⟩
 |[],_,_=>rfl
 |t::ts,k,h=>by
  simp only[aAt.all,bCf bn n ts _ fun q hq=>h q (AI _ hq),AZ]
  have:(aXa bn n).outs k t=[⟨t.c0,0,0,0,0⟩]:=if_pos (h t AH)
  rw[this];rfl
theorem aLg {ts:List T5}:(srt (ltO o1) true (ts.map fun t=>(⟨t.c0,0,0,0,0⟩:T5))).length=ts.length↔ts.Pairwise fun a c=>a.c0≠c.c0:=by
 have:=bBz (ts.map fun t=>(⟨t.c0,0,0,0,0⟩:T5))
 rw[AY,BC] at this
 exact this
structure HlvX where
 e:Int
 er:Option Nat
 C:aAc
theorem bJb {p:Jp} {B m k a s0:Nat} {e:Int} {Gf:List (Fl×List T5)} {C:aAc} (hR:Rm p B m k a) (hJ:aGh p B k a s0 e none Gf C) (qf:Fl) (aa:List T5) (hq:In0 p (qf,aa)) (hw:qf.width=3) (bk:qf.count≤300) (n:Nat) (hn:n≤10000) (c:Nat) (hc:qf.count≤c) (ae:c≤B) (hT:aFb c≤m) (hl:Gf.length+2≤k) (bo:s0≤9000):
  Ct AC 124 [pv p.bj,flv qf,.int .i64 (n:Int)] [C] fun v H'=>∃f C' e',v=flv f∧H'=[C']∧aGh p B k a (s0+4) e' (bEn n aa) ((f,aBc aa)::Gf) C'∧FB (2*qf.count) c 3 (2*qf.count) e' f∧(e'=0→e=0):=by
 have ab:=eQ0
 have ad:=eQ2
 have am:tv o1= .agg #[.int .i64 1,.int .i64 0,.int .i64 0,.int .i64 0,.int .i64 0]:=rfl
 have ai:tv o12= .agg #[.int .i64 1,.int .i64 2,.int .i64 0,.int .i64 0,.int .i64 0]:=rfl
 obtain⟨an,ac,ao,_,_⟩:=aFn hq
 dsimp only at an ac ao
 rw[hw] at ac
 have hB:=hR.bs
 have bi:qf.blocks≤qf.count:=by rw[ao];exact nb_le hR.ok.size.1 oM oM
 have ap:=fun b5 b=>bIj hR hJ (aXa b5 n) () 1 qf.count c 1 oM 172 inferInstance [pv b5] _ (bSb b5 n) (fun _ t _=>by unfold aXa;dsimp only;split<;>simp) oM qf aa (.inr hq) oM
  (fun _=>aAt.oks_of (M:=aXa b5 n) (I:=fun _=>True) (Q:=okT 3) (fun _ t _ h=>⟨h,trivial⟩) _ () trivial ac) (fun _=>by
   have:=aAt.all_len (M:=aXa b5 n) (n:=1) (fun _ t=>by unfold aXa;dsimp only;split<;>simp) aa ()
   omega) oM ae oM oM b
 simp only[ad,chkQ_C] at ap
 rw[ab]
 refine Ct.go Tryz.func124 Tryz.ntmps124 fun w0=> ?_
 repeat(refine st ?_;intros)
 rename_i b4 b5 b6 b7
 refine R.callX (hct:=ap _ _) (h:= ?_)
 rintro _ _ ⟨f1,C1,e1,k1,rfl,rfl,aq,a2,a3⟩
 dsimp only[AA,AB]
 refine nx ?_
 try rw[ab]
 rw[bOr,aTn] at aq
 have au:=aLe hR aq f1 _ Gf o1 rfl true a2 .here oM ae hT oM
 rw[ab,am] at au
 repeat(refine st ?_;intros)
 refine R.callX (hct:=au) (h:= ?_)
 rintro _ _ ⟨f2,C2,e2,rfl,rfl,av,a4,a5⟩
 dsimp only[AA,AB]
 refine nx ?_
 try rw[ab]
 have aj:e2=0→e1=0∧e=0∧(∀q∈aa,okQ n q)∧f2.count=(srt (ltO o1) true (aa.map fun t=>(⟨t.c0,0,0,0,0⟩:T5))).length:=fun h=>by
  have h1:=a5 h
  have h2:=a3 h1
  have h3:=h2.2.2
  rw[aTn] at h3
  have h4:∀q∈aa,okQ n q:=by
   by_cases h5:∀q∈aa,okQ n q
   ·exact h5
   ·rw[if_neg h5] at h3;cases h3
  have h6:=(a4.ok h).2
  rw[bCf b5 n aa () h4] at h6
  exact⟨h1,h2.1,h4,h6⟩
 generalize (aXa b5 n).all () aa=aw at*
 obtain⟨x2,ak⟩:∃x2:Option Nat,x2=if aa.Pairwise (fun a c=>a.c0≠c.c0) then none else some 3:=⟨_,rfl⟩
 have ah:((if∀q∈aa,okQ n q then none else some 3:Option Nat).or x2)=bEn n aa:=by
  rw[ak];unfold bEn
  by_cases h1:∀q∈aa,okQ n q
  ·rw[if_pos h1]
   by_cases h2:aa.Pairwise (fun a c=>a.c0≠c.c0)
   ·rw[if_pos h2,if_pos (show bMs n aa from ⟨h1,h2⟩)];rfl
   ·rw[if_neg h2,if_neg (show¬bMs n aa from fun h=>h2 h.2)];rfl
  ·rw[if_neg h1,if_neg (show¬bMs n aa from fun h=>h1 h.1)];rfl
 repeat(refine stn ?_;intros)
 rename_i bc
 refine G.cut (D':=[]) (X:=HlvX) (fun x=>aGh p B k a (s0+2) x.e (bEn n aa) ((f2,srt (ltO o1) true aw)::Gf) x.C∧(x.e=0→e=0)) (fun _=>[(7,pv bc),(6,pv b6),(4,pv b4),(0,pv p.bj)])
  (fun x=>[x.C,[(bc,row [.int .i64 (f2.first:Int),.int .i64 (f2.blocks:Int),.int .i64 (f2.width:Int),.int .i64 (f2.count:Int)] 42)],[(b6,row [.int .i64 0,.int .i64 0,.int .i64 0,.int .i64 0] 42)],[(b4,row [.int .i64 (qf.first:Int),.int .i64 (qf.blocks:Int),.int .i64 (qf.width:Int),.int .i64 (qf.count:Int)] 42)]]) ?_ ?_
 ·by_cases bp:(f2.count:Int)=(qf.count:Int)
  ·repeat(refine st ?_;intros)
   refine Dn.meet ⟨e2,none,C2⟩ ⟨?_,fun h=>(aj h).2.1⟩
   rw[←ah]
   refine av.orE x2 fun h=> ?_
   obtain⟨_,_,_,h4⟩:=aj h
   rw[ak,if_pos]
   exact aLg.1 oM
  ·have a6:=SFail av 3 oA14 oA14 x2 (fun h=>by
    obtain⟨_,_,_,h4⟩:=aj h
    rw[ak,if_neg]
    intro h5
    have:=aLg.2 h5
    omega)
   repeat(refine st ?_;intros)
   refine R.callX (hct:=a6) (h:= ?_)
   rintro _ _ ⟨e3,C3,rfl,rfl,ag,a7⟩
   dsimp only[AA,AB]
   refine nx ?_
   repeat(refine st ?_;intros)
   exact Dn.meet ⟨e3,none,C3⟩ ⟨by rw[←ah];exact ag,fun h=>absurd h a7⟩
 rintro⟨e3,_,C3⟩ ⟨ag,ax⟩
 dsimp only at ag ax⊢
 have ay:=fun b=>bIk hR ag [(f2,srt (ltO o1) true aw)] Gf (.cons .here .nil) oA15 _ 1 _ (vec1 b f2)
 simp only[ad,AZ,D7] at ay
 repeat(refine st ?_;intros)
 refine R.callX (hct:=ay _) (h:= ?_)
 rintro _ _ ⟨C4,rfl,rfl,az⟩
 dsimp only[AA,AB]
 refine nx ?_
 have bq:AJ .i64 (2*(qf.count:Int))=((2*qf.count:Nat):Int):=by rw[aAd oM];omega
 have a0:e3=0→∀q∈aa,okT 3 q∧okQ n q:=fun h q hm=>by
  have h1:=az.er0 h
  unfold bEn at h1
  split at h1
  ·rename_i h2;exact⟨ac q hm,h2.1 q hm⟩
  ·cases h1
 have al:=fun b=>aTg hR az aTm (fun _ _=>rfl) () 3 (2*qf.count) c 2 oM 173 inferInstance [] _ (bSc n hn) (fun _ t _=>by simp[aTm,aIa]) oM qf aa (.inr hq) oM
  (fun h=>aAt.oks_of (M:=aTm) (I:=fun _=>True) (Q:=fun q=>okT 3 q∧okQ n q) (fun _ t _ h=>⟨h,trivial⟩) _ () trivial (a0 h)) (fun _=>by
   have:=aAt.all_len (M:=aTm) (n:=2) (fun _ t=>by simp[aTm,aIa]) aa ()
   omega) (.inr ⟨oM,oM⟩) ae oM oM b
 rw[aXb] at al
 simp only[ad,show∀k,aTm.C k=[] from fun _=>rfl] at al
 repeat(refine st ?_;intros)
 refine R.callX (hct:=al _) (h:= ?_)
 rintro _ _ ⟨f5,C5,e5,k5,rfl,rfl,a8,a9,be⟩
 dsimp only[AA,AB]
 refine nx ?_
 try rw[ab]
 have a1:=aLe hR a8 f5 _ Gf o12 rfl false a9 .here oM ae hT oM
 rw[ab,ai,show srt (ltO o12) false (aa.flatMap aIa)=aBc aa from rfl,bEl,an] at a1
 repeat(refine st ?_;intros)
 refine R.callX (hct:=a1) (h:= ?_)
 rintro _ _ ⟨f6,C6,e6,rfl,rfl,bf,bg,bh⟩
 dsimp only[AA,AB]
 refine nx ?_
 try rw[ab]
 repeat(refine st ?_;intros)
 (refine Dn.post (Hr:=[C6]) Tryz.results124 (hR:= ?_);exact⟨f6,C6,e6,rfl,rfl,bf,bg,fun h=>ax (be (bh h)).1⟩)
def aIb (n:Nat) (qs:List T5):Prop:=(∀q∈qs,okM n q)∧qs.Pairwise fun a c=>a.c0≠c.c0
instance (n:Nat) (qs:List T5):Decidable (aIb n qs):=by unfold aIb;infer_instance
def bMu (n:Nat) (qs:List T5):Option Nat:=if aIb n qs then none else some 3
def aPu (la qs:List T5):List T5:=(srt (ltO (oK 2)) false ((srt (ltO (oK 1)) false qs).map (aDu la 1 1 3))).map (aDu la 2 1 4)
theorem aTo (la qs:List T5):(aPu la qs).length=qs.length:=by
 unfold aPu
 rw[AY,(aBa _).length_eq,AY,(aBa _).length_eq]
theorem bSd {la qs:List T5} (h1:∀t∈la,okT 2 t) (h2:∀t∈qs,okT 3 t):∀t∈(srt (ltO (oK 1)) false qs).map (aDu la 1 1 3),okT 4 t:=by
 intro t ht
 obtain⟨u,hu,rfl⟩:=AU.1 ht
 exact aNz h1 1 1 3 oM (h2 u (aDf hu))
theorem aZo {la qs:List T5} (h1:∀t∈la,okT 2 t) (h2:∀t∈qs,okT 3 t):∀t∈aPu la qs,okT 5 t:=by
 intro t ht
 unfold aPu at ht
 obtain⟨u,hu,rfl⟩:=AU.1 ht
 exact aNz h1 2 1 4 oM (bSd h1 h2 u (aDf hu))
structure CkX where
 e:Int
 C:aAc
theorem aZp {p:Jp} {B m k a s0:Nat} {e:Int} {Gf:List (Fl×List T5)} {C:aAc} (hR:Rm p B m k a) (hJ:aGh p B k a s0 e none Gf C) (lf qf:Fl) (la qs:List T5) (h1:In0 p (lf,la)) (h2:In0 p (qf,qs)) (an:lf.width=2) (bc:qf.width=3)
  (c:Nat) (be:qf.count≤c) (c7:lf.count≤1000) (hc:c≤400) (ac:c≤B) (hT:aFb c≤m) (ad:la.Pairwise fun a c=>a.c0<c.c0) (hk:Gf.length+4≤k) (c8:s0≤9000):
  Ct AC 51 [pv p.bj,flv lf,flv qf] [C] fun v H'=>∃g C' e',v=flv g∧H'=[C']∧aGh p B k a (s0+7) e' (bMu lf.count qs) ((g,aPu la qs)::Gf) C'∧FB qf.count c 5 qs.length e' g∧(e'=0→e=0):=by
 have aa:=eQ0
 have ab:=eQ2
 have ao:tv o1= .agg #[.int .i64 1,.int .i64 0,.int .i64 0,.int .i64 0,.int .i64 0]:=rfl
 have ap:tv (oK 1)= .agg #[.int .i64 2,.int .i64 0,.int .i64 0,.int .i64 0,.int .i64 0]:=rfl
 have aq:tv (oK 2)= .agg #[.int .i64 3,.int .i64 0,.int .i64 0,.int .i64 0,.int .i64 0]:=rfl
 obtain⟨l1,l2,l3,l4,l5⟩:=aFn h1
 obtain⟨q1,q2,q3,q4,q5⟩:=aFn h2
 dsimp only at l1 l2 l3 l4 l5 q1 q2 q3 q4 q5
 have hp:=hR.ok
 have hB:=hR.bs
 have bf:lf.blocks≤lf.count:=by rw[l3];exact aAx (aAl hp.size.1 l4 l5)
 have c9:qf.blocks≤qf.count:=by rw[q3];exact aAx (aAl hp.size.1 q4 q5)
 rw[an] at l2
 rw[bc] at q2
 have au:∀e,FB lf.count lf.count 2 lf.count e lf:=fun e=>⟨AG _,bf,fun _=>⟨an,rfl⟩⟩
 have av:=fun bl b=>bIj hR hJ (aUr bl lf) () 1 qf.count c 1 oM 108 inferInstance [pv bl] _ (bSa bl lf) (fun _ t _=>by unfold aUr;dsimp only;split<;>simp) oM qf qs (.inr h2) oM
  (fun _=>aAt.oks_of (M:=aUr bl lf) (I:=fun _=>True) (Q:=okT 3) (fun _ t _ h=>⟨h,trivial⟩) _ () trivial q2) (fun _=>by
   have:=aAt.all_len (M:=aUr bl lf) (n:=1) (fun _ t=>by unfold aUr;dsimp only;split<;>simp) qs ()
   omega) oM ac oM oM b
 simp only[ab,chkM_C] at av
 rw[aa lf,aa qf]
 refine Ct.go Tryz.func51 Tryz.ntmps51 fun w0=> ?_
 repeat(refine st ?_;intros)
 rename_i b3 b4 b5 b6 da
 refine R.callX (hct:=av _ _) (h:= ?_)
 rintro _ _ ⟨f1,C1,e1,k1,rfl,rfl,aw,bg,bh⟩
 dsimp only[AA,AB]
 refine nx ?_
 try rw[aa]
 rw[bOr,aTk] at aw
 have ax:=aLe hR aw f1 _ Gf o1 rfl true bg .here oM ac hT oM
 rw[aa,ao] at ax
 repeat(refine st ?_;intros)
 refine R.callX (hct:=ax) (h:= ?_)
 rintro _ _ ⟨f2,C2,e2,rfl,rfl,ay,ai,bi⟩
 dsimp only[AA,AB]
 refine nx ?_
 try rw[aa]
 have aj:e2=0→e1=0∧e=0∧(∀q∈qs,okM lf.count q)∧f2.count=(srt (ltO o1) true (qs.map fun t=>(⟨t.c0,0,0,0,0⟩:T5))).length:=fun h=>by
  have h1:=bi h
  have h2:=bh h1
  have h3:=h2.2.2
  rw[aTk] at h3
  have h4:∀q∈qs,okM lf.count q:=by
   by_cases h5:∀q∈qs,okM lf.count q
   ·exact h5
   ·rw[if_neg h5] at h3;cases h3
  have h6:=(ai.ok h).2
  rw[bCd b4 lf qs () h4] at h6
  exact⟨h1,h2.1,h4,h6⟩
 have cu:=ai.cnt
 have cv:=ai.blk
 generalize (aUr b4 lf).all () qs=az at*
 obtain⟨x2,ak⟩:∃x2:Option Nat,x2=if qs.Pairwise (fun a c=>a.c0≠c.c0) then none else some 3:=⟨_,rfl⟩
 have ah:((if∀q∈qs,okM lf.count q then none else some 3:Option Nat).or x2)=bMu lf.count qs:=by
  rw[ak];unfold bMu
  by_cases h1:∀q∈qs,okM lf.count q
  ·rw[if_pos h1]
   by_cases h2:qs.Pairwise (fun a c=>a.c0≠c.c0)
   ·rw[if_pos h2,if_pos (show aIb lf.count qs from ⟨h1,h2⟩)];rfl
   ·rw[if_neg h2,if_neg (show¬aIb lf.count qs from fun h=>h2 h.2)];rfl
  ·rw[if_neg h1,if_neg (show¬aIb lf.count qs from fun h=>h1 h.1)];rfl
 repeat(refine stn ?_;intros)
 rename_i b7
 refine G.cut (D':=[]) (X:=CkX) (fun x=>aGh p B k a (s0+2) x.e (bMu lf.count qs) ((f2,srt (ltO o1) true az)::Gf) x.C∧(x.e=0→e=0)) (fun _=>[(7,pv b7),(6,pv b6),(5,pv b5),(4,pv b4),(3,pv b3)])
  (fun x=>[x.C,[(b7,row [.int .i64 (f2.first:Int),.int .i64 (f2.blocks:Int),.int .i64 (f2.width:Int),.int .i64 (f2.count:Int)] 42)],[(b6,row [.int .i64 0,.int .i64 0,.int .i64 0,.int .i64 0] 42)],[(b5,row [.int .i64 (qf.first:Int),.int .i64 (qf.blocks:Int),.int .i64 (qf.width:Int),.int .i64 (qf.count:Int)] 42)],[(b4,row [.int .i64 (lf.first:Int),.int .i64 (lf.blocks:Int),.int .i64 (lf.width:Int),.int .i64 (lf.count:Int)] 42)],[(b3,row [pv p.bj] 84)]]) ?_ ?_
 ·by_cases db:(f2.count:Int)=(qf.count:Int)
  ·repeat(refine st ?_;intros)
   refine Dn.meet ⟨e2,C2⟩ ⟨?_,fun h=>(aj h).2.1⟩
   rw[←ah]
   refine ay.orE x2 fun h=> ?_
   obtain⟨_,_,_,h4⟩:=aj h
   rw[ak,if_pos]
   exact aLg.1 oM
  ·have bk:=SFail ay 3 oA14 oA14 x2 (fun h=>by
    obtain⟨_,_,_,h4⟩:=aj h
    rw[ak,if_neg]
    intro h5
    have:=aLg.2 h5
    omega)
   repeat(refine st ?_;intros)
   refine R.callX (hct:=bk) (h:= ?_)
   rintro _ _ ⟨e3,C3,rfl,rfl,ae,bo⟩
   dsimp only[AA,AB]
   refine nx ?_
   repeat(refine st ?_;intros)
   exact Dn.meet ⟨e3,C3⟩ ⟨by rw[←ah];exact ae,fun h=>absurd h bo⟩
 rintro⟨e3,C3⟩ ⟨ae,a0⟩
 dsimp only at ae a0⊢
 have a1:=fun b=>SMap1 hR ae (fun t=>t) 3 qf.count c oM 110 inferInstance (okT 3) mtC (fun t h=>h) qf qs (.inr h2) oM (fun _=>q2) (fun _=>by omega) (.inl be) ac oA8 oM b
 simp only[ab,List.map_id'] at a1
 repeat(refine st ?_;intros)
 refine R.callX (hct:=a1 _) (h:= ?_)
 rintro _ _ ⟨f4,C4,e4,rfl,rfl,bp,a2,bq⟩
 dsimp only[AA,AB]
 refine nx ?_
 try rw[aa]
 have cw:=a2.cnt
 have a3:=aLe hR bp f4 qs _ (oK 1) (aLf oM) false a2 .here oM ac hT oM
 rw[aa,ap] at a3
 repeat(refine st ?_;intros)
 refine R.callX (hct:=a3) (h:= ?_)
 rintro _ _ ⟨f5,C5,e5,rfl,rfl,bu,a4,bv⟩
 dsimp only[AA,AB]
 refine nx ?_
 try rw[aa]
 have cz:=a4.cnt
 have a5:=fun b8 b9 al=>aOa hR bu 111 inferInstance f5 lf (srt (ltO (oK 1)) false qs) la 1 1 3 4 c oA2 (.inr h1) (mtL1 _ f5 lf b8 b9 al) a4 (au e5) oM oM oM oM oM oM
  (fun _=>bCc oM _) (fun _=>ad) (.inl oM) ac oA8 oM
 simp only[aHz,ab] at a5
 repeat(refine st ?_;intros)
 refine R.callX (hct:=a5 _ _ _) (h:= ?_)
 rintro _ _ ⟨f6,C6,e6,rfl,rfl,bz,a6,b1⟩
 dsimp only[AA,AB]
 refine nx ?_
 try rw[aa]
 have c5:=a6.cnt
 have a7:=aLe hR bz f6 _ _ (oK 2) (aLf oM) false a6 .here oM ac hT oM
 rw[aa,aq] at a7
 repeat(refine st ?_;intros)
 refine R.callX (hct:=a7) (h:= ?_)
 rintro _ _ ⟨f7,C7,e7,rfl,rfl,b2,a8,cg⟩
 dsimp only[AA,AB]
 refine nx ?_
 try rw[aa]
 have c6:=a8.cnt
 have am:=fun b8 b9 al=>aOa hR b2 113 inferInstance f7 lf (srt (ltO (oK 2)) false ((srt (ltO (oK 1)) false qs).map (aDu la 1 1 3))) la 2 1 4 5 c oA2 (.inr h1) (mtL2 _ f7 lf b8 b9 al) a8 (au e7) oM oM oM oM oM oM
  (fun _=>bCc oM _) (fun _=>ad) (.inl oM) ac oA8 oM
 simp only[aHz,ab] at am
 rw[show(srt (ltO (oK 2)) false ((srt (ltO (oK 1)) false qs).map (aDu la 1 1 3))).map (aDu la 2 1 4)=aPu la qs from rfl] at am
 repeat(refine st ?_;intros)
 refine R.callX (hct:=am _ _ _) (h:= ?_)
 rintro _ _ ⟨f8,C8,e8,rfl,rfl,ci,ag,cj⟩
 dsimp only[AA,AB]
 refine nx ?_
 try rw[aa]
 have a9:=fun b=>bIk hR ci [(f2,srt (ltO o1) true az),(f5,srt (ltO (oK 1)) false qs),(f7,srt (ltO (oK 2)) false ((srt (ltO (oK 1)) false qs).map (aDu la 1 1 3)))] ((f8,aPu la qs)::Gf) (.cons (.there (.there (.there .here))) (.cons (.there (.there .here)) (.cons (.there .here) .nil))) oA15 _ 3 _ (vec3 b f2 f5 f7)
 simp only[ab,AZ,D7,AA,AB] at a9
 repeat(refine st ?_;intros)
 refine R.callX (hct:=a9 _) (h:= ?_)
 rintro _ _ ⟨C9,rfl,rfl,cm⟩
 dsimp only[AA,AB]
 refine nx ?_
 repeat(refine st ?_;intros)
 (refine Dn.post (Hr:=[C9]) Tryz.results51 (hR:= ?_);exact⟨f8,C9,e8,rfl,rfl,cm,⟨ag.cnt,ag.blk,fun h=>⟨(ag.ok h).1,by rw[(ag.ok h).2,(aBa _).length_eq,AY,(aBa _).length_eq]⟩⟩,fun h=>a0 (bq (bv (b1 (cg (cj h)))))⟩)
def bFl (ban bx:Nat) (t:T5) (ok:Bool):aAc:=[(ban,row [.func (.func 97) #[pv bx] #[],.int .i64 t.c0,.int .i64 t.c1,.int .i64 t.c2,.int .i64 t.c3,.int .i64 t.c4,.bool ok] 194)]
def bSe (ts:List T5) (i:Nat):T5:=ts.getD i T5.zero
theorem bCg {ts:List T5} {i:Nat} {t:T5} (h:ts[i]? =some t):bSe ts i=t:=by unfold bSe;rw[AN,h];rfl
theorem bJc {ts:List T5} {i:Nat} (h:ts.length≤i):bSe ts i=T5.zero:=by unfold bSe;rw[AN,List.getElem?_eq_none h];rfl
theorem aRy (bw bd ba bs:Nat) (W:Wk) (cd ca cs:aAc) (h:Wc bd ba bs W cd ca cs) (bx ban:Nat) (f:Fl) (ts:List T5) (LvF:List Ext) (ab:aAq W.δ.disk W.δ.size LvF f ts) (ah:∀e∈LvF,e∈W.live) (g:Gr) (aa:List Gr) (hg:W.α.gs.Perm (g::aa))
  (pos:Nat) (a3:pos≤f.count) (cx cb:aAc) (hr:aGt bw bx W f ts g pos cx cb) (t0:T5) (au:Bool) (av:W.δ.acts≤1000000000000):
  Ct AC 175 [pv ban] [bFl ban bx t0 au,aAi bw bd ba bs,cd,ca,cs,cx,cb] fun v H'=>
   ∃cd' ca' W' cx' cb' t ok e,v= .int .i64 e∧H'=[bFl ban bx t ok,aAi bw bd ba bs,cd',ca',cs,cx',cb']∧Wc bd ba bs W' cd' ca' cs∧Ev W W' 1 0∧W'.δ.disk=W.δ.disk∧W'.σ=W.σ∧W'.live=W.live∧
    ((e=0∧W'.α.gs.Perm (g::aa)∧t=bSe ts pos∧ok=decide (pos<f.count)∧aGt bw bx W' f ts g (min (pos+1) f.count) cx' cb')∨(e=6∧W.δ.fault≠-1∧W'.α.gs.Perm aa∧aDj bx cx')):=by
 have a4:=ab.len
 have hz:tv T5.zero= .agg #[.int .i64 T5.zero.c0,.int .i64 T5.zero.c1,.int .i64 T5.zero.c2,.int .i64 T5.zero.c3,.int .i64 T5.zero.c4]:=rfl
 have a5:=aAl (s:=W.δ.size) (k:=f.width) h.dev.num.1.1 ab.w1 ab.w2
 unfold bFl
 by_cases aw:pos<f.count
 ·have ai:ts[pos]? =some ts[pos]:=AE oM
  have aj:=aJt bw bd ba bs W cd ca cs h bx f ts LvF ab ah g aa hg pos cx cb hr _ ai av
  have ax:tv ts[pos]= .agg #[.int .i64 (ts[pos]).c0,.int .i64 (ts[pos]).c1,.int .i64 (ts[pos]).c2,.int .i64 (ts[pos]).c3,.int .i64 (ts[pos]).c4]:=rfl
  have ay:=bCg ai
  rw[ax,hz] at aj
  have ak:aAb W.δ.size f.width (pos+1)-aAb W.δ.size f.width pos≤1:=by
   unfold aAb
   have h1:(pos+1+aAf W.δ.size f.width-1)/aAf W.δ.size f.width≤(pos+aAf W.δ.size f.width-1+aAf W.δ.size f.width)/aAf W.δ.size f.width:=BX oM
   rw[Nat.add_div_right _ oM] at h1
   omega
  generalize ts[pos]=u at*
  refine Ct.go Tryz.func175 Tryz.ntmps175 fun w0=> ?_
  repeat(refine st ?_;intros)
  refine R.callV (hct:=by exact aj) (h:= ?_)
  rintro _ _ ⟨ac,ad,W1,ae,ag,rfl,al,am,an,ao,ap,⟨rfl,az,a0⟩|⟨rfl,a6,a7,a1,a2⟩⟩
  try dsimp only[AA,AB]
  ·repeat(refine st ?_;intros)
   (refine Dn.post (Hr:=[[(ban,row [.func (.func 97) #[pv bx] #[],.int .i64 u.c0,.int .i64 u.c1,.int .i64 u.c2,.int .i64 u.c3,.int .i64 u.c4,.bool true] 194)],aAi bw bd ba bs,ac,ad,cs,ae,ag]) Tryz.results175 (hR:= ?_);exact⟨ac,ad,W1,ae,ag,u,true,0,rfl,rfl,al,am.weak ak (AG _),an,ao,ap,.inl ⟨rfl,by rw[az];exact hg,ay.symm,(decide_eq_true aw).symm,by rw[C0 oM];exact a0⟩⟩)
  ·repeat(refine st ?_;intros)
   (refine Dn.post (Hr:=[[(ban,row [.func (.func 97) #[pv bx] #[],.int .i64 T5.zero.c0,.int .i64 T5.zero.c1,.int .i64 T5.zero.c2,.int .i64 T5.zero.c3,.int .i64 T5.zero.c4,.bool false] 194)],aAi bw bd ba bs,ac,ad,cs,ae,ag]) Tryz.results175 (hR:= ?_);exact⟨ac,ad,W1,ae,ag,T5.zero,false,6,rfl,rfl,al,am.weak ak (AG _),an,ao,ap,.inr ⟨rfl,oM,a1,a2⟩⟩)
 ·obtain rfl:pos=f.count:=by omega
  have aq:=aGf bw bx W f ts g cx cb hr
  rw[hz] at aq
  refine Ct.go Tryz.func175 Tryz.ntmps175 fun w0=> ?_
  repeat(refine st ?_;intros)
  refine R.callVP (fs:=[pv bx]) (vs:=[]) (hf:=inferInstance) (hct:=aq) (h:= ?_)
  repeat(refine st ?_;intros)
  (refine Dn.post (Hr:=[[(ban,row [.func (.func 97) #[pv bx] #[],.int .i64 T5.zero.c0,.int .i64 T5.zero.c1,.int .i64 T5.zero.c2,.int .i64 T5.zero.c3,.int .i64 T5.zero.c4,.bool false] 194)],aAi bw bd ba bs,cd,ca,cs,cx,cb]) Tryz.results175 (hR:= ?_);exact⟨cd,ca,W,cx,cb,T5.zero,false,0,rfl,rfl,h,(Ev.refl W).weak (AS _) (AG _),rfl,rfl,rfl,.inl ⟨rfl,hg,(bJc oM).symm,(decide_eq_false oM).symm,by rw[Nat.min_eq_right oM];exact hr⟩⟩)
structure bLc where
 bw:Nat
 bx:Nat
 bx2:Nat
 ban:Nat
 first:Nat
 nb:Nat
 g:Gr
 g2:Gr
 pf:Fl
 pts:List T5
 vts:List T5
 Lv:List Ext
structure bJd where
 q:Nat
 i:Nat
 t:T5
 ok:Bool
 cx:aAc
 cb:aAc
 cy:aAc
 cc:aAc
 ro:Bool
 wo:Bool
def ltP (x:T5) (kk i:Nat):Prop:=x.c0<kk∨x.c0=kk∧x.c1<i
structure aZq (P:bLc) (W0:Wk) (kk il i:Nat) (W:Wk) (r:bJd):Prop where
 ro:r.ro=true
 wo:r.wo=true
 pl:r.i=i
 rd:aGt P.bw P.bx W P.pf P.pts P.g (min (r.q+1) P.pf.count) r.cx r.cb
 wr:aHy P.bw P.bx2 W P.first P.nb 2 P.pf.count P.g2 ((P.pts.take r.q).map (aDk P.vts)) r.cy r.cc
 lv:aDv P.first P.nb P.Lv W.live
 kp:aBv P.Lv W0 W
 fl:W0.δ.fault= -1→W.δ.fault= -1
 qn:r.q≤P.pf.count
 tt:r.t=bSe P.pts r.q
 oo:r.ok=decide (r.q<P.pf.count)
 lo:∀j x,j<r.q→P.pts[j]? =some x→ltP x kk il
 hi:∀j x,r.q≤j→P.pts[j]? =some x→¬ltP x kk i
structure AnsB (P:bLc) (W0:Wk) (W:Wk) (r:bJd) (e:Int):Prop where
 e6:e=6
 fl:W0.δ.fault≠-1
 kp:aBv P.Lv W0 W
 rd:(r.ro=true∧∃pos,aGt P.bw P.bx W P.pf P.pts P.g pos r.cx r.cb)∨(r.ro=false∧aDj P.bx r.cx)
 wr:(r.wo=true∧aDv P.first P.nb P.Lv W.live∧∃ps,aHy P.bw P.bx2 W P.first P.nb 2 P.pf.count P.g2 ps r.cy r.cc)∨(r.wo=false∧W.live.Perm P.Lv∧aEg P.bx2 r.cy)
def aIn (P:bLc) (r:bJd):List Gr:=(if r.ro then[P.g] else[])++(if r.wo then[P.g2] else[])
def bOw (P:bLc) (b1 b2 b3 b4 kk:Nat) (r:bJd):Hp:=[bFl P.ban P.bx r.t r.ok,[(b1,row [pv P.ban] 191)],[(b2,row [.int .i64 (kk:Int)] 2)],[(b3,row [.int .i64 (r.i:Int)] 2)],[(b4,row [.func (.func 92) #[pv P.bx2] #[]] 90)],r.cx,r.cb,r.cy,r.cc]
structure AnsX where
 cd:aAc
 ca:aAc
 cs:aAc
 W:Wk
 r:bJd
theorem ans1ct (bd ba bs:Nat) (P:bLc) (W0:Wk) (kk i:Nat) (b1 b2 b3 b4:Nat) (W:Wk) (cd ca cs:aAc) (h:Wc bd ba bs W cd ca cs) (r:bJd) (hJ:aZq P W0 kk i i W r) (aa:List Gr) (hg:W.α.gs.Perm (P.g::P.g2::aa)) (hn:P.pts.length=P.pf.count) (d1:1≤P.pf.width∧P.pf.width≤5)
  (LvP:List Ext) (de:∀W1 r1 il i,aZq P W0 kk il i W1 r1→aAq W1.δ.disk W1.δ.size LvP P.pf P.pts) (a4:∀e∈LvP,e∈P.Lv) (b9:P.pts.Pairwise fun a c=>a.c0<c.c0∨a.c0=c.c0∧a.c1≤c.c1) (dg:∀x∈P.pts,aAv x.c2) (df:∀x∈P.vts,aAv x.c0)
  (u:T5) (hu:u.c0=aJw (at0 P.vts) i (2^kk-1)) (hi:i≤1000000) (d2:W.δ.acts+2*P.pf.count≤1000000000000):
  Ct AC 214 [tv u,pv b1,pv b2,pv b3,pv b4] (aAi P.bw bd ba bs::cd::ca::cs::bOw P b1 b2 b3 b4 kk r) fun v H'=>
   ∃cd' ca' cs' W' r' e,v= .int .i64 e∧H'=aAi P.bw bd ba bs::cd'::ca'::cs'::bOw P b1 b2 b3 b4 kk r'∧Wc bd ba bs W' cd' ca' cs'∧Ev W W' (2*P.pf.count) 0∧W'.α.gs.Perm (aIn P r'++aa)∧(e=0→aZq P W0 kk (i+1) (i+1) W' r')∧(e≠0→AnsB P W0 W' r' e):=by
 have dh:tv u= .agg #[.int .i64 u.c0,.int .i64 u.c1,.int .i64 u.c2,.int .i64 u.c3,.int .i64 u.c4]:=rfl
 rw[dh]
 unfold bOw bFl
 refine Ct.go Tryz.func214 Tryz.ntmps214 fun w0=> ?_
 repeat(refine sv ?_;intros)
 rename_i b5
 refine G.loop (X:=AnsX) (fun x=>Wc bd ba bs x.W x.cd x.ca x.cs∧aZq P W0 kk (i+1) i x.W x.r∧r.q≤x.r.q∧Ev W x.W (2*(x.r.q-r.q)) 0∧x.W.α.gs.Perm (P.g::P.g2::aa))
  (fun _=>[(1,pv b1),(2,pv b2),(3,pv b3),(4,pv b4),(5,pv b5)])
  (fun x=>[[(b5,row [.int .i64 u.c0,.int .i64 u.c1,.int .i64 u.c2,.int .i64 u.c3,.int .i64 u.c4] 33)],[(P.ban,row [.func (.func 97) #[pv P.bx] #[],.int .i64 x.r.t.c0,.int .i64 x.r.t.c1,.int .i64 x.r.t.c2,.int .i64 x.r.t.c3,.int .i64 x.r.t.c4,.bool x.r.ok] 194)],
   [(b1,row [pv P.ban] 191)],[(b2,row [.int .i64 (kk:Int)] 2)],[(b3,row [.int .i64 (x.r.i:Int)] 2)],[(b4,row [.func (.func 92) #[pv P.bx2] #[]] 90)],aAi P.bw bd ba bs,x.cd,x.ca,x.cs,x.r.cx,x.r.cb,x.r.cy,x.r.cc]) (fun x=>P.pf.count-x.r.q) ⟨cd,ca,cs,W,r⟩
  ⟨h,{hJ with lo:=fun j x hj hx=>by have:=hJ.lo j x hj hx;unfold ltP at this⊢;omega},AG _,(Ev.refl W).weak (AS _) (AG _),hg⟩ (body:= ?_)
 rintro⟨ad,ae,ag,W1,r1⟩ ⟨al,bf,cg,ab,an⟩
 dsimp only at al bf cg ab an⊢
 obtain⟨q,i',t,ok,cx,cb,cy,cc,ro,wo⟩:=r1
 obtain⟨ci,cj,au,av,bg,bh,ao,ap,cm,bi,am,bk,aw⟩:=id bf
 dsimp only at ci cj au av bg bh ao ap cm bi am bk aw cg ab⊢
 subst ci cj au
 have d0:=ab.acts.2
 have a5:(∀x,P.pts[q]? =some x→¬(x.c0=kk∧x.c1=(i':Int)))→aZq P W0 kk (i'+1) (i'+1) W1 ⟨q,i'+1,t,ok,cx,cb,cy,cc,true,true⟩:=by
  intro di
  refine⟨rfl,rfl,rfl,av,bg,bh,ao,ap,cm,bi,am,fun j x hj hx=> ?_,fun j x hj hx=> ?_⟩
  ·exact bk j x hj hx
  ·dsimp only at hj
   have h1:=aw j x hj hx
   have h2:q<P.pts.length:=by have:=(AK.1 hx).1;omega
   have h3:P.pts[q]? =some P.pts[q]:=AE h2
   have h4:=di _ h3
   have h5:=aw q _ (AG _) h3
   have h6:P.pts[q].c0<x.c0∨P.pts[q].c0=x.c0∧P.pts[q].c1≤x.c1:=by
    rcases DO q j with cu|cu
    ·obtain⟨dj,rfl⟩:=AK.1 hx
     exact List.pairwise_iff_getElem.1 b9 q j h2 dj cu
    ·obtain rfl:j=q:=by omega
     rw[h3,BA] at hx
     rw[hx];right;exact⟨rfl,Int.le_refl _⟩
   unfold ltP at h1 h5⊢
   omega
 have d3:AJ .i64 ((i':Int)+1)=((i'+1:Nat):Int):=by rw[aAd oM];omega
 by_cases ax:q<P.pf.count
 rotate_left
 ·have hj:=a5 (fun x hx=>by have:=(AK.1 hx).1;omega)
  rw[decide_eq_false ax] at am
  subst am
  repeat(refine sv ?_;intros)
  (refine Dn.post (Hr:=[aAi P.bw bd ba bs,ad,ae,ag,[(P.ban,row [.func (.func 97) #[pv P.bx] #[],.int .i64 t.c0,.int .i64 t.c1,.int .i64 t.c2,.int .i64 t.c3,.int .i64 t.c4,.bool false] 194)],[(b1,row [pv P.ban] 191)],[(b2,row [.int .i64 (kk:Int)] 2)],[(b3,row [.int .i64 ((i'+1:Nat):Int)] 2)],[(b4,row [.func (.func 92) #[pv P.bx2] #[]] 90)],cx,cb,cy,cc]) Tryz.results214 (hR:= ?_);exact⟨ad,ae,ag,W1,⟨q,i'+1,t,false,cx,cb,cy,cc,true,true⟩,0,rfl,rfl,al,ab.weak oM (AG _),an,fun _=>hj,fun h0=>absurd rfl h0⟩)
 rw[decide_eq_true ax] at am
 subst am
 have aq:P.pts[q]? =some P.pts[q]:=AE oM
 have cv:t=P.pts[q]:=bi.trans (bCg aq)
 have cw:t∈P.pts:=by rw[cv];exact B5 _
 rw[←cv] at aq
 by_cases hc:t.c0=(kk:Int)∧t.c1=(i':Int)
 rotate_left
 ·have hj:=a5 (fun x hx=>by rw[aq,BA] at hx;subst hx;exact hc)
  by_cases bo:t.c0=(kk:Int)
  ·have cz:¬t.c1=(i':Int):=fun h=>hc ⟨bo,h⟩
   repeat(refine sv ?_;intros)
   (refine Dn.post (Hr:=[aAi P.bw bd ba bs,ad,ae,ag,[(P.ban,row [.func (.func 97) #[pv P.bx] #[],.int .i64 t.c0,.int .i64 t.c1,.int .i64 t.c2,.int .i64 t.c3,.int .i64 t.c4,.bool true] 194)],[(b1,row [pv P.ban] 191)],[(b2,row [.int .i64 (kk:Int)] 2)],[(b3,row [.int .i64 ((i'+1:Nat):Int)] 2)],[(b4,row [.func (.func 92) #[pv P.bx2] #[]] 90)],cx,cb,cy,cc]) Tryz.results214 (hR:= ?_);exact⟨ad,ae,ag,W1,⟨q,i'+1,t,true,cx,cb,cy,cc,true,true⟩,0,rfl,rfl,al,ab.weak oM (AG _),an,fun _=>hj,fun h0=>absurd rfl h0⟩)
  ·repeat(refine sv ?_;intros)
   (refine Dn.post (Hr:=[aAi P.bw bd ba bs,ad,ae,ag,[(P.ban,row [.func (.func 97) #[pv P.bx] #[],.int .i64 t.c0,.int .i64 t.c1,.int .i64 t.c2,.int .i64 t.c3,.int .i64 t.c4,.bool true] 194)],[(b1,row [pv P.ban] 191)],[(b2,row [.int .i64 (kk:Int)] 2)],[(b3,row [.int .i64 ((i'+1:Nat):Int)] 2)],[(b4,row [.func (.func 92) #[pv P.bx2] #[]] 90)],cx,cb,cy,cc]) Tryz.results214 (hR:= ?_);exact⟨ad,ae,ag,W1,⟨q,i'+1,t,true,cx,cb,cy,cc,true,true⟩,0,rfl,rfl,al,ab.weak oM (AG _),an,fun _=>hj,fun h0=>absurd rfl h0⟩)
 obtain⟨bo,cz⟩:=hc
 have dk:aDk P.vts t=⟨t.c2,u.c0,0,0,0⟩:=by unfold aDk;rw[bo,cz,AR,AR,←hu]
 have dl:1≤aAf W1.δ.size 2:=aAl al.dev.num.1.1 oM oM
 have au:((P.pts.take q).map (aDk P.vts)).length=q:=by rw[AY,List.length_take];omega
 have c5:=bRl P.bw bd ba bs W1 ad ae ag al P.bx2 P.first P.nb 2 P.pf.count P.g2 _ cy cc bg (P.g::aa) (an.trans (.swap _ _ _)) P.Lv bh (by rw[au];exact ax) ⟨t.c2,u.c0,0,0,0⟩ (bEh (dg t cw) (by rw[hu];exact aHf df _ _)) oM dl
 have dm:tv ⟨t.c2,u.c0,0,0,0⟩= .agg #[.int .i64 t.c2,.int .i64 u.c0,.int .i64 0,.int .i64 0,.int .i64 0]:=rfl
 rw[dm] at c5
 repeat(refine sv ?_;intros)
 refine R.callV (hct:=by exact c5) (h:= ?_)
 rintro _ _ ⟨ay,az,ah,W2,ai,aj,e2,rfl,rfl,bp,ac,a0,dp⟩
 try dsimp only[AA,AB]
 rcases dp with⟨rfl,dq,c6,dr⟩|⟨rfl,ds,dt⟩
 ·have c7:aAq W2.δ.disk W2.δ.size LvP P.pf P.pts:=by
   have h1:=de W1 _ _ _ bf
   rw[ac.size]
   exact h1.keep fun x ⟨e,he,h3⟩=>a0 x ⟨e,a4 e he,h3⟩
  have hM:=aRy P.bw bd ba bs W2 ay az ah bp P.bx P.ban P.pf P.pts LvP c7 (fun e he=>c6.mem (a4 e he)) P.g (P.g2::aa) (dq.trans (.swap _ _ _)) (min (q+1) P.pf.count) (Nat.min_le_right _ _) cx cb (av.move ac.size) t true (by have:=ac.acts.2;omega)
  unfold bFl at hM
  have ak:=ab.trans ac
  repeat(refine sv ?_;intros)
  refine R.call (hct:=hM) (h:= ?_)
  rintro _ _ ⟨bq,bu,W3,bv,bz,t3,b6,e3,rfl,rfl,c8,b7,c9,d4,du,dw⟩
  try dsimp only[AA,AB]
  have a6:=ak.trans b7
  have da:aBv P.Lv W0 W3:=fun x hx=>by rw[c9];exact(ao.trans a0) x hx
  have a7:aHy P.bw P.bx2 W3 P.first P.nb 2 P.pf.count P.g2 ((P.pts.take (q+1)).map (aDk P.vts)) ai aj:=by
   have:(P.pts.take (q+1)).map (aDk P.vts)=(P.pts.take q).map (aDk P.vts)++[⟨t.c2,u.c0,0,0,0⟩]:=by
    rw[List.take_add_one,aq,List.map_append,←dk];rfl
   rw[this]
   exact dr.move b7.size (fun x _ _=>by rw[c9])
  have a8:aDv P.first P.nb P.Lv W3.live:=by rw[du];exact c6
  rcases dw with⟨rfl,b8,db,a9,dc⟩|⟨rfl,dx,b8,dy⟩
  ·have dd:min (q+1) P.pf.count=q+1:=oM
   rw[dd] at db a9 dc
   repeat(refine sv ?_;intros)
   refine Dn.round ⟨bq,bu,ah,W3,⟨q+1,i',t3,b6,bv,bz,ai,aj,true,true⟩⟩ ⟨c8,⟨rfl,rfl,rfl,dc,a7,a8,da,fun hf=>b7.fault (ac.fault (ap hf)),ax,db,a9,fun j x hj hx=> ?_,fun j x hj hx=>aw j x (by dsimp only at hj;omega) hx⟩,oD,a6.weak oD (AG _),b8⟩ oD
   dsimp only at hj
   by_cases dz:j=q
   ·subst dz
    rw[aq,BA] at hx
    subst hx
    unfold ltP;omega
   ·exact bk j x oM hx
  ·repeat(refine sv ?_;intros)
   (refine Dn.post (Hr:=[aAi P.bw bd ba bs,bq,bu,ah,[(P.ban,row [.func (.func 97) #[pv P.bx] #[],.int .i64 t3.c0,.int .i64 t3.c1,.int .i64 t3.c2,.int .i64 t3.c3,.int .i64 t3.c4,.bool b6] 194)],[(b1,row [pv P.ban] 191)],[(b2,row [.int .i64 (kk:Int)] 2)],[(b3,row [.int .i64 (i':Int)] 2)],[(b4,row [.func (.func 92) #[pv P.bx2] #[]] 90)],bv,bz,ai,aj]) Tryz.results214 (hR:= ?_);exact⟨bq,bu,ah,W3,⟨q,i',t3,b6,bv,bz,ai,aj,false,true⟩,6,rfl,rfl,c8,a6.weak oM (AG _),b8,fun h0=>absurd h0 oA14,fun _=>⟨rfl,fun hf=>dx (ac.fault (ap hf)),da,.inr ⟨rfl,dy⟩,.inl ⟨rfl,a8,_,a7⟩⟩⟩)
 ·have ak:=ab.trans ac
  have bc:=av.move ac.size
  have be:W0.δ.fault≠-1:=fun hf=>ds (ap hf)
  repeat(refine sv ?_;intros)
  (refine Dn.post (Hr:=[aAi P.bw bd ba bs,ay,az,ah,[(P.ban,row [.func (.func 97) #[pv P.bx] #[],.int .i64 t.c0,.int .i64 t.c1,.int .i64 t.c2,.int .i64 t.c3,.int .i64 t.c4,.bool true] 194)],[(b1,row [pv P.ban] 191)],[(b2,row [.int .i64 (kk:Int)] 2)],[(b3,row [.int .i64 (i':Int)] 2)],[(b4,row [.func (.func 92) #[pv P.bx2] #[]] 90)],cx,cb,ai,aj]) Tryz.results214 (hR:= ?_);skip)
  rcases dt with⟨a1,a2,a3⟩|⟨a1,a2,a3⟩
  ·exact⟨ay,az,ah,W2,⟨q,i',t,true,cx,cb,ai,aj,true,true⟩,6,rfl,rfl,bp,ak.weak oM (AG _),a1.trans (.swap _ _ _),fun h0=>absurd h0 oA14,fun _=>⟨rfl,be,ao.trans a0,.inl ⟨rfl,_,bc⟩,.inl ⟨rfl,a2,a3⟩⟩⟩
  ·exact⟨ay,az,ah,W2,⟨q,i',t,true,cx,cb,ai,aj,true,false⟩,6,rfl,rfl,bp,ak.weak oM (AG _),a1,fun h0=>absurd h0 oA14,fun _=>⟨rfl,be,ao.trans a0,.inl ⟨rfl,_,bc⟩,.inr ⟨rfl,a2,a3⟩⟩⟩
theorem aZq.sz {P:bLc} {W0 W:Wk} {kk il i:Nat} {r:bJd} (h:aZq P W0 kk il i W r):P.g.n=W.δ.size:=h.rd.1
def bMv (P:bLc) (W0:Wk) (kk b1 b2 b3 b4:Nat):Seer bJd where
 own:=aIn P
 C r:=(bOw P b1 b2 b3 b4 kk r).flatten
 J W r i:=aZq P W0 kk i i W r
 B W r e:=AnsB P W0 W r e
 κ:=2*P.pf.count
theorem bSf (P:bLc) (W0:Wk) (kk b1 b2 b3 b4:Nat):(bMv P W0 kk b1 b2 b3 b4).Ok where
 stay:=by
  intro W W' r i h hs hd _ hl hf
  exact{h with
   rd:=h.rd.move hs
   wr:=h.wr.move hs (fun x _ _=>by rw[hd])
   lv:=by rw[hl];exact h.lv
   kp:=fun x hx=>by rw[hd];exact h.kp x hx
   fl:=fun e=>hf (h.fl e)}
 flt:=by
  intro W W' r i h hf hd _ hl
  have e1:W'.δ.disk=W.δ.disk:=by rw[hd];rfl
  have e2:W'.δ.size=W.δ.size:=by rw[hd];rfl
  exact⟨rfl,fun e=>by have:=h.fl e;omega,fun x hx=>by rw[e1];exact h.kp x hx,.inl ⟨h.ro,_,h.rd.move e2⟩,.inl ⟨h.wo,by rw[hl];exact h.lv,_,h.wr.move e2 (fun x _ _=>by rw[e1])⟩⟩
 stayB:=by
  intro W α r e h
  refine{h with
   rd:= ?_
   wr:= ?_}
  ·rcases h.rd with⟨a,p,b⟩|⟨a,b⟩
   ·exact .inl ⟨a,p,b.move rfl⟩
   ·exact .inr ⟨a,b⟩
  ·rcases h.wr with⟨a,b,ps,c⟩|⟨a,b,c⟩
   ·exact .inl ⟨a,b,ps,c.move rfl (fun _ _ _=>rfl)⟩
   ·exact .inr ⟨a,b,c⟩
structure AnsF (P:bLc) (W0:Wk) (LvP:List Ext):Prop where
 n:P.pts.length=P.pf.count
 fo:aAq W0.δ.disk W0.δ.size LvP P.pf P.pts
 sub:∀e∈LvP,e∈P.Lv
 ord:P.pts.Pairwise fun a c=>a.c0<c.c0∨a.c0=c.c0∧a.c1≤c.c1
 pi:∀x∈P.pts,aAv x.c2
 vi:∀x∈P.vts,aAv x.c0
 sz:P.g.n=W0.δ.size
 c1:P.pf.count≤1000
theorem bJe (bd ba bs:Nat) (P:bLc) (W0:Wk) (LvP:List Ext) (hP:AnsF P W0 LvP) (kk:Nat) (W:Wk) (cd ca cs:aAc) (h:Wc bd ba bs W cd ca cs) (r:bJd) (hJ:aZq P W0 kk 0 0 W r) (aa:List Gr) (hg:W.α.gs.Perm (P.g::P.g2::aa))
  (f:Fl) (LvF:List Ext) (ab:aAq W0.δ.disk W0.δ.size LvF f (aUn P.vts kk)) (ad:∀e∈LvF,e∈P.Lv) (hr:W.δ.size≤W.α.room-W.α.used) (a0:W.δ.acts≤1000000000) (aj:f.count≤1000):
  Ct AC 176 [pv P.ban,pv P.bw,.int .i64 (kk:Int),flv f,.func (.func 92) #[pv P.bx2] #[]] [aAi P.bw bd ba bs,cd,ca,cs,bFl P.ban P.bx r.t r.ok,r.cx,r.cb,r.cy,r.cc] fun v H'=>
   ∃cd' ca' cs' W' r' e,v= .int .i64 e∧H'=[aAi P.bw bd ba bs,cd',ca',cs',bFl P.ban P.bx r'.t r'.ok,r'.cx,r'.cb,r'.cy,r'.cc]∧Wc bd ba bs W' cd' ca' cs'∧Ev W W' (f.count+f.count*(2*P.pf.count)) 0∧W'.α.gs.Perm (aIn P r'++aa)∧
    (e=0→aZq P W0 kk f.count f.count W' r')∧(e≠0→AnsB P W0 W' r' e):=by
 have ag:flv f= .agg #[.int .i64 (f.first:Int),.int .i64 (f.blocks:Int),.int .i64 (f.width:Int),.int .i64 (f.count:Int)]:=rfl
 have ak:=hP.fo.w1
 have al:=hP.fo.w2
 have a6:=hP.c1
 have aw:=ab.len
 have ac:∀{W1:Wk} {r1:bJd} {il i:Nat} {fx:Fl} {tx:List T5} {Lx:List Ext},aZq P W0 kk il i W1 r1→aAq W0.δ.disk W0.δ.size Lx fx tx→(∀e∈Lx,e∈P.Lv)→aAq W1.δ.disk W1.δ.size Lx fx tx:=by
  intro W1 r1 il i fx tx Lx h1 h2 h3
  rw[←h1.sz,hP.sz]
  exact h2.keep fun x ⟨e,he,h4⟩=>h1.kp x ⟨e,h3 e he,h4⟩
 have hO:=fun b1 b2 b3 b4=>bGv P.bw bd ba bs (bMv P W0 kk b1 b2 b3 b4) (bSf P W0 kk b1 b2 b3 b4) f (aUn P.vts kk) LvF 214 inferInstance [] [pv b1,pv b2,pv b3,pv b4] W.δ.size W.α.room (by
   intro aa W1 am an ao r1 i u ap aq ax ay ae hu az
   have ah:W1.α.gs.Perm (P.g::P.g2::aa):=by simpa[bMv,aIn,ae.ro,ae.wo] using aq
   have au:i<(aUn P.vts kk).length:=(AK.1 hu).1
   have av:u.c0=aJw (at0 P.vts) i (2^kk-1):=by
    rw[←aNe hu]
    refine aZm ?_
    rw[aOb] at au
    have:=Nat.two_pow_pos kk
    omega
   have h1:=ans1ct bd ba bs P W0 kk i b1 b2 b3 b4 W1 am an ao ap r1 ae aa ah hP.n ⟨ak,al⟩ LvP (fun W2 r2 il i h2=>ac h2 hP.fo hP.sub) hP.sub hP.ord hP.pi hP.vi u av oM oM
   refine Ct.convP h1 (by simp[bMv]) ?_
   rintro v H' ⟨cd',ca',cs',W',r',e,rfl,rfl,a1,a2,a3,a4,a5⟩
   exact⟨[aAi P.bw bd ba bs,cd',ca',cs',(bMv P W0 kk b1 b2 b3 b4).C r'],⟨cd',ca',cs',W',r',e,rfl,rfl,a1,a2,a3,a4,a5⟩,by simp[bMv]⟩) W cd ca cs h r aa (by simpa[bMv,aIn,hJ.ro,hJ.wo] using hg) rfl rfl hJ (fun W1 r1 i h1=>⟨by
    have h2:aZq P W0 kk i i W1 r1:=h1
    have h3:=ac h2 ab ad
    rw[←h2.sz,hJ.sz] at h3
    exact h3,fun e he=>h1.lv.mem (ad e he)⟩) hr (by
    have h1:f.count*(2*P.pf.count)≤1000*2000:=DG aj oM
    have h2:aAb W.δ.size f.width f.count≤f.count:=aAx (aAl h.dev.num.1.1 ab.w1 ab.w2)
    show _+_+_*(2*P.pf.count)≤_
    omega) oM
 have hO:∀b1 b2 b3 b4:Nat,Ct AC 91 [pv P.bw,flv f,.func (.func 214) #[] #[pv b1,pv b2,pv b3,pv b4]] (aAi P.bw bd ba bs::cd::ca::cs::bOw P b1 b2 b3 b4 kk r) fun v H'=>
   ∃cd' ca' cs' W' r' e,v= .int .i64 e∧H'=aAi P.bw bd ba bs::cd'::ca'::cs'::bOw P b1 b2 b3 b4 kk r'∧Wc bd ba bs W' cd' ca' cs'∧Ev W W' (aAb W.δ.size f.width f.count+f.count*(2*P.pf.count)) 0∧W'.α.gs.Perm (aIn P r'++aa)∧
    (e=0→aZq P W0 kk f.count f.count W' r')∧(e≠0→AnsB P W0 W' r' e):=by
  intro b1 b2 b3 b4
  refine Ct.convP (hO b1 b2 b3 b4) (by simp[bMv]) ?_
  rintro v H' ⟨cd',ca',cs',W',r',e,rfl,rfl,a⟩
  exact⟨aAi P.bw bd ba bs::cd'::ca'::cs'::bOw P b1 b2 b3 b4 kk r',⟨cd',ca',cs',W',r',e,rfl,rfl,a⟩,by simp[bMv]⟩
 have ai:=hJ.pl
 obtain⟨q,i',t,ok,cx,cb,cy,cc,ro,wo⟩:=r
 dsimp only at ai
 subst ai
 unfold bOw bFl at hO
 unfold bFl
 dsimp only at hO⊢
 simp only[show((0:Nat):Int)=0 from rfl] at hO
 rw[ag] at hO⊢
 refine Ct.go Tryz.func176 Tryz.ntmps176 fun w0=> ?_
 repeat(refine st ?_;intros)
 rename_i b1 b2 b8 b4 b3
 refine R.callX (hct:=hO _ _ _ _) (h:= ?_)
 rintro _ _ ⟨cd',ca',cs',W',r',e,rfl,rfl,a1,a2,a3,a4,a5⟩
 dsimp only[AA,AB]
 refine nx ?_
 have a7:aAb W.δ.size f.width f.count≤f.count:=aAx (aAl h.dev.num.1.1 ab.w1 ab.w2)
 repeat(refine st ?_;intros)
 (refine Dn.post (Hr:=[aAi P.bw bd ba bs,cd',ca',cs',[(P.ban,row [.func (.func 97) #[pv P.bx] #[],.int .i64 r'.t.c0,.int .i64 r'.t.c1,.int .i64 r'.t.c2,.int .i64 r'.t.c3,.int .i64 r'.t.c4,.bool r'.ok] 194)],r'.cx,r'.cb,r'.cy,r'.cc]) Tryz.results176 (hR:= ?_);exact⟨cd',ca',cs',W',r',e,rfl,rfl,a1,a2.weak oM (AG _),a3,a4,a5⟩)
structure LevX where
 i:Nat
 cd:aAc
 ca:aAc
 cs:aAc
 xa:aAc
 ba':aAc
 xb:aAc
 bb':aAc
 cy:aAc
 cc:aAc
 W:Wk
def bOx (on:Nat) (ts:List T5) (i:Nat):T5:=⟨min (at0 ts i) (at0 ts (i+on)),0,0,0,0⟩
theorem at0in {ts:List T5} (h:∀t∈ts,okT 1 t) (i:Nat):aAv (at0 ts i):=aHf (fun t ht=>(aBb (h t ht)).1) i 0
theorem bSg {ts:List T5} (h:∀t∈ts,okT 1 t) (on i:Nat):okT 1 (bOx on ts i):=by
 have h1:=at0in h i
 have h2:=at0in h (i+on)
 refine okT1 ?_
 unfold aAv at*
 omega
theorem bMw (bw bd ba bs:Nat) (W:Wk) (cd ca cs:aAc) (h:Wc bd ba bs W cd ca cs) (f:Fl) (ts:List T5) (LvF:List Ext) (b5:aAq W.δ.disk W.δ.size LvF f ts) (bu:∀e∈LvF,e∈W.live) (hw:f.width=1) (on:Nat) (h4:on≤1000000) (h6:f.count≤1000000)
  (hr:3*W.δ.size≤W.α.room-W.α.used) (dg:aAb W.δ.size 1 (f.count-on)≤big W.σ.free) (h5:W.δ.acts≤1000000000):
  Ct AC 177 [pv bw,flv f,.int .i64 (on:Int)] [aAi bw bd ba bs,cd,ca,cs] fun v H'=>
   ∃cd' ca' cs' W' f' e,v= .tuple #[flv f',.int .i64 e]∧H'=[aAi bw bd ba bs,cd',ca',cs']∧Wc bd ba bs W' cd' ca' cs'∧Ev W W' (3*f.count+1) (aAb W.δ.size 1 (f.count-on))∧aBv W.live W W'∧W'.α.gs.Perm W.α.gs∧
    ((e=0∧W'.live.Perm (aCj f' W.live)∧f'.width=1∧f'.count=f.count-on∧aAq W'.δ.disk W.δ.size [f'.ext] f' (bIp on ts))∨(e=6∧f'=⟨0,0,0,0⟩∧W.δ.fault≠-1∧W'.live.Perm W.live)):=by
 obtain⟨⟨fw,h7⟩,_⟩:=h.dev.num
 have fx:=b5.len
 have cg:=b5.fit
 rw[hw] at cg
 have eb:=aAl (s:=W.δ.size) (k:=1) fw oM oM
 have ec:=aIk bw bd ba bs W cd ca cs h f ts LvF b5 oM
 have dh:flv f= .agg #[.int .i64 (f.first:Int),.int .i64 (f.blocks:Int),.int .i64 (f.width:Int),.int .i64 (f.count:Int)]:=rfl
 have hz:tv T5.zero= .agg #[.int .i64 T5.zero.c0,.int .i64 T5.zero.c1,.int .i64 T5.zero.c2,.int .i64 T5.zero.c3,.int .i64 T5.zero.c4]:=rfl
 obtain⟨nb,ee⟩:∃nb,nb=aAb W.δ.size 1 (f.count-on):=⟨_,rfl⟩
 rw[←ee] at dg⊢
 have fy:max ((f.count:Int)-(on:Int)) 0=((f.count-on:Nat):Int):=oM
 have ci:∀(W':Wk) (cd' ca' cs':aAc) (kk:Nat),Wc bd ba bs W' cd' ca' cs'→Ev W W' kk nb→kk≤3*f.count+1→aBv W.live W W'→W'.α.gs.Perm W.α.gs→W.δ.fault≠-1→W'.live.Perm W.live→
   ∃di dj dk au f' e,Value.tuple #[.agg #[.int .i64 0,.int .i64 0,.int .i64 0,.int .i64 0],.int .i64 6]= .tuple #[flv f',.int .i64 e]∧[aAi bw bd ba bs,cd',ca',cs']=[aAi bw bd ba bs,di,dj,dk]∧Wc bd ba bs au di dj dk∧Ev W au (3*f.count+1) nb∧aBv W.live W au∧au.α.gs.Perm W.α.gs∧
    ((e=0∧au.live.Perm (aCj f' W.live)∧f'.width=1∧f'.count=f.count-on∧aAq au.δ.disk W.δ.size [f'.ext] f' (bIp on ts))∨(e=6∧f'=⟨0,0,0,0⟩∧W.δ.fault≠-1∧au.live.Perm W.live)):=
  fun W' cd' ca' cs' kk a1 a2 a3 a4 a5 a7 a8=>⟨cd',ca',cs',W',⟨0,0,0,0⟩,6,rfl,rfl,a1,a2.weak a3 (AG _),a4,a5,.inr ⟨rfl,rfl,a7,a8⟩⟩
 rw[dh] at ec⊢
 refine Ct.introD Tryz.func177 rfl Tryz.ntmps177 (nle rfl) fun w0=> ?_;dsimp only[aAa,AD]
 repeat(refine st ?_;intros)
 rename_i b4 b6
 refine R.call (hct:=ec) (h:= ?_)
 rintro _ _ ⟨ak,ga,f0,α1,f1,f2,rfl,rfl,d0,ef,eg,eh,f6⟩
 dsimp only[AA,AB]
 have h8:α1.used=W.α.used+W.δ.size:=by
  have:=d0.ar.num.2.2.2
  dsimp only at this
  rw[this,(eg.map (·.n)).sum_nat,h.ar.num.2.2.2];simp[eh];omega
 have g9:α1.room=W.α.room:=ef.room
 have dl:=aIk bw bd ba bs {W with α:=α1} cd f0 cs d0 f ts LvF b5 oD
 rw[dh] at dl
 repeat(refine st ?_;intros)
 refine R.call (hct:=dl) (h:= ?_)
 rintro _ _ ⟨al,gb,f7,α2,f8,gc,rfl,rfl,ei,ej,ek,dm,gd⟩
 dsimp only[AA,AB]
 have h9:α2.used=α1.used+W.δ.size:=by
  have h1:=ei.ar.num.2.2.2
  have h3:=d0.ar.num.2.2.2
  dsimp only at h1 h3 dm
  rw[h1,(ek.map (·.n)).sum_nat,h3];simp[dm];omega
 have ha:α2.room=α1.room:=ej.room
 have el:=aKd bw bd ba bs {W with α:=α2} cd f7 cs ei 1 (f.count-on) oM oM oM oD
 dsimp only at el
 repeat(refine st ?_;intros)
 rw[fy]
 refine R.call (hct:=el) (h:= ?_)
 rintro _ _ (⟨_,bx2,first,g2,ge,gf,gg,W3,cy,cc,rfl,rfl,gh,em,e1,e2,e3,e4,e5⟩|⟨gi,_⟩)
 rotate_left
 ·exact absurd dg oM
 dsimp only[AA,AB]
 rw[←ee] at e4 e5 em
 have bv:=(ef.trans ej).trans em
 have gj:aBv W.live W W3:=fun x _=>by rw[e1]
 have hg:W3.δ.size=W.δ.size:=bv.size
 have en:W3.α.gs.Perm (g2::gb::ga::W.α.gs):=e2.trans ((ek.trans (eg.cons _)).cons _)
 repeat(refine st ?_;intros)
 refine G.loop (X:=LevX) (fun x=>x.i≤f.count∧Wc bd ba bs x.W x.cd x.ca x.cs∧Ev W x.W (3*x.i) nb∧x.W.α.gs.Perm (g2::gb::ga::W.α.gs)∧
   aGt bw ak x.W f ts ga (x.i-on) x.xa x.ba'∧aGt bw al x.W f ts gb x.i x.xb x.bb'∧aHy bw bx2 x.W first nb 1 (f.count-on) g2 (aCy (bOx on ts) (x.i-on)) x.cy x.cc∧aDv first nb W.live x.W.live∧aBv W.live W x.W)
  (fun x=>[(14,.int .i64 (x.i:Int)),(12,.func (.func 97) #[pv ak] #[]),(13,.func (.func 97) #[pv al] #[]),(11,pv bx2),(4,pv b4),(2,.int .i64 (on:Int)),(6,pv b6)])
  (fun x=>[[(b6,row [.int .i64 0,.int .i64 0,.int .i64 0,.int .i64 0] 42)],[(b4,row [.int .i64 (f.first:Int),.int .i64 (f.blocks:Int),.int .i64 (f.width:Int),.int .i64 (f.count:Int)] 42)],aAi bw bd ba bs,x.cd,x.ca,x.cs,x.xa,x.ba',x.xb,x.bb',x.cy,x.cc]) (fun x=>f.count-x.i) ⟨0,ge,gf,gg,f1,f2,f8,gc,cy,cc,W3⟩
  ⟨AS _,gh,bv.weak (AS _) oM,en,by dsimp only;rw[Nat.zero_sub];exact f6.move bv.size,gd.move bv.size,by dsimp only;rw[Nat.zero_sub];exact e5,e4,gj⟩ (body:= ?_)
 rintro⟨i,eo,ep,av,am,an,dp,dq,aw,ax,W4⟩ ⟨hi,d1,ao,dc,bz,cj,b1,cm,cu⟩
 dsimp only at hi d1 ao dc bz cj b1 cm cu⊢
 have b2:W4.δ.size=W.δ.size:=ao.size
 have hh:=ao.acts.2
 have et:aAq W4.δ.disk W4.δ.size LvF f ts:=by rw[b2];exact b5.keep fun x ⟨e,he,h2⟩=>cu x ⟨e,bu e he,h2⟩
 have d2:∀e∈LvF,e∈W4.live:=fun e he=>cm.mem (bu e he)
 have cv:∀i:Nat,aAb W.δ.size 1 (i+1)-aAb W.δ.size 1 i≤1:=fun i=>by
  unfold aAb
  have h1:(i+1+aAf W.δ.size 1-1)/aAf W.δ.size 1≤(i+aAf W.δ.size 1-1+aAf W.δ.size 1)/aAf W.δ.size 1:=BX oM
  rw[Nat.add_div_right _ oM] at h1
  omega
 by_cases eu:i<f.count
 ·have ew:ts[i]? =some ts[i]:=AE oM
  have ey:W4.α.gs.Perm (gb::(g2::ga::W.α.gs)):=dc.trans (.swap _ _ _)
  have ez:=aJt bw bd ba bs W4 eo ep av d1 al f ts LvF et d2 gb _ ey i dp dq cj _ ew oM
  have gk:tv ts[i]= .agg #[.int .i64 (ts[i]).c0,.int .i64 (ts[i]).c1,.int .i64 (ts[i]).c2,.int .i64 (ts[i]).c3,.int .i64 (ts[i]).c4]:=rfl
  have gl:=aNe ew
  rw[gk,hz,b2,hw] at ez
  have hj:=cv i
  generalize ht:ts[i]=u at*
  repeat(refine st ?_;intros)
  refine R.callV (fs:=[pv al]) (vs:=[]) (hf:=inferInstance) (hct:=ez) (h:= ?_)
  rintro _ _ ⟨cw,cz,W5,ah,ai,rfl,c5,ag,dd,ie,b7,⟨rfl,gm,c6⟩|⟨rfl,de,ig,ay,d3⟩⟩<;>dsimp only[AA,AB]
  ·have ad:=ao.trans ag
   have hk:=ad.acts.2
   have dr:W5.δ.size=W.δ.size:=ad.size
   have b8:aBv W.live W W5:=fun x hx=>by rw[dd];exact cu x hx
   have b3:aDv first nb W.live W5.live:=by rw[b7];exact cm
   have ds:aGt bw ak W5 f ts ga (i-on) am an:=bz.move ag.size
   have c7:aHy bw bx2 W5 first nb 1 (f.count-on) g2 (aCy (bOx on ts) (i-on)) aw ax:=b1.move ag.size (fun x _ _=>by rw[dd])
   have ay:W5.α.gs.Perm (g2::gb::ga::W.α.gs):=by rw[gm];exact dc
   by_cases ho:i<on
   ·repeat(refine st ?_;intros)
    refine Dn.round ⟨i+1,cw,cz,av,am,an,ah,ai,aw,ax,W5⟩ ⟨eu,c5,ad.weak oD oM,ay,by dsimp only;rw[show i+1-on=i-on by omega];exact ds,c6,by dsimp only;rw[show i+1-on=i-on by omega];exact c7,b3,b8⟩ oD
   ·have dt:ts[i-on]? =some ts[i-on]:=AE oM
    have e0:W5.α.gs.Perm (ga::(g2::gb::W.α.gs)):=ay.trans ((CQ _ _ _).cons _|>.trans (.swap _ _ _))
    have c8:aAq W5.δ.disk W5.δ.size LvF f ts:=by rw[dr];exact b5.keep fun x ⟨e,he,h2⟩=>b8 x ⟨e,bu e he,h2⟩
    have du:=aJt bw bd ba bs W5 cw cz av c5 ak f ts LvF c8 (fun e he=>b3.mem (bu e he)) ga _ e0 (i-on) am an ds _ dt oM
    have e7:tv ts[i-on]= .agg #[.int .i64 (ts[i-on]).c0,.int .i64 (ts[i-on]).c1,.int .i64 (ts[i-on]).c2,.int .i64 (ts[i-on]).c3,.int .i64 (ts[i-on]).c4]:=rfl
    have e8:=aNe dt
    rw[e7,hz,dr,hw] at du
    have hp:=cv (i-on)
    have e9:bOx on ts (i-on)=⟨min ts[i-on].c0 u.c0,0,0,0,0⟩:=by unfold bOx;rw[e8,show i-on+on=i by omega,gl]
    have dw:=bSg cg on (i-on)
    rw[e9] at dw
    have d4:aCy (bOx on ts) (i+1-on)=aCy (bOx on ts) (i-on)++[⟨min ts[i-on].c0 u.c0,0,0,0,0⟩]:=by rw[show i+1-on=i-on+1 by omega,aPp,e9]
    generalize ih:ts[i-on]=t at*
    repeat(refine st ?_;intros)
    refine R.callV (fs:=[pv ak]) (vs:=[]) (hf:=inferInstance) (hct:=du) (h:= ?_)
    rintro _ _ ⟨fa,fb,W6,c9,da,rfl,fc,b9,df,ii,fd,⟨rfl,gp,dx⟩|⟨rfl,ij,ik,d5,gq⟩⟩<;>dsimp only[AA,AB]
    ·have aj:=ad.trans b9
     have h0:=aj.acts.2
     have fe:W6.δ.size=W.δ.size:=aj.size
     have fg:aBv W.live W W6:=fun x hx=>by rw[df];exact b8 x hx
     have fh:aDv first nb W.live W6.live:=by rw[fd];exact b3
     have dy:aGt bw al W6 f ts gb (i+1) ah ai:=c6.move b9.size
     have fi:aHy bw bx2 W6 first nb 1 (f.count-on) g2 (aCy (bOx on ts) (i-on)) aw ax:=c7.move b9.size (fun x _ _=>by rw[df])
     have d5:W6.α.gs.Perm (g2::gb::ga::W.α.gs):=by rw[gp];exact ay
     have fj:=bRl bw bd ba bs W6 fa fb av fc bx2 first nb 1 (f.count-on) g2 _ aw ax fi (gb::ga::W.α.gs) d5 W.live fh (by rw[aHe];omega) ⟨min t.c0 u.c0,0,0,0,0⟩ dw oM (by rw[fe];exact eb)
     have gr:tv ⟨min t.c0 u.c0,0,0,0,0⟩= .agg #[.int .i64 (min t.c0 u.c0),.int .i64 0,.int .i64 0,.int .i64 0,.int .i64 0]:=rfl
     rw[gr] at fj
     repeat(refine st ?_;intros)
     refine R.call (hct:=fj) (h:= ?_)
     rintro _ _ ⟨fk,fm,fp,W7,fq,fr,e,rfl,rfl,ft,db,fu,gt⟩
     try dsimp only[AA,AB]
     have dz:=aj.trans db
     rcases gt with⟨rfl,gu,gw,gx⟩|⟨rfl,gy,gz⟩
     ·repeat(refine st ?_;intros)
      refine Dn.round ⟨i+1,fk,fm,fp,c9,da,ah,ai,fq,fr,W7⟩ ⟨eu,ft,dz.weak oD oM,gu,by dsimp only;rw[show i+1-on=i-on+1 by omega];exact dx.move db.size,dy.move db.size,by dsimp only;rw[d4];exact gx,gw,fg.trans fu⟩ oD
     ·have hD:=aEi bw bd ba bs W7 fk fm fp ft bx2 first nb 1 (f.count-on) g2 (gb::ga::W.α.gs) W.live fq fr (gz)
      repeat(refine st ?_;intros)
      refine Go.SL.Lv.call (hc:=hD) (h:= ?_)
      rintro _ _ ⟨aa,az,ab,WA,d6,d7,rfl,a0,ac,ap,a6,aq⟩
      try dsimp only[AA,AB]
      have a9:=aBn bw bd ba bs WA aa az ab a0 al f ts gb (ga::W.α.gs) ah ai (.inl ⟨a6,i+1,dy.move (db.trans ac).size⟩)
      refine Go.SL.Lv.call (hc:=a9) (h:= ?_)
      rintro _ _ ⟨bc,αB,d8,rfl,be,bf,bg⟩
      try dsimp only[AA,AB]
      have bh:=aBn bw bd ba bs {WA with α:=αB} aa bc ab be ak f ts ga W.α.gs c9 da (.inl ⟨bg,i-on+1,dx.move (db.trans ac).size⟩)
      refine Go.SL.Lv.call (hc:=bh) (h:= ?_)
      rintro _ _ ⟨ae,αC,d9,rfl,bi,bk,bo⟩
      try dsimp only[AA,AB]
      have bp:=(dz).trans (ac.trans (bf.trans bk))
      have bq:aBv W.live W {WA with α:=αC}:=fun x hx=>by show WA.δ.disk x=_;rw[ap];exact(fg.trans fu) x hx
      (refine Go.SL.Lv.nil (Hr:=[aAi bw bd ba bs,aa,ae,ab]) Tryz.results177 (hR:= ?_);exact ci {WA with α:=αC} aa ae ab _ bi bp oM bq bo (aBj aj gy) aq)
    ·have aj:=ad.trans b9
     have de:W5.δ.fault≠-1:=oM
     have ea:aBv W.live W W6:=fun x hx=>by rw[df];exact b8 x hx
     have hD:=aEi bw bd ba bs W6 fa fb av fc bx2 first nb 1 (f.count-on) g2 (gb::W.α.gs) W.live aw ax (.inl ⟨d5,by rw[fd];exact b3,_,c7.move b9.size (fun x _ _=>by rw[df])⟩)
     repeat(refine st ?_;intros)
     refine Go.SL.Lv.call (hc:=hD) (h:= ?_)
     rintro _ _ ⟨aa,az,ab,WA,d6,d7,rfl,a0,ac,ap,a6,aq⟩
     try dsimp only[AA,AB]
     have a9:=aBn bw bd ba bs WA aa az ab a0 al f ts gb (W.α.gs) ah ai (.inl ⟨a6,i+1,c6.move (b9.trans ac).size⟩)
     refine Go.SL.Lv.call (hc:=a9) (h:= ?_)
     rintro _ _ ⟨bc,αB,d8,rfl,be,bf,bg⟩
     try dsimp only[AA,AB]
     have bh:=aBn bw bd ba bs {WA with α:=αB} aa bc ab be ak f ts ga W.α.gs c9 da (.inr ⟨bg,gq⟩)
     refine Go.SL.Lv.call (hc:=bh) (h:= ?_)
     rintro _ _ ⟨ae,αC,d9,rfl,bi,bk,bo⟩
     try dsimp only[AA,AB]
     have bp:=(aj).trans (ac.trans (bf.trans bk))
     have bq:aBv W.live W {WA with α:=αC}:=fun x hx=>by show WA.δ.disk x=_;rw[ap];exact(ea) x hx
     (refine Go.SL.Lv.nil (Hr:=[aAi bw bd ba bs,aa,ae,ab]) Tryz.results177 (hR:= ?_);exact ci {WA with α:=αC} aa ae ab _ bi bp oM bq bo (aBj ad de) aq)
  ·have ad:=ao.trans ag
   have g0:W4.δ.fault≠-1:=oM
   have ea:aBv W.live W W5:=fun x hx=>by rw[dd];exact cu x hx
   have hD:=aEi bw bd ba bs W5 cw cz av c5 bx2 first nb 1 (f.count-on) g2 (ga::W.α.gs) W.live aw ax (.inl ⟨ay,by rw[b7];exact cm,_,b1.move ag.size (fun x _ _=>by rw[dd])⟩)
   repeat(refine st ?_;intros)
   refine Go.SL.Lv.call (hc:=hD) (h:= ?_)
   rintro _ _ ⟨aa,az,ab,WA,d6,d7,rfl,a0,ac,ap,a6,aq⟩
   try dsimp only[AA,AB]
   have a9:=aBn bw bd ba bs WA aa az ab a0 al f ts gb (ga::W.α.gs) ah ai (.inr ⟨a6,d3⟩)
   refine Go.SL.Lv.call (hc:=a9) (h:= ?_)
   rintro _ _ ⟨bc,αB,d8,rfl,be,bf,bg⟩
   try dsimp only[AA,AB]
   have bh:=aBn bw bd ba bs {WA with α:=αB} aa bc ab be ak f ts ga W.α.gs am an (.inl ⟨bg,i-on,bz.move (ag.trans ac).size⟩)
   refine Go.SL.Lv.call (hc:=bh) (h:= ?_)
   rintro _ _ ⟨ae,αC,d9,rfl,bi,bk,bo⟩
   try dsimp only[AA,AB]
   have bp:=(ad).trans (ac.trans (bf.trans bk))
   have bq:aBv W.live W {WA with α:=αC}:=fun x hx=>by show WA.δ.disk x=_;rw[ap];exact(ea) x hx
   (refine Go.SL.Lv.nil (Hr:=[aAi bw bd ba bs,aa,ae,ab]) Tryz.results177 (hR:= ?_);exact ci {WA with α:=αC} aa ae ab _ bi bp oM bq bo (aBj ao g0) aq)
 ·obtain rfl:i=f.count:=by omega
  have g1:=aZi bw bd ba bs W4 eo ep av d1 bx2 first nb 1 (f.count-on) g2 _ aw ax b1 (gb::ga::W.α.gs) dc W.live cm oM (by rw[b2];exact eb)
  repeat(refine st ?_;intros)
  refine R.call (hct:=g1) (h:= ?_)
  rintro _ _ ⟨cw,cz,g3,W5,g4,g5,f',e,rfl,rfl,c5,ag,b8,ay,d3,g6⟩
  try dsimp only[AA,AB]
  have g7:flv f'= .agg #[.int .i64 (f'.first:Int),.int .i64 (f'.blocks:Int),.int .i64 (f'.width:Int),.int .i64 (f'.count:Int)]:=rfl
  rw[g7]
  have hD:=aEi bw bd ba bs W5 cw cz g3 c5 bx2 first nb 1 (f.count-on) g2 (gb::ga::W.α.gs) W5.live g4 g5 (.inr ⟨ay,.refl _,d3⟩)
  repeat(refine st ?_;intros)
  refine Go.SL.Lv.call (hc:=hD) (h:= ?_)
  rintro _ _ ⟨aa,az,ab,WA,d6,d7,rfl,a0,ac,ap,a6,aq⟩
  try dsimp only[AA,AB]
  have a9:=aBn bw bd ba bs WA aa az ab a0 al f ts gb (ga::W.α.gs) dp dq (.inl ⟨a6,f.count,cj.move (ag.trans ac).size⟩)
  refine Go.SL.Lv.call (hc:=a9) (h:= ?_)
  rintro _ _ ⟨bc,αB,d8,rfl,be,bf,bg⟩
  try dsimp only[AA,AB]
  have bh:=aBn bw bd ba bs {WA with α:=αB} aa bc ab be ak f ts ga W.α.gs am an (.inl ⟨bg,f.count-on,bz.move (ag.trans ac).size⟩)
  refine Go.SL.Lv.call (hc:=bh) (h:= ?_)
  rintro _ _ ⟨ae,αC,d9,rfl,bi,bk,bo⟩
  try dsimp only[AA,AB]
  have bp:=(ao.trans ag).trans (ac.trans (bf.trans bk))
  have bq:aBv W.live W {WA with α:=αC}:=fun x hx=>by show WA.δ.disk x=_;rw[ap];exact(cu.trans b8) x hx
  (refine Go.SL.Lv.nil (Hr:=[aAi bw bd ba bs,aa,ae,ab]) Tryz.results177 (hR:= ?_);refine⟨aa,ae,ab,{WA with α:=αC},f',e,rfl,rfl,bi,bp.weak oM oM,bq,bo,?_⟩)
  rcases g6 with⟨rfl,b7,g8,fv,c8⟩|⟨rfl,rfl,de,b7⟩
  ·rw[aHe] at fv
   refine .inl ⟨rfl,aq.trans b7,g8,fv,?_⟩
   show aAq WA.δ.disk _ _ _ _
   unfold bIp
   rw[ap,←b2,fx]
   exact c8
  ·exact .inr ⟨rfl,rfl,aBj ao de,aq.trans b7⟩
structure FndX where
 k:Nat
 own:Bool
 f:Fl
 cd:aAc
 ca:aAc
 cs:aAc
 W:Wk
 r:bJd
theorem lvX {first nb:Nat} {Lv live:List Ext}:aDv first nb Lv live↔live.Perm (aCj ⟨first,nb,0,0⟩ Lv):=by
 unfold aDv aCj
 dsimp only[Fl.ext]
 split<;>exact Iff.rfl
def lvO (own:Bool) (f:Fl) (L:List Ext):List Ext:=if own then aCj f L else L
theorem aPv {own:Bool} {f:Fl} {L:List Ext} {e:Ext} (h:e∈L):e∈lvO own f L:=by
 unfold lvO;split
 ·exact aKy h
 ·exact h
theorem bCh (f:Fl) (L:List Ext):(aCj f L).length≤L.length+1:=by unfold aCj;split<;>simp
abbrev bFm:Nat:=6000000
theorem bMx (p:Jp) (bw bd ba bs bj:Nat) (i6:p.bw=bw) (W:Wk) (cd ca cs:aAc) (h:Wc bd ba bs W cd ca cs) (pf vf:Fl) (vts aa:List T5) (gx:aBm W (pf,aBc aa)) (gt:aBm W (vf,vts)) (fp:vf.width=1) (i8:vf.count≤500) (i7:pf.count≤500)
  (ep:∀x∈aBc aa,okP vts.length x) (m:Nat) (gw:aAb W.δ.size 2 pf.count≤m) (gu:aAb W.δ.size 1 vf.count≤m) (hm:m≤1000) (gy:m*(W.live.length+3)+(aBg W.live+2*m)≤W.σ.n) (hr:5*W.δ.size≤W.α.room-W.α.used) (i9:W.δ.acts≤900000000) (ph:Option Addr) (nh ag:Nat):
  Ct AC 126 [pv bj,flv pf,flv vf] [aFg bj bw 0 ph nh ag,aAi bw bd ba bs,cd,ca,cs] fun v H'=>
   ∃f e cd' ca' cs' W',v= .tuple #[flv f,.int .i64 e]∧H'=[aFg bj bw 0 ph nh ag,aAi bw bd ba bs,cd',ca',cs']∧Wc bd ba bs W' cd' ca' cs'∧aEh p W W' bFm 20000 none ((aBc aa).map (aDk vts)) f e∧
    (f.count≤pf.count∧f.blocks≤aAb W.δ.size 2 pf.count∧(e=0→f.width=2∧f.count=pf.count)):=by
 obtain⟨LvP,bu,b9⟩:=gx
 obtain⟨LvV,cm,de⟩:=gt
 dsimp only at bu cm
 obtain⟨⟨gz,ja⟩,_⟩:=h.dev.num
 have fq:=bu.len
 have jb:=cm.len
 have fr:∀t∈vts,okT 1 t:=by have:=cm.fit;rw[fp] at this;exact this
 have g0:∀t∈vts,aAv t.c0:=fun t ht=>(aBb (fr t ht)).1
 have g1:∀x∈aBc aa,aAv x.c2:=fun x hx=>(aBb (bu.fit x hx)).2.2.1
 obtain⟨_,_,_,_,_,g3,_⟩:=h.sp
 have et:m≤big W.σ.free:=aTe h.live g3 (by
  have:m*(W.live.length+1)≤m*(W.live.length+3):=B7 _ oM
  omega)
 obtain⟨nb,eu⟩:∃nb,nb=aAb W.δ.size 2 pf.count:=⟨_,rfl⟩
 rw[←eu] at gw⊢
 have ah:=eQ0
 have g4:1≤aAf W.δ.size 2:=aAl gz oM oM
 have ft:=aIk bw bd ba bs W cd ca cs h pf (aBc aa) LvP bu oM
 have a9:∀(W':Wk) (cd' ca' cs':aAc) (f:Fl) (e:Int) (kk:Nat),Wc bd ba bs W' cd' ca' cs'→W'.α.gs.Perm W.α.gs→Ev W W' kk 20000→kk≤bFm→aBv W.live W W'→
   ((e=0∧W'.live.Perm (aCj f W.live)∧f.width=2∧f.count=pf.count∧aAq W'.δ.disk W.δ.size [f.ext] f ((aBc aa).map (aDk vts)))∨(e=6∧f=⟨0,0,0,0⟩∧W.δ.fault≠-1∧W'.live.Perm W.live))→
   ∃f' e' d8 d9 ea fu,Value.tuple #[flv f,.int .i64 e]= .tuple #[flv f',.int .i64 e']∧[aFg bj bw 0 ph nh ag,aAi bw bd ba bs,cd',ca',cs']=[aFg bj bw 0 ph nh ag,aAi bw bd ba bs,d8,d9,ea]∧Wc bd ba bs fu d8 d9 ea∧aEh p W fu bFm 20000 none ((aBc aa).map (aDk vts)) f' e'∧
    (f'.count≤pf.count∧f'.blocks≤nb∧(e'=0→f'.width=2∧f'.count=pf.count)):=by
  intro W' cd' ca' cs' f e kk a1 a2 a3 a4 a5 a6
  refine⟨f,e,cd',ca',cs',W',rfl,rfl,a1,⟨a2,a3.room,a3.size,a3.n,by have:=a3.acts.2;omega,a3.big,a3.fault,a5,?_⟩,?_⟩
  ·rcases a6 with⟨x1,x2,_,_,x3⟩|⟨x1,x2,x3,x4⟩
   ·exact .inl ⟨x1,rfl,x2,x3⟩
   ·exact .inr ⟨oM,x2,x4,.inl ⟨x1,x3⟩⟩
  ·rcases a6 with⟨x1,x2,y1,y2,x3⟩|⟨x1,rfl,x3,x4⟩
   ·exact⟨oM,by rw[x3.blk,y1,y2,eu];exact AG _,fun _=>⟨y1,y2⟩⟩
   ·exact⟨AS _,AS _,fun h=>by omega⟩
 rw[ah pf] at ft
 rw[ah pf,ah vf]
 unfold aFg at a9⊢
 refine Ct.introD Tryz.func126 rfl Tryz.ntmps126 (nle rfl) fun w0=> ?_;dsimp only[aAa,AD]
 repeat(refine sv ?_;intros)
 rename_i b4 b5 b6
 refine R.callX (hct:=ft) (h:= ?_)
 rintro _ _ ⟨bx,g,cg,α1,cx,cb,rfl,rfl,fv,fw,fx,eb,g5⟩
 dsimp only[AA,AB]
 refine nx ?_
 have jc:α1.used=W.α.used+W.δ.size:=by
  have:=fv.ar.num.2.2.2
  dsimp only at this
  rw[this,(fx.map (·.n)).sum_nat,h.ar.num.2.2.2];simp[eb];omega
 have iw:α1.room=W.α.room:=fw.room
 have ew:=aKd bw bd ba bs {W with α:=α1} cd cg cs fv 2 pf.count oM oM oM oD
 dsimp only at ew
 rw[←eu] at ew
 repeat(refine sv ?_;intros)
 refine R.callX (hct:=ew) (h:= ?_)
 rintro _ _ (⟨_,bx2,first,g2,g6,g7,ey,W2,cy,cc,rfl,rfl,g8,fy,e1,e2,e3,e4,e5⟩|⟨g9,_⟩)
 rotate_left
 ·exact absurd et oM
 dsimp only[AA,AB]
 refine nx ?_
 have df:=fw.trans fy
 have ix:W2.δ.size=W.δ.size:=df.size
 have ha:aBv W.live W W2:=fun x _=>by rw[e1]
 have hg:W2.α.gs.Perm (g::g2::W.α.gs):=(e2.trans (fx.cons _)).trans (.swap _ _ _)
 have dg:∀{W1:Wk} {dh cg di:aAc},Wc bd ba bs W1 dh cg di→W1.α.gs.Perm (g::g2::W.α.gs)→W1.α.used=W.α.used+2*W.δ.size:=by
  intro W1 dh cg di h1 h2
  rw[h1.ar.num.2.2.2,(h2.map (·.n)).sum_nat,h.ar.num.2.2.2];simp[eb,e3];omega
 repeat(refine sv ?_;intros)
 rename_i ban
 have hM:=aRy bw bd ba bs W2 g6 g7 ey g8 bx ban pf (aBc aa) LvP (by rw[e1];exact bu) (fun e he=>e4.mem (b9 e he)) g (g2::W.α.gs) hg 0 (AS _) cx cb (g5.move fy.size) T5.zero false (by rw[e1];omega)
 unfold bFl at hM
 refine R.call (hct:=hM) (h:= ?_)
 rintro _ _ ⟨f0,f1,W3,f2,f7,t3,jd,e,rfl,rfl,f8,ga,gb,je,hh,hk⟩
 try dsimp only[AA,AB]
 have ec:=df.trans ga
 have ez:aBv W.live W W3:=fun x hx=>by rw[gb];exact ha x hx
 have ee:aDv first nb W.live W3.live:=by rw[hh];exact e4
 have ef:aHy bw bx2 W3 first nb 2 pf.count g2 [] cy cc:=by
  exact e5.move ga.size (fun x _ _=>by rw[gb])
 rcases hk with⟨rfl,e0,rfl,gc,hp⟩|⟨rfl,hw,e0,hz⟩
 rotate_left
 ·have hD:=aEi bw bd ba bs W3 f0 f1 ey f8 bx2 first nb 2 pf.count g2 (W.α.gs) (W.live) cy cc (.inl ⟨e0,ee,_,ef⟩)
  repeat(refine sv ?_;intros)
  refine Go.SL.Lv.call (hc:=hD) (h:= ?_)
  rintro _ _ ⟨ab,aq,ac,WA,c8,c9,rfl,au,ae,ak,av,al⟩
  try dsimp only[AA,AB]
  have aw:=aBn bw bd ba bs WA ab aq ac au bx pf (aBc aa) g W.α.gs f2 f7 (.inr ⟨av,hz⟩)
  refine Go.SL.Lv.call (hc:=aw) (h:= ?_)
  rintro _ _ ⟨ad,αB,da,rfl,ax,ay,az⟩
  try dsimp only[AA,AB]
  have a0:=(ec).trans (ae.trans ay)
  have a7:aBv W.live W {WA with α:=αB}:=fun x hx=>by show WA.δ.disk x=_;rw[ak];exact(ez) x hx
  (refine Go.SL.Lv.nil (Hr:=[[(bj,row [pv bw,.int .i64 0,.slice ph nh ag] 98)],aAi bw bd ba bs,ab,ad,ac]) Tryz.results126 (hR:= ?_);exact a9 {WA with α:=αB} ab ad ac ⟨0,0,0,0⟩ 6 _ ax az (a0.weak (AG _) oM) (by unfold bFm;omega) a7 (.inr ⟨rfl,rfl,aBj df hw,al⟩))
 have iy:min (0+1) pf.count=min 1 pf.count:=rfl
 rw[gc]
 have h0:aZq ⟨bw,bx,bx2,ban,first,nb,g,g2,pf,aBc aa,vts,W.live⟩ W3 0 0 0 W3 ⟨0,0,bSe (aBc aa) 0,decide (0<pf.count),f2,f7,cy,cc,true,true⟩:=
  ⟨rfl,rfl,rfl,hp,ef,ee,aBv.refl _ _,id,AS _,rfl,rfl,fun j x hj=>absurd hj (Nat.not_lt_zero _),fun j x _ hx=>by
   have:=ep x (A3 hx)
   unfold okP at this
   unfold ltP;omega⟩
 have e7:aUn vts 0=vts:=bIq fr
 repeat(refine sv ?_;intros)
 rename_i gd
 refine G.loop (X:=FndX) (fun x=>Wc bd ba bs x.W x.cd x.ca x.cs∧aZq ⟨bw,bx,bx2,ban,first,nb,g,g2,pf,aBc aa,vts,lvO x.own x.f W.live⟩ x.W x.k 0 0 x.W x.r∧x.W.α.gs.Perm (g::g2::W.α.gs)∧(∃LvF,aAq x.W.δ.disk W.δ.size LvF x.f (aUn vts x.k)∧∀e∈LvF,e∈lvO x.own x.f W.live)∧x.f.width=1∧
   aBv W.live W x.W∧Ev W x.W (1+x.k*600000) (nb+x.k*1000)∧(x.k=0→x.own=false)∧x.k≤9∧(x.own=true→x.f.blocks≤m))
  (fun x=>[(15,.int .i64 (x.k:Int)),(14,.bool x.own),(0,pv bj),(8,pv bx),(10,pv bx2),(11,pv ban),(13,pv gd),(6,pv b6)])
  (fun x=>[[(b6,row [.int .i64 0,.int .i64 0,.int .i64 0,.int .i64 0] 42)],[(gd,row [.int .i64 (x.f.first:Int),.int .i64 (x.f.blocks:Int),.int .i64 (x.f.width:Int),.int .i64 (x.f.count:Int)] 42)],[(bj,row [pv bw,.int .i64 0,.slice ph nh ag] 98)],[(ban,row [.func (.func 97) #[pv bx] #[],.int .i64 x.r.t.c0,.int .i64 x.r.t.c1,.int .i64 x.r.t.c2,.int .i64 x.r.t.c3,.int .i64 x.r.t.c4,.bool x.r.ok] 194)],aAi bw bd ba bs,x.cd,x.ca,x.cs,x.r.cx,x.r.cb,x.r.cy,x.r.cc]) (fun x=>20-x.k) ⟨0,false,vf,f0,f1,ey,W3,_⟩
  ⟨f8,h0,e0,⟨LvV,by rw[e7];exact cm.keep fun x ⟨e,he,h2⟩=>ez x ⟨e,de e he,h2⟩,de⟩,fp,ez,ec.weak oD oD,fun _=>rfl,oD,fun h=>by cases h⟩ (body:= ?_)
 rintro⟨k,own,f,d0,d1,e8,W4,r4⟩ ⟨dj,bv,d2,⟨LvF,cu,bz⟩,ge,ci,bh,gf,gg,hfm⟩
 dsimp only at dj bv d2 cu bz ge ci bh gf gg hfm⊢
 have b3:W4.δ.size=W.δ.size:=bh.size
 have iz:=bh.acts.2
 have h9:=cu.len
 rw[aOb] at h9
 have jf:=Nat.two_pow_pos k
 have jg:=dg dj d2
 have i0:W4.α.room=W.α.room:=bh.room
 have ie:AnsF ⟨bw,bx,bx2,ban,first,nb,g,g2,pf,aBc aa,vts,lvO own f W.live⟩ W4 LvP:=
  ⟨fq,by rw[b3];exact bu.keep fun x ⟨e,he,h2⟩=>ci x ⟨e,b9 e he,h2⟩,fun e he=>aPv (b9 e he),aTj aa,g1,g0,bv.sz,oD⟩
 have d3:=bJe bd ba bs _ W4 LvP ie k W4 d0 d1 e8 dj r4 bv W.α.gs d2 f LvF (by rw[b3];exact cu) bz oM oM oM
 have dk:=bv.oo
 have ig:=bv.qn
 have eg:=bv.hi
 have dl:=bv.rd
 have dm:=bv.wr
 have dp:=bv.lv
 dsimp only at dk ig eg dl dm dp d3
 unfold bFl at d3
 rw[ah f] at d3
 have gh:∀{W1:Wk} {dh cg di:aAc},Wc bd ba bs W1 dh cg di→W1.σ.n=W.σ.n→aDv first nb (lvO own f W.live) W1.live→m≤big W1.σ.free:=by
  intro W1 dh cg di h1 hn ih
  obtain⟨_,_,_,_,_,gi,_⟩:=h1.sp
  have h2:=lvX.1 ih
  have h3:=h2.length_eq
  have h4:=aFy h2
  rw[aMk] at h4
  have h5:=bCh ⟨first,nb,0,0⟩ (lvO own f W.live)
  have h6:(lvO own f W.live).length≤W.live.length+1:=by
   unfold lvO;split
   ·exact bCh _ _
   ·omega
  have h7:aBg (lvO own f W.live)≤m+aBg W.live:=by
   unfold lvO;split
   ·rename_i ho
    rw[aMk]
    have:=hfm ho
    omega
   ·omega
  refine aTe h1.live gi ?_
  have h8:m*(W1.live.length+1)≤m*(W.live.length+3):=B7 _ oM
  dsimp only at h4
  rw[hn];omega
 by_cases gj:r4.q<pf.count
 rotate_left
 ·have jh:r4.q=pf.count:=oM
  rw[decide_eq_false gj] at dk
  have ii:((aBc aa).take r4.q).map (aDk vts)=(aBc aa).map (aDk vts):=by rw[List.take_of_length_le oM]
  rw[ii] at dm
  have eh:=fun (L:List Ext) (W5:Wk) (b7:aAc) (b1:Wc bd ba bs W5 d0 d1 b7) (hδ:W5.δ=W4.δ) (hα:W5.α=W4.α) (hl:aDv first nb L W5.live)=>aZi bw bd ba bs W5 d0 d1 b7 b1 bx2 first nb 2 pf.count g2 _ r4.cy r4.cc (dm.move (by rw[hδ]) (fun x _ _=>by rw[hδ])) (g::W.α.gs) (by rw[hα];exact d2.trans (.swap _ _ _)) L hl (by rw[hδ];omega) (by rw[hδ,b3];exact g4)
  have ei:((aBc aa).map (aDk vts)).length=pf.count:=by rw[AY];exact fq
  cases own with
  |false=>
   have e9:=eh W.live W4 e8 dj rfl rfl (by exact dp)
   repeat(refine sv ?_;intros)
   refine R.call (hct:=e9) (h:= ?_)
   rintro _ _ ⟨bk,bo,bp,W6,fa,fb,f6,e6,rfl,rfl,bq,a8,db,dq,fc,dr⟩
   try dsimp only[AA,AB]
   rw[ah f6]
   have hD:=aEi bw bd ba bs W6 bk bo bp bq bx2 first nb 2 pf.count g2 (g::W.α.gs) W6.live fa fb (.inr ⟨dq,.refl _,fc⟩)
   repeat(refine sv ?_;intros)
   refine Go.SL.Lv.call (hc:=hD) (h:= ?_)
   rintro _ _ ⟨ab,aq,ac,WA,c8,c9,rfl,au,ae,ak,av,al⟩
   try dsimp only[AA,AB]
   have aw:=aBn bw bd ba bs WA ab aq ac au bx pf (aBc aa) g W.α.gs r4.cx r4.cb (.inl ⟨av,_,dl.move (by rw[ae.size,a8.size])⟩)
   refine Go.SL.Lv.call (hc:=aw) (h:= ?_)
   rintro _ _ ⟨ad,αB,da,rfl,ax,ay,az⟩
   try dsimp only[AA,AB]
   have a0:=(bh).trans (a8.trans (ae.trans ay))
   have a7:aBv W.live W {WA with α:=αB}:=fun x hx=>by show WA.δ.disk x=_;rw[ak,db x hx];exact ci x hx
   (refine Go.SL.Lv.nil (Hr:=[[(bj,row [pv bw,.int .i64 0,.slice ph nh ag] 98)],aAi bw bd ba bs,ab,ad,ac]) Tryz.results126 (hR:= ?_);refine a9 {WA with α:=αB} ab ad ac f6 e6 _ ax az (a0.weak (AG _) oM) (by unfold bFm;omega) a7 ?_)
   rcases dr with⟨rfl,ai,fd,fe,aj⟩|⟨rfl,rfl,dc,ai⟩
   ·exact .inl ⟨rfl,al.trans ai,fd,fe.trans ei,by rw[ak];rw[b3] at aj;exact aj⟩
   ·exact .inr ⟨rfl,rfl,aBj (bh) dc,al.trans ai⟩
  |true=>
   have bi:=aKv bw bd ba bs W4 d0 d1 e8 dj f (aCj ⟨first,nb,0,0⟩ W.live) (aDv.add ((lvX.1 dp).trans (aEe _ _ _)))
   rw[ah f] at bi
   repeat(refine sv ?_;intros)
   refine R.callX (hct:=bi) (h:= ?_)
   rintro _ _ ⟨b7,W5,rfl,rfl,b1,d4,d5,ij,ik⟩
   dsimp only[AA,AB]
   refine nx ?_
   have e9:=eh W.live W5 b7 b1 d5 ij (lvX.2 (by rw[ik]))
   repeat(refine sv ?_;intros)
   refine R.call (hct:=e9) (h:= ?_)
   rintro _ _ ⟨bk,bo,bp,W6,fa,fb,f6,e6,rfl,rfl,bq,a8,db,dq,fc,dr⟩
   try dsimp only[AA,AB]
   rw[ah f6]
   have hD:=aEi bw bd ba bs W6 bk bo bp bq bx2 first nb 2 pf.count g2 (g::W.α.gs) W6.live fa fb (.inr ⟨dq,.refl _,fc⟩)
   repeat(refine sv ?_;intros)
   refine Go.SL.Lv.call (hc:=hD) (h:= ?_)
   rintro _ _ ⟨ab,aq,ac,WA,c8,c9,rfl,au,ae,ak,av,al⟩
   try dsimp only[AA,AB]
   have aw:=aBn bw bd ba bs WA ab aq ac au bx pf (aBc aa) g W.α.gs r4.cx r4.cb (.inl ⟨av,_,dl.move (by rw[ae.size,a8.size,d5])⟩)
   refine Go.SL.Lv.call (hc:=aw) (h:= ?_)
   rintro _ _ ⟨ad,αB,da,rfl,ax,ay,az⟩
   try dsimp only[AA,AB]
   have a0:=(bh.trans d4).trans (a8.trans (ae.trans ay))
   have a7:aBv W.live W {WA with α:=αB}:=fun x hx=>by show WA.δ.disk x=_;rw[ak,db x hx,d5];exact ci x hx
   (refine Go.SL.Lv.nil (Hr:=[[(bj,row [pv bw,.int .i64 0,.slice ph nh ag] 98)],aAi bw bd ba bs,ab,ad,ac]) Tryz.results126 (hR:= ?_);refine a9 {WA with α:=αB} ab ad ac f6 e6 _ ax az (a0.weak (AG _) oM) (by unfold bFm;omega) a7 ?_)
   rcases dr with⟨rfl,ai,fd,fe,aj⟩|⟨rfl,rfl,dc,ai⟩
   ·exact .inl ⟨rfl,al.trans ai,fd,fe.trans ei,by rw[ak];rw[d5,b3] at aj;exact aj⟩
   ·exact .inr ⟨rfl,rfl,aBj (bh.trans d4) dc,al.trans ai⟩
 rw[decide_eq_true gj] at dk
 have im:(aBc aa)[r4.q]? =some (aBc aa)[r4.q]:=AE oM
 have io:=ep _ (B5 (l:=aBc aa) (n:=r4.q) oM)
 have ip:=eg r4.q _ (AG _) im
 have ji:2^k≤vts.length:=by
  unfold okP at io
  unfold ltP at ip
  have h1:k≤(aBc aa)[r4.q].c0.toNat:=oM
  have h2:=Nat.pow_le_pow_right (n:=2) oM h1
  omega
 have jj:k≤8:=by
  rcases DO k 9 with h1|h1
  ·omega
  ·have h2:=Nat.pow_le_pow_right (n:=2) oM h1
   have:2^9=512:=by decide
   omega
 have jk:AJ .i64 ((k:Int)+1)=((k+1:Nat):Int):=by rw[aAd oM];omega
 have ir:2^k≤512:=oM
 have jl:AJ .i64 (1*2^(min ((k:Nat):Int).toNat IntKind.i64.bits))=((2^k:Nat):Int):=by
  have h1:min ((k:Nat):Int).toNat IntKind.i64.bits=k:=by
   rw[AR];exact C0 (by show k≤64;omega)
  rw[h1]
  have h2:(1:Int)*2^k=((2^k:Nat):Int):=by rw[Int.one_mul];simp
  rw[h2];exact aAd oM
 repeat(refine sv ?_;intros)
 refine R.callX (hct:=d3) (h:= ?_)
 rintro _ _ ⟨d6,d7,b7,W5,r5,e,rfl,rfl,b1,d4,ds,fg,gk⟩
 dsimp only[AA,AB]
 refine nx ?_
 have i1:f.count+f.count*(2*pf.count)≤500+500*(2*500):=by
  have:f.count*(2*pf.count)≤500*(2*500):=DG oM oM
  omega
 have am:=bh.trans d4
 have i2:=am.acts.2
 by_cases he:e=0
 rotate_left
 ·cases own with
  |false=>
   obtain⟨e6,b8,an,bc,ao⟩:=gk he
   dsimp only at an bc ao
   subst e6
   have dt:aBv W.live W W5:=ci.trans (an.sub fun e he=>aPv he)
   have be:WSt bw bx2 first nb 2 pf.count g2 (if r5.ro=true then g::W.α.gs else W.α.gs) W.live W5 r5.cy r5.cc:=by
    rcases ao with⟨a,b,ps,c⟩|⟨a,b,c⟩
    ·refine .inl ⟨?_,b,ps,c⟩
     refine ds.trans ?_;unfold aIn;rw[a];cases r5.ro<;>simp[CQ]
    ·refine .inr ⟨?_,b,c⟩
     refine ds.trans ?_;unfold aIn;rw[a];cases r5.ro<;>simp
   have bf:∀(WA:Wk),WA.δ.size=W5.δ.size→WA.α.gs.Perm (if r5.ro=true then g::W.α.gs else W.α.gs)→RSt bw bx pf (aBc aa) g W.α.gs WA r5.cx r5.cb:=by
    intro WA hs b2
    rcases bc with⟨a,pos,b⟩|⟨a,b⟩
    ·rw[if_pos a] at b2;exact .inl ⟨b2,pos,b.move hs⟩
    ·rw[if_neg (by rw[a];decide)] at b2;exact .inr ⟨b2,b⟩
   have hD:=aEi bw bd ba bs W5 d6 d7 b7 b1 bx2 first nb 2 pf.count g2 (if r5.ro=true then g::W.α.gs else W.α.gs) (W.live) r5.cy r5.cc (be)
   repeat(refine sv ?_;intros)
   refine Go.SL.Lv.call (hc:=hD) (h:= ?_)
   rintro _ _ ⟨ab,aq,ac,WA,c8,c9,rfl,au,ae,ak,av,al⟩
   try dsimp only[AA,AB]
   have aw:=aBn bw bd ba bs WA ab aq ac au bx pf (aBc aa) g W.α.gs r5.cx r5.cb (bf WA ae.size av)
   refine Go.SL.Lv.call (hc:=aw) (h:= ?_)
   rintro _ _ ⟨ad,αB,da,rfl,ax,ay,az⟩
   try dsimp only[AA,AB]
   have a0:=(am).trans (ae.trans ay)
   have a7:aBv W.live W {WA with α:=αB}:=fun x hx=>by show WA.δ.disk x=_;rw[ak];exact(dt) x hx
   (refine Go.SL.Lv.nil (Hr:=[[(bj,row [pv bw,.int .i64 0,.slice ph nh ag] 98)],aAi bw bd ba bs,ab,ad,ac]) Tryz.results126 (hR:= ?_);exact a9 {WA with α:=αB} ab ad ac ⟨0,0,0,0⟩ 6 _ ax az (a0.weak (AG _) oM) (by unfold bFm;omega) a7 (.inr ⟨rfl,rfl,aBj bh b8,al⟩))
  |true=>
   obtain⟨e6,b8,an,bc,ao⟩:=gk he
   dsimp only at an bc ao
   subst e6
   have dt:aBv W.live W W5:=ci.trans (an.sub fun e he=>aPv he)
   have du:W5.live.Perm (aCj f (if r5.wo=true then aCj ⟨first,nb,0,0⟩ W.live else W.live)):=by
    rcases ao with⟨a,b,_⟩|⟨a,b,_⟩
    ·rw[if_pos a];exact(lvX.1 b).trans (aEe _ _ _)
    ·rw[if_neg (by rw[a];decide)];exact b
   have bi:=aKv bw bd ba bs W5 d6 d7 b7 b1 f _ (aDv.add du)
   rw[ah f] at bi
   repeat(refine sv ?_;intros)
   refine R.callX (hct:=bi) (h:= ?_)
   rintro _ _ ⟨bp,W6,rfl,rfl,bq,a8,gl,gm,ai⟩
   dsimp only[AA,AB]
   refine nx ?_
   have bg:=am.trans a8
   have be:WSt bw bx2 first nb 2 pf.count g2 (if r5.ro=true then g::W.α.gs else W.α.gs) W.live W6 r5.cy r5.cc:=by
    rcases ao with⟨a,b,ps,c⟩|⟨a,b,c⟩
    ·refine .inl ⟨?_,lvX.2 (by rw[ai,if_pos a]),ps,c.move a8.size (fun x _ _=>by rw[gl])⟩
     rw[gm];refine ds.trans ?_;unfold aIn;rw[a];cases r5.ro<;>simp[CQ]
    ·refine .inr ⟨?_,by rw[ai,if_neg (by rw[a];decide)],c⟩
     rw[gm];refine ds.trans ?_;unfold aIn;rw[a];cases r5.ro<;>simp
   have fh:aBv W.live W W6:=fun x hx=>by rw[gl];exact dt x hx
   have bf:∀(WA:Wk),WA.δ.size=W5.δ.size→WA.α.gs.Perm (if r5.ro=true then g::W.α.gs else W.α.gs)→RSt bw bx pf (aBc aa) g W.α.gs WA r5.cx r5.cb:=by
    intro WA hs b2
    rcases bc with⟨a,pos,b⟩|⟨a,b⟩
    ·rw[if_pos a] at b2;exact .inl ⟨b2,pos,b.move hs⟩
    ·rw[if_neg (by rw[a];decide)] at b2;exact .inr ⟨b2,b⟩
   have hD:=aEi bw bd ba bs W6 d6 d7 bp bq bx2 first nb 2 pf.count g2 (if r5.ro=true then g::W.α.gs else W.α.gs) (W.live) r5.cy r5.cc (be)
   repeat(refine sv ?_;intros)
   refine Go.SL.Lv.call (hc:=hD) (h:= ?_)
   rintro _ _ ⟨ab,aq,ac,WA,c8,c9,rfl,au,ae,ak,av,al⟩
   try dsimp only[AA,AB]
   have aw:=aBn bw bd ba bs WA ab aq ac au bx pf (aBc aa) g W.α.gs r5.cx r5.cb (bf WA (by rw[ae.size,a8.size]) av)
   refine Go.SL.Lv.call (hc:=aw) (h:= ?_)
   rintro _ _ ⟨ad,αB,da,rfl,ax,ay,az⟩
   try dsimp only[AA,AB]
   have a0:=(bg).trans (ae.trans ay)
   have a7:aBv W.live W {WA with α:=αB}:=fun x hx=>by show WA.δ.disk x=_;rw[ak];exact(fh) x hx
   (refine Go.SL.Lv.nil (Hr:=[[(bj,row [pv bw,.int .i64 0,.slice ph nh ag] 98)],aAi bw bd ba bs,ab,ad,ac]) Tryz.results126 (hR:= ?_);exact a9 {WA with α:=αB} ab ad ac ⟨0,0,0,0⟩ 6 _ ax az (a0.weak (AG _) oM) (by unfold bFm;omega) a7 (.inr ⟨rfl,rfl,aBj bh b8,al⟩))
 subst he
 have fg:=fg rfl
 obtain⟨cv,cw,gp,bc,ao,ap,an,b8,dw,dx,dy,ej,ek⟩:=id fg
 dsimp only at cv cw gp bc ao ap an b8 dw dx dy ej ek
 have el:W5.α.gs.Perm (g::g2::W.α.gs):=by simpa[aIn,cv,cw] using ds
 have cz:W5.δ.size=W.δ.size:=am.size
 have dt:aBv W.live W W5:=ci.trans (an.sub fun e he=>aPv he)
 have jm:=dg b1 el
 have i3:W5.α.room=W.α.room:=am.room
 have jn:=gh b1 am.n ap
 have gq:aAb W5.δ.size 1 (f.count-2^k)≤m:=by
  rw[cz]
  exact BB (aAm oM) gu
 have gr:=bMw bw bd ba bs W5 d6 d7 b7 b1 f (aUn vts k) LvF (by rw[cz];exact cu.keep fun x ⟨e,he,h2⟩=>an x ⟨e,bz e he,h2⟩) (fun e he=>ap.mem (bz e he)) ge (2^k) oM oM oM oM oM
 rw[ah f,bIr] at gr
 repeat(refine sv ?_;intros)
 refine R.callX (hct:=gr) (h:= ?_)
 rintro _ _ ⟨bk,bo,bp,W6,up,e,rfl,rfl,bq,a8,db,dq,dr⟩
 dsimp only[AA,AB]
 refine nx ?_
 rw[ah up]
 have bg:=am.trans a8
 have i4:=bg.acts.2
 have i5:W6.δ.size=W.δ.size:=bg.size
 have c5:W6.α.gs.Perm (g::g2::W.α.gs):=dq.trans el
 have c6:aBv W.live W W6:=dt.trans (db.sub fun e he=>ap.mem (aPv he))
 have bf:aGt bw bx W6 pf (aBc aa) g (min (r5.q+1) pf.count) r5.cx r5.cb:=bc.move a8.size
 have be:aHy bw bx2 W6 first nb 2 pf.count g2 (((aBc aa).take r5.q).map (aDk vts)) r5.cy r5.cc:=ao.move a8.size (fun x h1 h2=>by
  by_cases iu:nb=0
  ·omega
  ·refine db x ⟨(first,nb),(lvX.1 ap).mem_iff.2 ?_,h1,h2⟩
   unfold aCj;rw[if_neg iu];exact AH)
 have em:∀j x,j<r5.q→(aBc aa)[j]? =some x→ltP x (k+1) 0:=fun j x hj hx=>by
  have:=ej j x hj hx
  unfold ltP at this⊢;omega
 have en:∀j x,r5.q≤j→(aBc aa)[j]? =some x→¬ltP x (k+1) 0:=fun j x hj hx=>by
  have h1:=ek j x hj hx
  have h2:=ep x (A3 hx)
  unfold okP at h2
  unfold ltP at h1⊢
  by_cases iv:x.c0=(k:Int)
  ·exfalso
   rw[iv,AR] at h2
   omega
  ·omega
 rcases dr with⟨rfl,ai,c7,eo,aj⟩|⟨rfl,rfl,dc,ai⟩
 ·cases own with
  |false=>
   repeat(refine sv ?_;intros)
   refine Dn.round ⟨k+1,true,up,bk,bo,bp,W6,{r5 with i:=0}⟩ ⟨bq,⟨cv,cw,rfl,bf,be,lvX.2 (ai.trans ((aCw (lvX.1 ap)).trans (aEe _ _ _))),aBv.refl _ _,id,dw,dx,dy,em,en⟩,by exact c5,?_,c7,c6,bg.weak oD oD,fun h=>absurd h oD,oD,fun _=> ?_⟩ oD
   ·have h1:aAq W6.δ.disk W.δ.size [up.ext] up (aUn vts (k+1)):=by rw[←cz];exact aj
    by_cases dz:up.blocks=0
    ·exact⟨[],{h1 with live:=fun h=>absurd dz h},fun e he=>by cases he⟩
    ·refine⟨[up.ext],h1,fun e he=> ?_⟩
     simp only[AT] at he;subst he
     show up.ext∈aCj up W.live
     unfold aCj;rw[if_neg dz];exact AH
   ·dsimp only;rw[aj.blk,c7,eo];exact gq
  |true=>
   have du:W6.live.Perm (aCj f (aCj ⟨first,nb,0,0⟩ (aCj up W.live))):=by
    refine ai.trans ((aCw (lvX.1 ap)).trans ?_)
    refine(aCw (aEe _ _ _)).trans ((aEe _ _ _).trans (aCw (aEe _ _ _)))
   have bi:=aKv bw bd ba bs W6 bk bo bp bq f _ (aDv.add du)
   rw[ah f] at bi
   repeat(refine sv ?_;intros)
   refine R.callX (hct:=bi) (h:= ?_)
   rintro _ _ ⟨fi,W7,rfl,rfl,fj,cj,dd,fk,fm⟩
   dsimp only[AA,AB]
   refine nx ?_
   repeat(refine sv ?_;intros)
   refine Dn.round ⟨k+1,true,up,bk,bo,fi,W7,{r5 with i:=0}⟩ ⟨fj,⟨cv,cw,rfl,bf.move cj.size,be.move cj.size (fun x _ _=>by rw[dd]),lvX.2 (by rw[fm];exact .refl _),aBv.refl _ _,id,dw,dx,dy,em,en⟩,by rw[fk];exact c5,?_,c7,fun x hx=>by rw[dd];exact c6 x hx,(bg.trans cj).weak oD oD,fun h=>absurd h oD,oD,fun _=> ?_⟩ oD
   ·have h1:aAq W7.δ.disk W.δ.size [up.ext] up (aUn vts (k+1)):=by rw[dd,←cz];exact aj
    by_cases dz:up.blocks=0
    ·exact⟨[],{h1 with live:=fun h=>absurd dz h},fun e he=>by cases he⟩
    ·refine⟨[up.ext],h1,fun e he=> ?_⟩
     simp only[AT] at he;subst he
     show up.ext∈aCj up W.live
     unfold aCj;rw[if_neg dz];exact AH
   ·dsimp only;rw[aj.blk,c7,eo];exact gq
 ·cases own with
  |false=>
   have hD:=aEi bw bd ba bs W6 bk bo bp bq bx2 first nb 2 pf.count g2 (g::W.α.gs) (W.live) r5.cy r5.cc (.inl ⟨c5.trans (.swap _ _ _),lvX.2 (ai.trans (lvX.1 ap)),_,be⟩)
   repeat(refine sv ?_;intros)
   refine Go.SL.Lv.call (hc:=hD) (h:= ?_)
   rintro _ _ ⟨ab,aq,ac,WA,c8,c9,rfl,au,ae,ak,av,al⟩
   try dsimp only[AA,AB]
   have aw:=aBn bw bd ba bs WA ab aq ac au bx pf (aBc aa) g W.α.gs r5.cx r5.cb (.inl ⟨av,_,(bf.move ae.size)⟩)
   refine Go.SL.Lv.call (hc:=aw) (h:= ?_)
   rintro _ _ ⟨ad,αB,da,rfl,ax,ay,az⟩
   try dsimp only[AA,AB]
   have a0:=(bg).trans (ae.trans ay)
   have a7:aBv W.live W {WA with α:=αB}:=fun x hx=>by show WA.δ.disk x=_;rw[ak];exact(c6) x hx
   (refine Go.SL.Lv.nil (Hr:=[[(bj,row [pv bw,.int .i64 0,.slice ph nh ag] 98)],aAi bw bd ba bs,ab,ad,ac]) Tryz.results126 (hR:= ?_);exact a9 {WA with α:=αB} ab ad ac ⟨0,0,0,0⟩ 6 _ ax az (a0.weak (AG _) oM) (by unfold bFm;omega) a7 (.inr ⟨rfl,rfl,aBj am dc,al⟩))
  |true=>
   have du:W6.live.Perm (aCj f (aCj ⟨first,nb,0,0⟩ W.live)):=ai.trans ((lvX.1 ap).trans (aEe _ _ _))
   have bi:=aKv bw bd ba bs W6 bk bo bp bq f _ (aDv.add du)
   rw[ah f] at bi
   repeat(refine sv ?_;intros)
   refine R.callX (hct:=bi) (h:= ?_)
   rintro _ _ ⟨fi,W7,rfl,rfl,fj,cj,dd,fk,fm⟩
   dsimp only[AA,AB]
   refine nx ?_
   have fh:aBv W.live W W7:=fun x hx=>by rw[dd];exact c6 x hx
   have hD:=aEi bw bd ba bs W7 bk bo fi fj bx2 first nb 2 pf.count g2 (g::W.α.gs) (W.live) r5.cy r5.cc (.inl ⟨by rw[fk];exact c5.trans (.swap _ _ _),lvX.2 (by rw[fm]),_,be.move cj.size (fun x _ _=>by rw[dd])⟩)
   repeat(refine sv ?_;intros)
   refine Go.SL.Lv.call (hc:=hD) (h:= ?_)
   rintro _ _ ⟨ab,aq,ac,WA,c8,c9,rfl,au,ae,ak,av,al⟩
   try dsimp only[AA,AB]
   have aw:=aBn bw bd ba bs WA ab aq ac au bx pf (aBc aa) g W.α.gs r5.cx r5.cb (.inl ⟨av,_,(bf.move (cj.trans ae).size)⟩)
   refine Go.SL.Lv.call (hc:=aw) (h:= ?_)
   rintro _ _ ⟨ad,αB,da,rfl,ax,ay,az⟩
   try dsimp only[AA,AB]
   have a0:=((bg.trans cj)).trans (ae.trans ay)
   have a7:aBv W.live W {WA with α:=αB}:=fun x hx=>by show WA.δ.disk x=_;rw[ak];exact(fh) x hx
   (refine Go.SL.Lv.nil (Hr:=[[(bj,row [pv bw,.int .i64 0,.slice ph nh ag] 98)],aAi bw bd ba bs,ab,ad,ac]) Tryz.results126 (hR:= ?_);exact a9 {WA with α:=αB} ab ad ac ⟨0,0,0,0⟩ 6 _ ax az (a0.weak (AG _) oM) (by unfold bFm;omega) a7 (.inr ⟨rfl,rfl,aBj am dc,al⟩))
theorem bEo {p:Jp} {B m k a:Nat} (hR:Rm p B m k a) {er:Option Nat} {Gf:List (Fl×List T5)} (a3:Gf.length≤k) (ak:∀x∈Gf,x.1.blocks≤B) (pf vf:Fl) (vts ab:List T5) (au:(pf,aBc ab)∈Gf∨In0 p (pf,aBc ab)) (aq:(vf,vts)∈Gf∨In0 p (vf,vts)) (ax:vf.width=1) (aw:vf.count≤500) (av:pf.count≤500) (ay:∀x∈aBc ab,okP vts.length x)
  (c:Nat) (hc:c≤1000) (aj:pf.count≤2*c) (ap:vf.count≤2*c) (hk:c*(Gf.length+p.L0.length+3)+(Gf.length*B+aBg p.L0+2*c)≤p.n) (x y:Nat) (hx:x≤900000000) (b8 ad b4:Nat):
  aGm p ⟨0,er,Gf,x,y⟩ 125 [pv b8,pv ad,pv b4] (aHz p.bj b8 ad b4 pf vf) bFm 20000 none ((aBc ab).map (aDk vts)) fun f e Hx'=>Hx'=aHz p.bj b8 ad b4 pf vf∧FB pf.count c 2 pf.count e f:=by
 intro W cd ca cs held ph ae hW aa
 have az:=aa.lives rfl
 dsimp only at az
 have al:=aWw (B:=B) (l:=Gf.map (·.1.blocks)) (by intro y hy;obtain⟨x,hx,rfl⟩:=AU.1 hy;exact ak x hx)
 rw[AY] at al
 have a4:=aa.used hR.ok hW
 have a0:=aa.acts
 dsimp only at a0
 have ah:=hR.ok.size.1
 have ai:=aa.size
 have hF:=bMx p p.bw p.bd p.ba p.bs p.bj rfl W cd ca cs hW pf vf vts ab (aa.file (au.imp (fun h=>(aa.ok rfl).1.mem_iff.2 h) id)) (aa.file (aq.imp (fun h=>(aa.ok rfl).1.mem_iff.2 h) id)) ax aw av ay c
  (by rw[ai];exact nbS ah oM oM (.inr ⟨oM,aj⟩)) (by rw[ai];exact nbS ah oM oM (.inr ⟨oM,ap⟩)) hc (by
   rw[aa.n]
   have h1:c*(W.live.length+3)≤c*(Gf.length+p.L0.length+3):=B7 _ oM
   omega) oM oM ph held.length ae
 have ac:=eQ0
 have ag:=eQ2
 have a1:aAb W.δ.size 2 pf.count≤c:=by rw[ai];exact nbS ah oM oM (.inr ⟨oM,aj⟩)
 rw[ac pf,ac vf] at hF
 unfold aFg aHz at*
 rw[ag pf,ag vf]
 refine Ct.go Tryz.func125 Tryz.ntmps125 fun w0=> ?_
 repeat(refine st ?_;intros)
 refine R.callX (hct:=hF) (h:= ?_)
 rintro _ _ ⟨f,e,am,an,ao,W',rfl,rfl,a2,hS,h1,h2,h3⟩
 dsimp only[AA,AB]
 refine nx ?_
 rw[ac]
 repeat(refine st ?_;intros)
 (refine Dn.post (Hr:=[[(p.bj,row [pv p.bw,.int .i64 0,.slice ph held.length ae] 98)],aAi p.bw p.bd p.ba p.bs,am,an,ao,[(b8,row [pv p.bj] 84)],[(ad,row [.int .i64 (pf.first:Int),.int .i64 (pf.blocks:Int),.int .i64 (pf.width:Int),.int .i64 (pf.count:Int)] 42)],[(b4,row [.int .i64 (vf.first:Int),.int .i64 (vf.blocks:Int),.int .i64 (vf.width:Int),.int .i64 (vf.count:Int)] 42)]]) Tryz.results125 (hR:= ?_);exact⟨f,e,am,an,ao,W',_,rfl,rfl,a2,hS,rfl,h1,BB h2 a1,h3⟩)
abbrev aHu:Nat:=6180000
theorem bMy (bw bd ba bs:Nat) (W:Wk) (cd ca cs:aAc) (h:Wc bd ba bs W cd ca cs) (vf qf:Fl) (vts ab:List T5) (hv:aBm W (vf,vts)) (hq:aBm W (qf,ab)) (bk:vf.width=1) (bg:qf.width=3)
  (c m:Nat) (bh:qf.count≤c) (ci:vf.count≤2*c) (hc:c≤250) (hT:aFb c≤m) (bi:3*c≤m) (an:m*(W.live.length+3)+(2*c+aBg W.live)≤W.σ.n) (cj:W.δ.acts≤400000000):
  Ct AC 62 [pv bw,flv vf,flv qf] [aAi bw bd ba bs,cd,ca,cs] (bOt bw bd ba bs W cd cs aHu aHu (bEn vts.length ab) (aCz vts ab) 2):=by
 have aa:=eQ0
 have ae:=eQ2
 have hz:=eQ1
 have ax:tv o1= .agg #[.int .i64 1,.int .i64 0,.int .i64 0,.int .i64 0,.int .i64 0]:=rfl
 have ao:tv o12= .agg #[.int .i64 1,.int .i64 2,.int .i64 0,.int .i64 0,.int .i64 0]:=rfl
 have hB:=fun b=>bBx bw bd ba bs W cd ca cs h [(vf,vts),(qf,ab)] (by simp only[AM,B6,or_false];rintro x (rfl|rfl);exact hv;exact hq) oA15 (some ⟨b,0,none⟩) 2 _ (vec2 b vf qf)
 simp only[ae,AA,AB] at hB
 rw[aa,aa]
 refine Ct.go Tryz.func62 Tryz.ntmps62 fun w0=> ?_
 repeat(refine st ?_;intros)
 refine R.call (hct:=hB _) (h:= ?_)
 rintro _ _ ⟨ah,α1,ay,az,a0,⟨ac,bj,rfl,rfl⟩|⟨ai,rfl,rfl⟩⟩
 rotate_left
 ·dsimp only[AA,AB]
  repeat(refine st ?_;intros)
  (refine Dn.post (Hr:=[aAi bw bd ba bs,cd,ah,cs]) Tryz.results62 (hR:= ?_);exact .inr ⟨ai,rfl,ah,α1,rfl,ay,az,a0⟩)
 dsimp only[AA,AB]
 obtain⟨hp,hJ⟩:=aWt (bj:=bj) h ay az a0 ac
 have a3:In0 (aLs bw bd ba bs bj W) (vf,vts):=aHc hv
 have a4:In0 (aLs bw bd ba bs bj W) (qf,ab):=aHc hq
 have ag:(aLs bw bd ba bs bj W).bj=bj:=rfl
 have a5:(aLs bw bd ba bs bj W).L0=W.live:=rfl
 have a6:(aLs bw bd ba bs bj W).n=W.σ.n:=rfl
 obtain⟨ap,aq,bo,_,_⟩:=aFn a3
 obtain⟨bp,au,bq,_,_⟩:=aFn a4
 dsimp only at ap aq bo bp au bq
 have hR:Rm (aLs bw bd ba bs bj W) c m 2 W.δ.acts:=⟨hp,oM,oM,by
  rw[a5,a6]
  have e:2+W.live.length+1=W.live.length+3:=oM
  rw[e];exact an,oM,oM⟩
 have bu:aGh (aLs bw bd ba bs bj W) c 2 W.δ.acts 0 0 none [] _:=⟨hJ.weak rfl rfl rfl (AG _) (AG _),AS _,by simp⟩
 have hH:=bJb hR bu qf ab a4 bg oM vf.count oM c bh (AG _) hT oA15 oM
 rw[aa,ag] at hH
 have hH:=Ct.convP (H:=[aFg bj bw 0 none 0 0,aAi bw bd ba bs,cd,ah,cs]) hH (aWv (p:=aLs bw bd ba bs bj W) (e:=0) (cd:=cd) (ca:=ah) (cs:=cs)) (fun v H' hh=>⟨H',hh,.refl _⟩)
 repeat(refine st ?_;intros)
 refine R.callX (hct:=hH) (h:= ?_)
 rintro _ _ ⟨f1,C1,e1,rfl,rfl,aj,av,cm⟩
 dsimp only[AA,AB]
 refine nx ?_
 try rw[aa]
 have a7:e1=0→bMs vf.count ab:=fun h0=>by
  have h1:=aj.er0 h0
  unfold bEn at h1
  split at h1
  ·assumption
  ·cases h1
 have b9:=av.cnt
 have cg:=av.blk
 have a8:=fun b8 aw b4=>SRun hR aj 125 inferInstance [pv b8,pv aw,pv b4] (aHz bj b8 aw b4 f1 vf) bFm 20000 200 none ((aBc ab).map (aDk vts)) oA14 oA14 (b:=2*qf.count) (c:=c) (w:=2) (n:=2*qf.count) (fun he x y hx=>by
   subst he
   have bv:=a7 rfl
   have bz:=(av.ok rfl).2
   refine(bEo hR aj.len aj.blk f1 vf vts ab (.inl AH) (.inr a3) bk oM oM (fun x hx=>by
    obtain⟨q,hm,hh⟩:=aJh.1 hx
    rw[ap]
    exact bMt (bv.1 q hm) x hh) c oM oM oM (by
     rw[a5,a6]
     have e1:c*([(f1,aBc ab)].length+W.live.length+3)=c*W.live.length+4*c:=by simp only[AL,AV];rw[Nat.mul_add,Nat.mul_add];omega
     have e2:3*c*(W.live.length+3)≤m*(W.live.length+3):=A7 _ bi
     have e3:3*c*(W.live.length+3)=3*(c*W.live.length)+9*c:=by rw[Nat.mul_add,Nat.mul_assoc];omega
     rw[e1]
     simp only[AL,AV]
     omega) x y oM b8 aw b4).mono ?_
   rintro f e cu ⟨a1,a2⟩
   rw[bz] at a2
   exact⟨a1,a2⟩) (AG _) oA15
 simp only[aHz,ae,ag,aNy] at a8
 repeat(refine st ?_;intros)
 repeat(refine st ?_;intros)
 refine R.callX (hct:=a8 _ _ _) (h:= ?_)
 rintro _ _ ⟨f2,C2,e2,rfl,rfl,b1,b2,cv⟩
 dsimp only[AA,AB]
 refine nx ?_
 try rw[aa]
 have a9:=aLe hR b1 f2 _ _ o12 rfl false b2 .here oM (AG _) hT oM
 rw[aa,ag,ao] at a9
 repeat(refine st ?_;intros)
 refine R.callX (hct:=a9) (h:= ?_)
 rintro _ _ ⟨f3,C3,e3,rfl,rfl,b3,b5,cw⟩
 dsimp only[AA,AB]
 refine nx ?_
 try rw[aa]
 have bc:=aLe hR b3 f3 _ _ o1 rfl true b5 .here oM (AG _) hT oM
 rw[aa,ag,ax,show srt (ltO o1) true (srt (ltO o12) false ((aBc ab).map (aDk vts)))=aCz vts ab from rfl] at bc
 repeat(refine st ?_;intros)
 refine R.callX (hct:=bc) (h:= ?_)
 rintro _ _ ⟨f4,C4,e4,rfl,rfl,b6,b7,cz⟩
 dsimp only[AA,AB]
 refine nx ?_
 try rw[aa]
 have be:=fun b=>bIl hR b6 f4 b
 simp only[ae,ag] at be
 repeat(refine st ?_;intros)
 refine R.call (hct:=be _) (h:= ?_)
 rintro _ _ ⟨ak,al,am,W5,rfl,rfl,bf,hD⟩
 try dsimp only[AA,AB]
 have ad:=aNc (A:=aHu) (T:=aHu) hD rfl (by dsimp only;unfold aHu;omega) (by dsimp only;unfold aHu;omega)
 dsimp only at ad
 rw[←ap] at ad
 by_cases he:e4=0
 ·subst he
  rw[if_pos rfl] at ad
  repeat(refine st ?_;intros)
  (refine Dn.post (Hr:=[aAi bw bd ba bs,ak,al,am]) Tryz.results62 (hR:= ?_);exact .inl ⟨ac,f4,0,ak,al,am,W5,rfl,rfl,bf,ad,fun _=>(b7.ok rfl).1⟩)
 ·rw[if_neg he] at ad
  repeat(refine st ?_;intros)
  (refine Dn.post (Hr:=[aAi bw bd ba bs,ak,al,am]) Tryz.results62 (hR:= ?_);exact .inl ⟨ac,⟨0,0,0,0⟩,e4,ak,al,am,W5,rfl,rfl,bf,ad,fun h=>absurd h he⟩)
theorem bJf {vts aa:List T5} (h:∀t∈vts,aAv t.c0) (hq:∀t∈aa,aAv t.c0):∀t∈aCz vts aa,okT 2 t:=by
 intro t ht
 unfold aCz at ht
 obtain⟨q,hm,rfl|rfl⟩:=aEr.1 (aDf (aDf ht))
 ·exact bEh (hq q hm) (aHf h _ _)
 ·exact bEh (hq q hm) (aHf h _ _)
theorem bCi:∀{a b:List Int},a.Nodup→(∀x∈a,x∈b)→a.length≤b.length
 |[],_,_,_=>AS _
 |x::a,b,hn,h=>by
  rw[List.nodup_cons] at hn
  have h1:x∈b:=h x AH
  have h2:=bCi (a:=a) (b:=b.erase x) hn.2 fun y hy=>by
   have aa:y≠x:=fun hq=>hn.1 (hq▸hy)
   exact(List.mem_erase_of_ne aa).2 (h y (AI _ hy))
  have h3:=List.length_erase_of_mem h1
  have h4:=List.length_pos_of_mem h1
  rw[AL];omega
theorem aRz (vts aa:List T5):(aCz vts aa).length≤aa.length:=by
 have h1:((aCz vts aa).map (·.c0)).Nodup:=by
  have:=aPs vts aa
  rw[List.Nodup,BC]
  exact this.imp fun h=>by omega
 have h2:=bCi (b:=aa.map (·.c0)) h1 fun x hx=>by
  obtain⟨t,ht,rfl⟩:=AU.1 hx
  unfold aCz at ht
  obtain⟨q,hq,h|h⟩:=aEr.1 (aDf (aDf ht))
  ·rw[h];exact AU.2 ⟨q,hq,rfl⟩
  ·rw[h];exact AU.2 ⟨q,hq,rfl⟩
 simpa using h2
def aHg (la qs:List T5):List T5:=(aPu la qs).flatMap aUp
def aFi (la qs:List T5):List T5:=(aPu la qs).flatMap aUq
def aPw (tr pl so:List T5):List T5:=aDo 1 2 pl (aDo 2 2 tr (aDo 1 1 pl (aDo 2 1 tr so)))
def aZr (p:List T5):List T5:=p.map fun t=>⟨t.c0,min t.c1 t.c2,max t.c1 t.c2,0,0⟩
def aLh (tr:List T5):List T5:=srt (ltO o1) false (tr.map fun t=>⟨t.c2,t.c0,0,0,0⟩)
def aMl (la to tr qs:List T5):List T5:=aZr (aPw tr (aCc (aBe la to tr)) (aFi la qs))
def aBw (la to tr qs:List T5):List T5:=srt (ltO o1) false (aDo 1 1 (aLh tr) (aCz (aBe la to tr) (aMl la to tr qs))++aHg la qs)
def aZs (la to tr qs:List T5) (n:Nat):Option Nat:=(bMu n qs).or (bEn (aBe la to tr).length (aMl la to tr qs))
abbrev aXc:Nat:=7200000
theorem bCj (t:T5):(aUp t).length≤1:=by unfold aUp;split<;>simp
theorem bCk (t:T5):(aUq t).length≤1:=by unfold aUq;split<;>simp
theorem aSa (la qs:List T5):(aHg la qs).length≤qs.length:=by
 have:=bIm (f:=aUp) (n:=1) (aPu la qs) fun t _=>bCj t
 rw[aTo] at this
 unfold aHg;omega
theorem aXd (la qs:List T5):(aFi la qs).length≤qs.length:=by
 have:=bIm (f:=aUq) (n:=1) (aPu la qs) fun t _=>bCk t
 rw[aTo] at this
 unfold aFi;omega
theorem aXe (tr pl so:List T5):(aPw tr pl so).length=so.length:=by unfold aPw;rw[aCr,aCr,aCr,aCr]
theorem bJg {la qs:List T5} (h1:∀t∈la,okT 2 t) (h2:∀t∈qs,okT 3 t):∀t∈aHg la qs,okT 2 t:=by
 intro t ht
 unfold aHg at ht
 obtain⟨u,hu,ht⟩:=B9.1 ht
 have ti:=aBb (aZo h1 h2 u hu)
 unfold aUp at ht
 split at ht
 ·cases ht
 ·rw[AT] at ht;subst ht
  exact bEh ti.1 aHd
theorem bMz {la qs:List T5} (h1:∀t∈la,okT 2 t) (h2:∀t∈qs,okT 3 t):∀t∈aFi la qs,okT 3 t:=by
 intro t ht
 unfold aFi at ht
 obtain⟨u,hu,ht⟩:=B9.1 ht
 have ti:=aBb (aZo h1 h2 u hu)
 unfold aUq at ht
 split at ht
 ·rw[AT] at ht;subst ht
  exact aUm ti.1 ti.2.1 ti.2.2.1
 ·cases ht
theorem bEp {vs:List T5} (h:∀t∈vs,okT 1 t) (hl:vs.length≤1000000):∀t∈aCc vs,okT 2 t:=by
 have:∀(vs:List T5) (i:Nat),i+vs.length≤1000000→(∀t∈vs,okT 1 t)→∀z∈atF i vs,okT 2 z:=by
  intro vs
  induction vs with
  |nil=>intro i _ _ z hz;cases hz
  |cons t vs ih=>
   intro i hi ht z hz
   rw[AL] at hi
   rcases AM.1 hz with rfl|hz
   ·exact bEh (aBb (ht t AH)).1 ⟨oM,oM⟩
   ·exact ih (i+1) oM (fun u hu=>ht u (AI _ hu)) z hz
 intro t ht
 unfold aCc at ht
 exact this vs 0 oM h t (aDf (aDf ht))
theorem bNa {tr pl so:List T5} (h1:∀t∈tr,okT 5 t) (h2:∀t∈pl,okT 2 t) (h3:∀t∈so,okT 3 t):∀t∈aPw tr pl so,okT 3 t:=
 aJj h2 (aJj h1 (aJj h2 (aJj h1 h3 2 1 oM oM) 1 1 oM oM) 2 2 oM oM) 1 2 oM oM
theorem in_min {a b:Int} (ha:aAv a) (hb:aAv b):aAv (min a b):=by unfold aAv at*;omega
theorem in_max {a b:Int} (ha:aAv a) (hb:aAv b):aAv (max a b):=by unfold aAv at*;omega
theorem bNb {p:List T5} (h:∀t∈p,okT 3 t):∀t∈aZr p,okT 3 t:=by
 intro t ht
 unfold aZr at ht
 obtain⟨u,hu,rfl⟩:=AU.1 ht
 have ti:=aBb (h u hu)
 exact aUm ti.1 (in_min ti.2.1 ti.2.2.1) (in_max ti.2.1 ti.2.2.1)
theorem aSb {tr:List T5} (h:tr.Pairwise fun a c=>a.c2≠c.c2):(aLh tr).Pairwise fun a c=>a.c0<c.c0:=by
 have h1:((tr.map fun t=>(⟨t.c2,t.c0,0,0,0⟩:T5))).Pairwise fun a c=>a.c0≠c.c0:=by rw[BC];exact h
 have h2:(aLh tr).Pairwise fun a c=>a.c0≠c.c0:=(aBa (lt:=ltO o1) _).symm.pairwise h1 fun h=>h.symm
 exact((bOv _).and h2).imp fun h=>by omega
theorem bNc {tr:List T5} (h:∀t∈tr,okT 5 t):∀t∈aLh tr,okT 2 t:=by
 intro t ht
 unfold aLh at ht
 obtain⟨u,hu,rfl⟩:=AU.1 (aDf ht)
 have ti:=aBb (h u hu)
 exact bEh ti.2.2.1 ti.1
theorem aZt {p:Jp} {B m k a:Nat} (hR:Rm p B m k a) {er:Option Nat} {Gf:List (Fl×List T5)} (ah:Gf.length≤k) (ai:∀x∈Gf,x.1.blocks≤B) (vf qf:Fl) (vts aa:List T5) (hv:(vf,vts)∈Gf) (hq:(qf,aa)∈Gf) (ay:vf.width=1) (av:qf.width=3)
  (c m2:Nat) (aw:qf.count≤c) (az:vf.count≤2*c) (hc:c≤250) (hT:aFb c≤m2) (ax:3*c≤m2) (a0:m2*(k+p.L0.length+3)+(2*c+(k*B+aBg p.L0))≤p.n) (x y:Nat) (hx:x≤390000000) (b8 b4 b5:Nat):
  aGm p ⟨0,er,Gf,x,y⟩ 61 [pv b8,pv b4,pv b5] (aHz p.bj b8 b4 b5 vf qf) aHu aHu (bEn vts.length aa) (aCz vts aa) fun g e Hx'=>Hx'=aHz p.bj b8 b4 b5 vf qf∧(e=0→g.width=2∧g.count=(aCz vts aa).length)∧g.count≤(aCz vts aa).length∧g.blocks≤(g.count+1)/2:=by
 intro W cd ca cs held ph aj hW ac
 obtain⟨Lv,a1,ak⟩:=ac.file (.inl ((ac.ok rfl).1.mem_iff.2 hv))
 obtain⟨Lq,a2,al⟩:=ac.file (.inl ((ac.ok rfl).1.mem_iff.2 hq))
 have a3:=ac.lives rfl
 dsimp only at a3
 have am:=aWw (B:=B) (l:=Gf.map (·.1.blocks)) (by intro y hy;obtain⟨x,hx,rfl⟩:=AU.1 hy;exact ai x hx)
 rw[AY] at am
 have a4:=ac.used hR.ok hW
 have a5:=ac.acts
 dsimp only at a5
 have a9:Gf.length*B≤k*B:=A7 _ ah
 have bc:m2*(W.live.length+3)≤m2*(k+p.L0.length+3):=B7 _ oM
 have a6:=ac.n
 have an:=bMy p.bw p.bd p.ba p.bs W cd ca cs hW vf qf vts aa ⟨Lv,a1,ak⟩ ⟨Lq,a2,al⟩ ay av c m2 aw az hc hT ax (by rw[a6];omega) oM
 have ad:=eQ0
 have ae:=eQ2
 rw[ad,ad] at an
 unfold aFg aHz
 rw[ae,ae]
 refine Ct.go Tryz.func61 Tryz.ntmps61 fun w0=> ?_
 repeat(refine sv ?_;intros)
 refine R.callX (hct:=an) (h:= ?_)
 rintro _ _ (⟨_,g,e,ao,ap,aq,W3,rfl,rfl,a7,ab,au⟩|⟨be,_⟩)
 rotate_left
 ·exact absurd a4 oM
 dsimp only[AA,AB]
 rw[ad]
 refine nx ?_
 repeat(refine sv ?_;intros)
 have hg:(e=0→g.width=2∧g.count=(aCz vts aa).length)∧g.count≤(aCz vts aa).length∧g.blocks≤(g.count+1)/2:=by
  rcases ab.res with⟨he,_,_,ag⟩|⟨he,rfl,_⟩
  ·have h1:=ag.len
   have h2:=ag.blk
   have h5:aAb W.δ.size g.width g.count≤(g.count+1)/2:=by rw[au he];exact nbS hW.dev.num.1.1 oM oM (.inr ⟨oM,oM⟩)
   exact⟨fun h=>⟨au h,h1.symm⟩,oM,oM⟩
  ·exact⟨fun h=>absurd h he,AS _,AS _⟩
 have a8:aEh p W W3 aHu aHu (bEn vts.length aa) (aCz vts aa) g e:=⟨ab.gs,ab.room,ab.size,ab.n,ab.acts,ab.big,ab.fault,ab.keep,ab.res⟩
 (refine Dn.post (Hr:=[[(p.bj,row [pv p.bw,.int .i64 0,.slice ph held.length aj] 98)],aAi p.bw p.bd p.ba p.bs,ao,ap,aq,[(b8,row [pv p.bj] 84)],[(b4,row [.int .i64 (vf.first:Int),.int .i64 (vf.blocks:Int),.int .i64 (vf.width:Int),.int .i64 (vf.count:Int)] 42)],[(b5,row [.int .i64 (qf.first:Int),.int .i64 (qf.blocks:Int),.int .i64 (qf.width:Int),.int .i64 (qf.count:Int)] 42)]]) Tryz.results61 (hR:= ?_);exact⟨g,e,ao,ap,aq,W3,_,rfl,rfl,a7,a8,rfl,hg⟩)
end Go.Proofs.YtaofijjjheiknaaGreat
