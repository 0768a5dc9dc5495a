/-
  Parts of the proof, put together (2). No condition.
-/
import Derived.LaidEql
import Derived.Laws.Cover3
import Derived.Laws.OwnMore
import Derived.MapKept
import Derived.Laws.Externs
import Derived.Test.YtaofijjjheiknaaGreatQ1
set_option linter.unusedVariables false
set_option linter.unusedSimpArgs false
set_option linter.unnecessarySimpa false
set_option maxHeartbeats 4000000
namespace Go.SL
open Go.RowKit
class ElemT (P:Program) (E:TypeId) (sz bytes:outParam Nat) (zs:outParam (List Value)):Prop where
 info:(P.info? E).map (fun i=>(i.size,i.bytes,i.zero.map fun z=>z.cells.toList))=some (sz,bytes,some zs)
theorem ElemT.get {P:Program} {E sz bytes:Nat} {zs:List Value} (h:ElemT P E sz bytes zs):∃i z,P.info? E=some i∧i.size=sz∧i.bytes=bytes∧i.zero=some z∧z.cells=zs.toArray:=by
 have:=h.info;cases hi:P.info? E with
 |none=>simp[hi] at this
 |some i=>
  simp only[hi,Option.map_some,Option.some.injEq,Prod.mk.injEq] at this;obtain⟨h1,h2,h3⟩:=this;cases hz:i.zero with
  |none=>simp[hz] at h3
  |some z=>
   simp only[hz,Option.map_some,Option.some.injEq] at h3;exact⟨i,z,rfl,h1,h2,hz,by rw[←h3]⟩
theorem Ae.st {w0 w:World} {S:List Nat} {c:Aa} {H H1:Hp} (h:Ae c H H1) (hw:St w0 S w H):St w0 S w (c::H1):=by unfold Ae at h;exact hw.perm oA15
theorem nmem {i:Nat} {l:List Nat} (h:l.contains i=false):¬i∈l:=by simpa using h
theorem Ae.nil {H:Hp}:Ae [] H H:=by unfold Ae;simp
section ops
variable {P:Program} {ops:Array Oper} {Q:Exit→Act→World→Prop} {cls:Nat→Oper→Cls} {w0:World} {S:List Nat} {n:Nat}
variable {k:Nat} {l:List (Nat×Oper)} {L:Bb} {D:List Deferred} {H:Hp} {qs:List Rd}
variable {d:Nat} {ty:TypeId} {pos:String} {af:Array Edge} {g:Option (Nat×Bool)}
theorem R.makeFunc {fn:Fn} {as bs:List Operand} {vs us:List Value} (hx:evs L as=some vs:=by exact rfl) (hy:evs L bs=some us:=by exact rfl) (hc:cls k ⟨some d,.makeFunc fn as.toArray bs.toArray,ty,pos,af,g⟩= .pure:=by exact rfl) (hn:d<n:=by exact nle rfl) (h:R P ops Q cls w0 S n l ((d,.func fn vs.toArray us.toArray)::L) D H qs):R1 P ops Q cls w0 S n k ⟨some d,.makeFunc fn as.toArray bs.toArray,ty,pos,af,g⟩ l L D H qs:=
 R1.pureStep hc rfl hn (fun a hf w=>by
  have h1:=hf.evals hx;have h2:=hf.evals hy;simp[execOp,Instr.makeFunc,h1,h2]) h
section calls
variable {f:FuncId} {x:Operand} {as:List Operand} {aT:Array TypeId} {fs vs us:List Value} {Hf F:Hp} {Rf:Value→Hp→Prop}
theorem dK [hf:Callable P f] {a:Act} (ab:Fr n a L) (hx:ev L x=some (.func (.func f) fs.toArray us.toArray)) (aa:evs L as=some vs) {dst:Option Tmp} (w:World):(execOp a.eval ⟨dst,.call ⟨.value x,as.toArray,aT⟩,ty,pos,af,g⟩).run P w= .ok (.enter f (fs++vs++us).toArray) w:=by
 have h1:=ab.evals aa;have h2:=ab.eval hx;simp[execOp,resolve,Deferred.ofValue,h2,invoke,hf.run,h1]
theorem R.callV (hx:ev L x=some (.func (.func f) fs.toArray us.toArray):=by exact rfl) (hf:Callable P f:=by exact inferInstance) (aa:evs L as=some vs:=by exact rfl) (hct:Ct P f (fs++vs++us) Hf Rf) (hs:Bt H Hf F:=by exact zS) (hc:cls k ⟨some d,.call ⟨.value x,as.toArray,aT⟩,ty,pos,af,g⟩= .eff []:=by exact rfl) (hn:d<n:=by exact nle rfl) (h:∀v H',Rf v H'→R P ops Q cls w0 S n l ((d,v)::L) D (H'++F) qs):R1 P ops Q cls w0 S n k ⟨some d,.call ⟨.value x,as.toArray,aT⟩,ty,pos,af,g⟩ l L D H qs:=by
 refine R1.effStep hc hn fun a w w0 S ac ad=>?_;unfold Bt at hs;have ab:St w0 S w (Hf++F):=ad.perm hs;simp only[Ch,dK ac hx aa];exact(hct.frame ab).mono fun e w' ⟨v,H',h1,h2,h3⟩=>⟨v,h1,H'++F,h3,(by intro _ _ h;cases h),h v H' h2⟩
theorem cV (hct:Ct P f (fs++vs++us) Hf Rf) (h:∀v H',Rf v H'→R P ops Q cls w0 S n l ((d,v)::L) D (H'++F) qs) (hx:ev L x=some (.func (.func f) fs.toArray us.toArray):=by exact rfl) (hf:Callable P f:=by exact inferInstance) (aa:evs L as=some vs:=by exact rfl) (hs:Bt H Hf F:=by exact zS) (hc:cls k ⟨some d,.call ⟨.value x,as.toArray,aT⟩,ty,pos,af,g⟩= .eff []:=by exact rfl) (hn:d<n:=by exact nle rfl):R1 P ops Q cls w0 S n k ⟨some d,.call ⟨.value x,as.toArray,aT⟩,ty,pos,af,g⟩ l L D H qs:=R.callV (hx:=hx) (hf:=hf) (aa:=aa) (hct:=hct) (hs:=hs) (hc:=hc) (hn:=hn) (h:=h)
theorem R.callVP {v:Value} (hx:ev L x=some (.func (.func f) fs.toArray us.toArray):=by exact rfl) (hf:Callable P f:=by exact inferInstance) (aa:evs L as=some vs:=by exact rfl) (hct:CtQ P f (fs++vs++us) Hf v) (hs:Bt H Hf F:=by exact zS) (hc:cls k ⟨some d,.call ⟨.value x,as.toArray,aT⟩,ty,pos,af,g⟩= .eff []:=by exact rfl) (hn:d<n:=by exact nle rfl) (h:R P ops Q cls w0 S n l ((d,v)::L) D H qs):R1 P ops Q cls w0 S n k ⟨some d,.call ⟨.value x,as.toArray,aT⟩,ty,pos,af,g⟩ l L D H qs:=by
 refine R1.effStep hc hn fun a w w0 S ac ad=>?_;unfold Bt at hs;have ab:St w0 S w (Hf++F):=ad.perm hs;simp only[Ch,dK ac hx aa];exact(hct.frame ab).mono fun e w' ⟨v',H',h1,⟨h2,h3⟩,h4⟩=>⟨v',h1,H,(by subst h3;exact h4.perm hs.symm),(by intro _ _ h;cases h),(by subst h2;exact h)⟩
end calls
def Bn:Nat→List Value→List Value
 |0,_=>[]
 |m+1,zs=>zs++Bn m zs
theorem Mh (m:Nat) (zs:List Value):(Bn m zs).length=m*zs.length:=by
 induction m with
 |zero=>simp[Bn]
 |succ m ih=>simp[Bn,ih,Nat.succ_mul,Nat.add_comm]
theorem dL (zs:List Value) (hz:0<zs.length):∀(m i:Nat),i<m*zs.length→(Bn m zs)[i]? =zs[i%zs.length]?
 |0,i,h=>by omega
 |m+1,i,h=>by
  rw[Bn,List.getElem?_append];split
  ·rename_i h1;rw[Nat.mod_eq_of_lt h1]
  ·rename_i h1;rw[Nat.succ_mul] at h;rw[dL zs hz m _ oM];have:i%zs.length=(i-zs.length)%zs.length:=by rw[Nat.mod_eq_sub_mod oM]
   rw[this]
theorem Ut (m:Nat) (zs:List Value) (hz:0<zs.length):(Array.range (m*zs.length)).map (zs.toArray[·%zs.toArray.size]!)=(Bn m zs).toArray:=by
 apply Array.ext
 ·simp[Mh]
 ·intro i h1 h2;simp only[Array.size_map,Array.size_range] at h1;have h3:i%zs.length<zs.length:=Nat.mod_lt _ hz;have:=dL zs hz m i h1;rw[List.getElem?_eq_getElem (by simpa[Mh] using h1),List.getElem?_eq_getElem h3] at this;simp only[Option.some.injEq] at this;simp only[Array.getElem_map,Array.getElem_range,List.getElem_toArray,this,List.size_toArray];rw[getElem!_pos _ _ (by simpa using h3)];simp
theorem R.buildSlice {T E sz bytes:Nat} {zs:List Value} [ht:SliceT P T E sz] [he:ElemT P E sz bytes zs] {m:Nat} {ps:List (Nat×Operand)} {vs:List (Nat×Value)} {cs cs':List Value} (hx:Pu L ps=some vs:=by exact rfl) (hf:Ta (fun i=>some (i*sz,sz)) (Bn m zs) vs=some cs:=by exact rfl) (heq:cs=cs':=by((first|(dsimp only[Bn,Bq,Value.cells,List.set,List.append_nil,Nat.zero_mul,Nat.reduceAdd,List.nil_append,List.cons_append];try exact rfl)|exact rfl))) (hm:m*sz≤16777216:=by exact nle rfl) (hz:zs.length=sz:=by exact rfl) (ab:0<m*sz:=by exact nle rfl) (hc:cls k ⟨some d,.buildSlice T m ps.toArray,ty,pos,af,g⟩= .grow:=by exact rfl) (hn:d<n:=by exact nle rfl) (h:∀b,R P ops Q cls w0 S n l ((d,.slice (some ⟨b,0,none⟩) m m)::L) D ([(b,row cs' E)]::H) qs):R1 P ops Q cls w0 S n k ⟨some d,.buildSlice T m ps.toArray,ty,pos,af,g⟩ l L D H qs:=
 R1.growStep (mk:=fun b=> .slice (some ⟨b,0,none⟩) m m) (ob:=row cs' E) hc rfl hn (fun a ad w=>by
  subst heq;obtain⟨i,z,h1,h2,h3,h4,h5⟩:=he.get;have hp:=ad.parts hx;have ae:(zeroValue E).run P w= .ok z w:=by simp[zeroValue,typeInfo,h1,h4]
  have ag:=ht.size w;have aa:¬(m*sz=0):=oM;have h6:(ps.toArray.map fun (i,x)=>(i,a.eval x))=vs.toArray:=by rw[←hp];simp
  have h7:(Array.range (m*sz)).map (z.cells[·%z.cells.size]!)=(Bn m zs).toArray:=by rw[h5,←hz];exact Ut m zs (by rw[hz];exact Nat.pos_of_mul_pos_left ab)
  have h8:Instr.fill (fun i=>some (i*sz,sz)) (Bn m zs).toArray vs=some cs.toArray:=by rw[Yb,hf];rfl
  have ac:¬(16777216<m*sz):=oM;simp[execOp,h6,Instr.buildSlice,run_underlying ht.und,ag,aa,ac,ae,h7,h8,newRow,row]) h
def Vec (e sz:Nat) (p:Option Addr) (m cap:Nat) (xs:List Value) (c:Aa):Prop:=
 xs.length=m*sz∧((p=none∧m=0∧cap=0∧c=[])∨
  ∃b rest,p=some ⟨b,0,none⟩∧c=[(b,row (xs++rest) e)]∧cap*sz≤xs.length+rest.length∧m≤cap∧cap≤maxLen)
theorem Vec.nil (e sz:Nat):Vec e sz none 0 0 [] []:=⟨by simp,.inl ⟨rfl,rfl,rfl,rfl⟩⟩
theorem dM (xs:List Value) (a:Array Value) (E:Nat):row (xs++a.toList) E= .cells (xs.toArray++a) E (0,0):=by unfold row;congr 1;apply Array.ext';simp
theorem St.allocDrew {w:World} (h:St w0 S w H) (o:Obj):St w0 S (w.drew.alloc o) ([(w.heap.size,o)]::H):=by have:=(h.drew (w.drawn+1)).alloc o;exact this
theorem St.setRow {w:World} {b:Nat} {cs cs':List Value} {e:Nat} (h:St w0 S w ([(b,row cs e)]::H)) (hl:cs'.length=cs.length):St w0 S (w.setRow b cs'.toArray) ([(b,row cs' e)]::H):=by
 have hb:w.heap[b]? =some (row cs e):=h.sat (b,row cs e) oA19;refine h.set (w':=w.setRow b cs'.toArray) (o':=row cs' e) ?_ ?_ ?_ rfl rfl rfl
 ·simp[World.setRow]
 ·exact setRow_heap w b cs.toArray cs'.toArray e (0,0) hb
 ·intro j hj;exact setRow_other w b j _ hj
theorem R.appendX {cr:List Nat} {T E sz bytes:Nat} {zs:List Value} [ht:SliceT P T E sz] [he:ElemT P E sz bytes zs] {x y:Operand} {p:Option Addr} {m cap:Nat} {xs:List Value} {c:Aa} {H1:Hp} {b q m' mc:Nat} {cs aa:List Value} {E':TypeId} {fz:Nat×Nat} (hx:ev L x=some (.slice p m cap):=by exact rfl) (hy:ev L y=some (.slice (some ⟨b,q,none⟩) m' mc):=by exact rfl) (hv:Vec E sz p m cap xs c:=by assumption) (av:Ae c H H1:=by((first|exact Ae.nil|(repeat(first|exact Ae.here|apply Ae.there))))) (hb:Has b (An cs E' fz) H:=by exact zA) (ah:(cs.drop q).take (m'*sz)=aa:=by((first|assumption|(dsimp only[List.drop,List.take];try exact rfl)|exact rfl))) (hl:aa.length=m'*sz:=by((first|exact rfl|assumption|(simp;done)))) (h1:aa.all Value.oneCell'=true:=by((first|exact rfl|assumption))) (hz:zs.length=sz:=by exact rfl) (al:0<m':=by((first|decide|omega))) (ae:m+m'≤maxLen:=by((simp only[maxLen];omega))) (ak:(m+m')*bytes≤140737488355328:=by omega) (hc:cls k ⟨some d,.call ⟨.builtin .append,#[x,y],#[T,T]⟩,ty,pos,af,g⟩= .eff cr:=by exact rfl) (hq:∀c',∀r∈qs,r.i∈cr→r.Pr (c'::H1):=by((intro _;(first|(intro _ _ h;cases h;done)|(repeat(first|exact qok_nil|(apply qok_cons;(·first|(intro hc;exact absurd hc (nmem rfl))|(intro _;apply Gv.mk;(·repeat(first|exact Has.here|apply Has.there));(first|exact rfl|assumption))|(intro _;apply Gw.mk;(·repeat(first|exact Has.here|apply Has.there));(first|exact rfl|assumption)))))))))) (hn:d<n:=by exact nle rfl) (h:∀p' cap' c',Vec E sz p' (m+m') cap' (xs++aa) c'→R P ops Q cls w0 S n l ((d,.slice p' (m+m') cap')::L) D (c'::H1) qs):R1 P ops Q cls w0 S n k ⟨some d,.call ⟨.builtin .append,#[x,y],#[T,T]⟩,ty,pos,af,g⟩ l L D H qs:=by
 refine R1.effStep hc hn fun a w u0 S0 am an=>?_;obtain⟨i,z,e1,e2,e3,e4,e5⟩:=he.get;have a4:z.cells.size=sz:=by rw[e5];simpa using hz
 have ab:=av.st an;have aw:=hb.st an;have ai:∀j u,aa[j]? =some u→w.cell? ((⟨b,q,none⟩:Addr).add j)=some u:=by
  intro j u hu;have:(⟨b,q,none⟩:Addr).add j=⟨b,q+j,none⟩:=by unfold Addr.add;split<;>simp_all
  rw[this,cell_of_row w b (q+j) cs.toArray E' fz aw];rw[←ah,List.getElem?_take] at hu;split at hu
  ·simpa[List.getElem?_drop] using hu
  ·cases hu
 have ao:∀v w',(Builtin.append_ #[T,T] ty #[.slice p m cap,.slice (some ⟨b,q,none⟩) m' mc]).run P w= .ok v w'→
   (execOp a.eval ⟨some d,.call ⟨.builtin .append,#[x,y],#[T,T]⟩,ty,pos,af,g⟩).run P w= .ok (.value v) w':=by
  intro v w' hr;simp[execOp,resolve,invoke,Go.builtin,am.eval hx,am.eval hy,hr]
 have key:∀p' cap' c' w',(Builtin.append_ #[T,T] ty #[.slice p m cap,.slice (some ⟨b,q,none⟩) m' mc]).run P w= .ok (.slice p' (m+m') cap') w'→
   Vec E sz p' (m+m') cap' (xs++aa) c'→St u0 S0 w' (c'::H1)→Ch P (execOp a.eval ⟨some d,.call ⟨.builtin .append,#[x,y],#[T,T]⟩,ty,pos,af,g⟩) w fun v w'=>∃H',St u0 S0 w' H'∧
    (∀r∈qs,r.i∈cr→r.Pr H')∧R P ops Q cls w0 S n l (Xy L v (some d)) D H' qs:=by
  intro p' cap' c' w' hr ax aq;simp only[Ch,ao _ _ hr];exact⟨_,aq,hq _,h p' cap' c' ax⟩
 have ad:(xs++aa).length=(m+m')*sz:=by rw[List.length_append,hv.1,hl,Nat.add_mul]
 have ay:m+m'≤9223372036854775807:=by simp only[maxLen] at ae;omega
 obtain⟨aj,hv⟩:=hv;subst e2 e3;rcases hv with⟨rfl,rfl,rfl,rfl⟩|⟨b',rest,rfl,rfl,az,a5,a0⟩
 ·have a1:xs=[]:=List.eq_nil_of_length_eq_zero (by simpa using aj);subst a1;simp only[Nat.zero_add] at ay ak;have hr:=run_append_nil (P:=P) w T ty E i z ht.und e1 e4 ⟨b,q,none⟩ m' mc aa hl ai al oM oM;rw[e5] at hr;refine key (some ⟨w.heap.size,0,none⟩) (grownCap w m' 0 E) [(w.heap.size,row (aa++(Builtin.zeroCells zs.toArray (grownCap w m' 0 E-m')).toList) E)] _ (by rw[Nat.zero_add];exact hr) ?_ ?_
  ·refine⟨ad,.inr ⟨w.heap.size,(Builtin.zeroCells zs.toArray (grownCap w m' 0 E-m')).toList,rfl,by simp,?_,?_,grownCap_le_maxLen w m' 0 E (by simpa using ae)⟩⟩
   ·have:=grownCap_ge w m' 0 E;have h9:aa.length+(Builtin.zeroCells zs.toArray (grownCap w m' 0 E-m')).toList.length=m'*i.size+(grownCap w m' 0 E-m')*i.size:=by simp only[Array.length_toList,size_zeroCells,List.size_toArray,hl,hz]
    simp only[List.nil_append];rw[h9,←Nat.add_mul];refine Nat.le_of_eq ?_;congr 1;omega
   ·rw[Nat.zero_add];exact grownCap_ge w m' 0 E
  ·have au:St u0 S0 w H1:=ab.perm oA19;have:=au.allocDrew (row (aa++(Builtin.zeroCells zs.toArray (grownCap w m' 0 E-m')).toList) E);rw[dM] at this⊢;exact this
 ·by_cases ac:m+m'≤cap
  ·have hg:w.heap[b']? =some (.cells (xs++rest).toArray E (0,0)):=ab.sat (b',row (xs++rest) E) oA19;have ag:m*i.size+aa.length≤(xs++rest).toArray.size:=by rw[hl,←Nat.add_mul];simp only[List.size_toArray,List.length_append];exact Nat.le_trans (Nat.mul_le_mul_right _ ac) az
   have hr:=run_append_room (P:=P) w T ty E i ht.und e1 b' m cap (xs++rest).toArray hg ⟨b,q,none⟩ m' mc aa hl ai (by simpa using h1) ac ag;have e6:((xs++rest).toArray.toList.take (m*i.size)++aa++(xs++rest).toArray.toList.drop (m*i.size+aa.length))=(xs++aa)++rest.drop aa.length:=by rw[←aj];simp[List.drop_append]
   rw[e6] at hr;have a2:aa.length≤rest.length:=by simp only[List.size_toArray,List.length_append] at ag;omega
   refine key (some ⟨b',0,none⟩) cap [(b',row ((xs++aa)++rest.drop aa.length) E)] _ hr ?_ ?_
   ·refine⟨ad,.inr ⟨b',rest.drop aa.length,rfl,rfl,?_,ac,a0⟩⟩;simp only[List.length_append,List.length_drop];omega
   ·exact ab.setRow (by simp only[List.length_append,List.length_drop];omega)
  ·have hg:w.heap[b']? =some (.cells (xs++rest).toArray E (0,0)):=ab.sat (b',row (xs++rest) E) oA19;have a3:∀j u,xs[j]? =some u→w.cell? ((⟨b',0,none⟩:Addr).add j)=some u:=by
    intro j u hu;have:(⟨b',0,none⟩:Addr).add j=⟨b',j,none⟩:=by unfold Addr.add;split<;>simp_all
    rw[this,cell_of_row w b' j _ E (0,0) hg];have hj:j<xs.length:=by
     rcases Nat.lt_or_ge j xs.length with h|h
     ·exact h
     ·rw[List.getElem?_eq_none h] at hu;cases hu
    simpa[List.getElem?_append_left hj] using hu
   have hr:=run_append_grow (P:=P) w T ty E i z ht.und e1 e4 ⟨b',0,none⟩ m cap xs aj a3 ⟨b,q,none⟩ m' mc aa hl ai oM oM (growslice_fits oM ak);rw[e5] at hr;refine key (some ⟨w.heap.size,0,none⟩) (grownCap w (m+m') cap E) [(w.heap.size,row ((xs++aa)++(Builtin.zeroCells zs.toArray (grownCap w (m+m') cap E-(m+m'))).toList) E)] _ hr ?_ ?_
   ·refine⟨ad,.inr ⟨w.heap.size,_,rfl,rfl,?_,grownCap_ge w (m+m') cap E,grownCap_le_maxLen w (m+m') cap E ae⟩⟩;have:=grownCap_ge w (m+m') cap E;simp only[ad,Array.length_toList,size_zeroCells,List.size_toArray,hz,←Nat.add_mul];refine Nat.le_of_eq ?_;congr 1;omega
   ·have:=ab.drop.allocDrew (row ((xs++aa)++(Builtin.zeroCells zs.toArray (grownCap w (m+m') cap E-(m+m'))).toList) E);rw[dM] at this⊢;have e7:xs.toArray++aa.toArray=(xs++aa).toArray:=by simp
    rw[←e7] at this⊢;exact this
theorem R.append {T E sz bytes:Nat} {zs:List Value} [ht:SliceT P T E sz] [he:ElemT P E sz bytes zs] {x y:Operand} {p:Option Addr} {m cap:Nat} {xs:List Value} {c:Aa} {H1:Hp} {b q m' mc:Nat} {cs aa:List Value} {E':TypeId} {fz:Nat×Nat} (hx:ev L x=some (.slice p m cap):=by exact rfl) (hy:ev L y=some (.slice (some ⟨b,q,none⟩) m' mc):=by exact rfl) (hv:Vec E sz p m cap xs c:=by assumption) (ae:Ae c H H1:=by((first|exact Ae.nil|(repeat(first|exact Ae.here|apply Ae.there))))) (hb:Has b (An cs E' fz) H:=by exact zA) (ab:(cs.drop q).take (m'*sz)=aa:=by((first|assumption|(dsimp only[List.drop,List.take];try exact rfl)|exact rfl))) (hl:aa.length=m'*sz:=by((first|exact rfl|assumption|(simp;done)))) (h1:aa.all Value.oneCell'=true:=by((first|exact rfl|assumption))) (hz:zs.length=sz:=by exact rfl) (ad:0<m':=by((first|decide|omega))) (ac:m+m'≤maxLen:=by((simp only[maxLen];omega))) (ag:(m+m')*bytes≤140737488355328:=by omega) (hc:cls k ⟨some d,.call ⟨.builtin .append,#[x,y],#[T,T]⟩,ty,pos,af,g⟩= .eff []:=by exact rfl) (hn:d<n:=by exact nle rfl) (h:∀p' cap' c',Vec E sz p' (m+m') cap' (xs++aa) c'→R P ops Q cls w0 S n l ((d,.slice p' (m+m') cap')::L) D (c'::H1) qs):R1 P ops Q cls w0 S n k ⟨some d,.call ⟨.builtin .append,#[x,y],#[T,T]⟩,ty,pos,af,g⟩ l L D H qs:=
 R.appendX (cr:=[]) hx hy hv ae hb ab hl h1 hz ad ac ag hc (by intro _ _ _ h;cases h) hn h
def Pv:List Oper→Nat→Option Oper
 |[],_=>none
 |o::_,0=>some o
 |_::os,i+1=>Pv os i
theorem dN:∀(os:List Oper) (i:Nat),Pv os i=os[i]?
 |[],_=>by simp[Pv]
 |_::_,0=>rfl
 |_::os,i+1=>by simp[Pv,dN os i]
def Rc (os:List Oper):List Nat→List (Nat×Oper)
 |[]=>[]
 |i::is=>match Pv os i with
  |some o=>(i,o)::Rc os is
  |none=>Rc os is
theorem Ye (os:List Oper):∀(is:List Nat) (p:Nat×Oper),p∈Rc os is→os[p.1]? =some p.2
 |[],p,h=>by cases h
 |i::is,p,h=>by
  unfold Rc at h;cases hi:Pv os i with
  |none=>simp only[hi] at h;exact Ye os is p h
  |some o=>
   simp only[hi,List.mem_cons] at h;rcases h with rfl|h
   ·rw[←dN];exact hi
   ·exact Ye os is p h
theorem G.drawOrd [hm:Mixed P] {id:Nat} {os:List Oper} {l:List (Nat×Oper)} (ab:List Nat) (aa:List (Nat×Cls)) (hl:Rc os ab=l:=by(first|(dsimp only[Rc,Pv,Option.map];try exact rfl)|exact rfl)) (ac:Sz os.toArray (std aa) (l.map (·.1))=true:=by(decide+kernel)) (h:R P os.toArray Q (std aa) w0 S n l L D H []):G P Q w0 S n (.region id os.toArray true) L D H:=
 G.drawBy l aa (fun p hp=>by subst hl;exact Ye os ab p hp) ac h
end ops
end Go.SL
namespace Go.SL
open Go.MapKept
theorem ad4 (a n:Nat):a+n*1=a+n:=by omega
structure Ent (K:Type) where
 key:K
 val:Value
 born:Nat
def Ent.obj {K:Type} (mk:K→Value) (e:Ent K):MapEntry:={key:=mk e.key,val:=e.val,born:=e.born}
def Bi {K:Type} (mk:K→Value) (es:List (Ent K)) (ck:Nat):Obj:= .map (es.map (Ent.obj mk)).toArray ck
def Ei (i:Int):Value:= .int .i64 i
def Cv (b:Nat):Value:= .pointer (some ⟨b,0,none⟩)
def Ej {K:Type} [DecidableEq K] (k:K):List (Ent K)→Nat→Option (Nat×Value)
 |[],_=>none
 |e::es,i=>if k=e.key then some (i,e.val) else Ej k es (i+1)
theorem dO {k:Int}:∀(es:List (Ent Int)) (i:Nat),Instr.findNow (.int .i64) (Ei k) (es.map (Ent.obj Ei)) i=some (Ej k es i)
 |[],_=>rfl
 |e::es,i=>by
  simp only[List.map_cons,Instr.findNow,Ent.obj,Ei,Instr.sameNow,if_true,Ej];by_cases h:k=e.key
  ·simp[h]
  ·have:(k==e.key)=false:=by simpa using h
   simp only[this,h,if_false];exact dO es (i+1)
class PtrKey (P:Program) (T:TypeId):Prop where
 und:∃e sz,P.underlying T=some (.pointer e)∧sz≠0∧∀w,(sizeOf e).run P w= .ok sz w
theorem nZ {P:Program} {T:TypeId} [hp:PtrKey P T] {w:World} {a b:Nat} {ca cb:List Value} {ta tb:TypeId} (ha:w.heap[a]? =some (row ca ta)) (hb:w.heap[b]? =some (row cb tb)):(Op.equal T (Cv a) (Cv b)).run P w= .ok (decide (a=b)) w:=by
 obtain⟨e,sz,h1,h2,h3⟩:=hp.und;unfold Op.equal Op.maxDepth Op.equalIn;simp only[Sem.run_bind,run_underlying h1,Result.andThen,Cv,h3,h2,ne_eq,not_false_eq_true,if_true];by_cases h:a=b
 ·subst h;simp[run_sameAddr_same]
 ·have:=run_sameAddr_other (P:=P) (w:=w) (a:=⟨a,0,none⟩) (b:=⟨b,0,none⟩) (ca:=ca.toArray) (cb:=cb.toArray) (by simp[h]) ha hb;simp[this,h]
theorem oA {P:Program} {T:TypeId} [hp:PtrKey P T] {w:World} {k:Nat} (hk:∃cs t,w.heap[k]? =some (row cs t)):∀(es:List (Ent Nat)),(∀e∈es,∃cs t,w.heap[e.key]? =some (row cs t))→(Instr.findKey T (Cv k) (es.map (Ent.obj Cv))).run P w= .ok (Ej k es 0) w:=by
 intro es aa;have ab:∀(es:List (Ent Nat)) (i:Nat),(∀e∈es,∃cs t,w.heap[e.key]? =some (row cs t))→(Instr.findAsking T (Cv k) (es.map (Ent.obj Cv)) i).run P w= .ok (Ej k es i) w:=by
  intro es;induction es with
  |nil=>intro i _;simp[Instr.findAsking,Ej]
  |cons e es ih=>
   intro i h;obtain⟨ck,tk,ac⟩:=hk;obtain⟨ce,te,he⟩:=h e List.mem_cons_self;have:=nZ (P:=P) (T:=T) ac he;simp only[List.map_cons,Instr.findAsking,Ent.obj,Sem.run_bind,this,Result.andThen,Ej];by_cases hh:k=e.key
   ·simp[hh]
   ·simp only[hh,decide_false,Bool.false_eq_true,if_false];exact ih (i+1) fun e he=>h e (List.mem_cons_of_mem _ he)
 obtain⟨e,sz,h1,h2,h3⟩:=hp.und;unfold Instr.findKey;simp only[Sem.run_bind,run_underlying h1,Result.andThen];cases es with
 |nil=>simp[Instr.findNow,Ej]
 |cons e es=>simp only[List.map_cons,Instr.findNow,Ent.obj,Cv,Instr.sameNow];exact ab (e::es) 0 aa
theorem St.flat {w0 w:World} {S:List Nat} {H H2:Hp} (h:St w0 S w H) (he:H.flatten=H2.flatten):St w0 S w H2:=h.perm (by rw[he])
theorem Ct.conv {P:Program} {f:FuncId} {args:List Value} {H H2:Hp} {R R2:Value→Hp→Prop} (h:Ct P f args H2 R2) (he:H.flatten=H2.flatten) (hr:∀v H',R2 v H'→∃H'',R v H''∧H'.flatten.Perm H''.flatten):Ct P f args H R:=by
 unfold Ct at h⊢;intro w hw;have hk:Bj H=Bj H2:=by unfold Bj;rw[he]
 rw[hk] at hw⊢;refine(h w (hw.flat he)).mono fun e w' ⟨v,H',h1,h2,h3⟩=>?_;obtain⟨H'',h4,h5⟩:=hr v H' h2;exact⟨v,H'',h1,h4,h3.perm h5⟩
theorem CtQ.conv {P:Program} {f:FuncId} {args:List Value} {H H2:Hp} {v:Value} (h:CtQ P f args H2 v) (he:H.flatten=H2.flatten):CtQ P f args H v:=
 Ct.conv h he fun _ _ ⟨h1,h2⟩=>⟨H,⟨h1,rfl⟩,by rw[h2,he]⟩
section ops
variable {P:Program} {ops:Array Oper} {Q:Exit→Act→World→Prop} {cls:Nat→Oper→Cls} {w0:World} {S:List Nat} {n:Nat}
variable {k:Nat} {l:List (Nat×Oper)} {L:Bb} {D:List Deferred} {H:Hp} {qs:List Rd}
variable {d:Nat} {ty:TypeId} {pos:String} {af:Array Edge} {g:Option (Nat×Bool)}
theorem R1.nodup {o:Oper} {cr:List Nat} (hc:cls k o= .eff cr) (h:(Bj H).Nodup→R1 P ops Q cls w0 S n k o l L D H qs):R1 P ops Q cls w0 S n k o l L D H qs:=by unfold R1 at h⊢;intro hl a hf hD aa;have ho:=hl _ List.mem_cons_self;unfold W;simp only[ho,aa,if_true,hc];intro w F hw;have:=h hw.subl.nodup hl a hf hD aa;unfold W at this;simp only[ho,aa,if_true,hc] at this;exact this w F hw
def Ii (P:Program) (w0:World) (S:List Nat) (H:Hp) (T:TypeId) {K:Type} [DecidableEq K] (mk:K→Value) (key:K) (es:List (Ent K)):Prop:=
 ∀u S0 w,St u S0 w H→(∀b,(Instr.checkKey b 10000 T (mk key)).run P w= .ok () w)∧(Instr.findKey T (mk key) (es.map (Ent.obj mk))).run P w= .ok (Ej key es 0) w∧Instr.sameBits 10000 (mk key) (mk key)=true
theorem Ii.int {T:TypeId} {kk:IntKind} [hT:IntT P T kk] {key:Int} {es:List (Ent Int)} (aa:kk= .i64):Ii P w0 S H T Ei key es:=by subst aa;intro _ _ w _;refine⟨fun b=>run_checkKey hT.und (by simp[IsKey,Ei]) b 9999,run_findKey hT.und (dO es 0),by simp[Instr.sameBits,Ei]⟩
theorem Ii.ptr {T:TypeId} [hp:PtrKey P T] {key:Nat} {es:List (Ent Nat)} (hk:∃cs t,Has key (row cs t) H) (aa:∀e∈es,∃cs t,Has e.key (row cs t) H):Ii P w0 S H T Cv key es:=by
 intro _ _ w hw;obtain⟨cs,t,hk⟩:=hk;refine⟨fun b=>?_,oA ⟨cs,t,hk.st hw⟩ es (fun e he=>?_),by simp[Instr.sameBits,Cv]⟩
 ·obtain⟨e,sz,h1,_,_⟩:=hp.und;unfold Instr.checkKey;simp only[Sem.run_bind,run_underlying h1,Result.andThen,Cv];rfl
 ·obtain⟨cs,t,h⟩:=aa e he;exact⟨cs,t,h.st hw⟩
variable {K:Type} [DecidableEq K] {mk:K→Value} {key:K} {es:List (Ent K)} {ck bm:Nat} {T KT ET:TypeId}
theorem Tb {w:World} {r:Nat} {em:Array MapEntry} {c:Nat} (h:w.heap[r]? =some (.map em c)):(getObj r).run P w= .ok (.map em c) w:=by simp[getObj,Sem.run,h]
theorem R.lookupT [hT:MapT P T KT ET] {x y:Operand} {i:Nat} {v:Value} (hx:ev L x=some (.map (some bm))) (hh:Has bm (Bi mk es ck) H) (hy:ev L y=some (mk key)) (hq:Ii P w0 S H KT mk key es) (hf:Ej key es 0=some (i,v)) (hc:cls k ⟨some d,.lookup T x y true,ty,pos,af,g⟩= .eff []) (hn:d<n) (h:R P ops Q cls w0 S n l ((d,.tuple #[v,.bool true])::L) D H qs):R1 P ops Q cls w0 S n k ⟨some d,.lookup T x y true,ty,pos,af,g⟩ l L D H qs:=by
 refine R1.effStep hc hn fun a w w0 S ab aa=>?_;obtain⟨q1,q2,_⟩:=hq _ _ w aa;have hb:=hh.st aa;have:(execOp a.eval ⟨some d,.lookup T x y true,ty,pos,af,g⟩).run P w= .ok (.value (.tuple #[v,.bool true])) w:=by simp[execOp,ab.eval hx,ab.eval hy,Instr.lookup,run_underlying hT.und,Tb hb,Bi,q1,q2,hf]
 simp only[Ch,this];exact⟨H,aa,(by intro _ _ h;cases h),h⟩
def Kd (key:K) (v:Value) (es:List (Ent K)) (ck:Nat):List (Ent K)×Nat:=
 match Ej key es 0 with
 |some (i,_)=>(es.modify i fun e=>{e with val:=v},ck)
 |none=>(es++[⟨key,v,ck⟩],ck+1)
theorem St.setMap {w:World} {b:Nat} {o o':Obj} (h:St w0 S w ([(b,o)]::H)):St w0 S {w with heap:=w.heap.setIfInBounds b o'} ([(b,o')]::H):=by have hb:w.heap[b]? =some o:=h.sat (b,o) oA19;have h2:=heap_set (o':=o') hb;exact h.set oA19 h2.1 h2.2 rfl rfl rfl
theorem Yf:∀{es:List (Ent K)} {j i:Nat} {v:Value},Ej key es j=some (i,v)→j≤i∧∃e,es[i-j]? =some e∧e.key=key∧e.val=v
 |[],_,_,_,h=>by cases h
 |e::es,j,i,v,h=>by
  unfold Ej at h;split at h
  ·rename_i hk;simp only[Option.some.injEq,Prod.mk.injEq] at h;obtain⟨rfl,rfl⟩:=h;exact⟨Nat.le_refl _,e,by simp,hk.symm,rfl⟩
  ·obtain⟨h1,e',h2,h3,h4⟩:=Yf h;refine⟨oM,e',?_,h3,h4⟩;rw[show i-j=(i-(j+1))+1 by omega,List.getElem?_cons_succ];exact h2
theorem R.mapUpdate [hT:MapT P T KT ET] {x y z:Operand} {v:Value} {es':List (Ent K)} {ck':Nat} {H':Hp} (hx:ev L x=some (.map (some bm))) (hh:Has bm (Bi mk es ck) H) (hy:ev L y=some (mk key)) (hz:ev L z=some v) (hq:Ii P w0 S H KT mk key es) (hs:Kd key v es ck=(es',ck')) (hu:Upd bm (Bi mk es ck) (Bi mk es' ck') H H') (hc:cls k ⟨none,.mapUpdate T x y z,ty,pos,af,g⟩= .eff []) (h:R P ops Q cls w0 S n l L D H' qs):R1 P ops Q cls w0 S n k ⟨none,.mapUpdate T x y z,ty,pos,af,g⟩ l L D H qs:=by
 refine R1.effStep hc trivial fun a w w0 S aa ad=>?_;obtain⟨q1,q2,q3⟩:=hq _ _ w ad;obtain rfl:(Kd key v es ck).1=es':=by rw[hs]
 obtain rfl:(Kd key v es ck).2=ck':=by rw[hs]
 unfold Upd Ae at hu;obtain⟨F,t1,t2⟩:=hu;have e1:St w0 S w ([(bm,Bi mk es ck)]::F):=ad.perm (by simpa using t1);have hb:w.heap[bm]? =some (Bi mk es ck):=e1.sat (bm,Bi mk es ck) oA19;have ae:St w0 S {w with heap:=w.heap.setIfInBounds bm (Bi mk (Kd key v es ck).1 (Kd key v es ck).2)} H':=(e1.setMap).perm (by simpa using t2.symm);have ab:∀o,(setObj bm o).run P w= .ok () {w with heap:=w.heap.setIfInBounds bm o}:=fun o=>run_setObj_map o hb;have:(execOp a.eval ⟨none,.mapUpdate T x y z,ty,pos,af,g⟩).run P w= .ok .skip {w with heap:=w.heap.setIfInBounds bm (Bi mk (Kd key v es ck).1 (Kd key v es ck).2)}:=by
  unfold Kd;cases hf:Ej key es 0 with
  |none=>
   simp[execOp,aa.eval hx,aa.eval hy,aa.eval hz,Instr.mapUpdate,run_underlying hT.und,Tb hb,Bi,q1,q2,hf,ab,Ent.obj]
  |some r=>
   obtain⟨i,u⟩:=r;obtain⟨_,e,he,ac,_⟩:=Yf hf;rw[Nat.sub_zero] at he;have ag:((es.map (Ent.obj mk)).toArray.modify i fun e=>{e with key:=mk key,val:=v})=((es.modify i fun e=>{e with val:=v}).map (Ent.obj mk)).toArray:=by
    apply Array.ext';apply List.ext_getElem?;intro j;simp only[Array.getElem?_toList,Array.getElem?_modify,List.getElem?_toArray,List.getElem?_map,List.getElem?_modify];by_cases hj:i=j
    ·subst hj;simp[he,Ent.obj,ac]
    ·simp[hj]
   have ah:(((es.map (Ent.obj mk)).toArray[i]?).map (·.key)).getD (mk key)=mk key:=by simp[he,Ent.obj,ac]
   simp[execOp,aa.eval hx,aa.eval hy,aa.eval hz,Instr.mapUpdate,run_underlying hT.und,Tb hb,Bi,q1,q2,hf,ab,Instr.keyThatStays,he,Ent.obj,ac,q3];exact congrArg (fun l=>w.heap.setIfInBounds bm (Obj.map (List.toArray l) ck)) (by simpa[Ent.obj] using ag)
 simp only[Ch,this];exact⟨H',ae,(by intro _ _ h;cases h),h⟩
def delE (key:K) (es:List (Ent K)):List (Ent K):=
 match Ej key es 0 with
 |some (i,_)=>es.eraseIdx i
 |none=>es
theorem R.delete [hT:MapT P T KT ET] {x y:Operand} {kt:TypeId} {es':List (Ent K)} {H':Hp} (hx:ev L x=some (.map (some bm))) (hh:Has bm (Bi mk es ck) H) (hy:ev L y=some (mk key)) (hq:Ii P w0 S H KT mk key es) (hs:delE key es=es') (hu:Upd bm (Bi mk es ck) (Bi mk es' ck) H H') (hc:cls k ⟨none,.call ⟨.builtin .delete,#[x,y],#[T,kt]⟩,ty,pos,af,g⟩= .eff []) (h:R P ops Q cls w0 S n l L D H' qs):R1 P ops Q cls w0 S n k ⟨none,.call ⟨.builtin .delete,#[x,y],#[T,kt]⟩,ty,pos,af,g⟩ l L D H qs:=by
 refine R1.effStep hc trivial fun a w w0 S aa ad=>?_;obtain⟨q1,q2,q3⟩:=hq _ _ w ad;subst hs;unfold Upd Ae at hu;obtain⟨F,t1,t2⟩:=hu;have e1:St w0 S w ([(bm,Bi mk es ck)]::F):=ad.perm (by simpa using t1);have hb:w.heap[bm]? =some (Bi mk es ck):=e1.sat (bm,Bi mk es ck) oA19;have ae:St w0 S {w with heap:=w.heap.setIfInBounds bm (Bi mk (delE key es) ck)} H':=(e1.setMap).perm (by simpa using t2.symm);have ac:∀o,(setObj bm o).run P w= .ok () {w with heap:=w.heap.setIfInBounds bm o}:=fun o=>run_setObj_map o hb;have:(execOp a.eval ⟨none,.call ⟨.builtin .delete,#[x,y],#[T,kt]⟩,ty,pos,af,g⟩).run P w= .ok (.value (.tuple #[])) {w with heap:=w.heap.setIfInBounds bm (Bi mk (delE key es) ck)}:=by
  unfold delE;cases hf:Ej key es 0 with
  |none=>simp[execOp,resolve,invoke,Go.builtin,aa.eval hx,aa.eval hy,Builtin.delete_,run_underlying hT.und,Tb hb,Bi,q1,q2,hf,ac]
  |some r=>
   obtain⟨i,u⟩:=r;obtain⟨_,e,he,_,_⟩:=Yf hf;rw[Nat.sub_zero] at he;have hi:i<es.length:=(List.getElem?_eq_some_iff.1 he).1;have ab:(es.map (Ent.obj mk)).toArray.eraseIdxIfInBounds i=((es.eraseIdx i).map (Ent.obj mk)).toArray:=by apply Array.ext';apply List.ext_getElem?;intro j;simp[Array.eraseIdxIfInBounds,hi,List.getElem?_eraseIdx];split<;>rfl
   simp[execOp,resolve,invoke,Go.builtin,aa.eval hx,aa.eval hy,Builtin.delete_,run_underlying hT.und,Tb hb,Bi,q1,q2,hf,ac];exact congrArg (fun l=>w.heap.setIfInBounds bm (Obj.map (List.toArray l) ck)) (by simpa using ab)
 simp only[Ch,this];exact⟨H',ae,(by intro _ _ h;cases h),h⟩
theorem R.makeMap [hT:MapT P T KT ET] {rz:Option Operand} (hr:∀x,rz=some x→∃kk m,ev L x=some (.int kk m):=by((intro _ h;cases h))) (hc:cls k ⟨some d,.makeMap T rz,ty,pos,af,g⟩= .grow:=by exact rfl) (hn:d<n:=by exact nle rfl) (h:∀b,R P ops Q cls w0 S n l ((d,.map (some b))::L) D ([(b,.map #[] 0)]::H) qs):R1 P ops Q cls w0 S n k ⟨some d,.makeMap T rz,ty,pos,af,g⟩ l L D H qs:=
 R1.growStep (mk:=fun b=> .map (some b)) (ob:= .map #[] 0) hc rfl hn (fun a hf w=>by
  cases rz with
  |none=>simp[execOp,Instr.makeMap]
  |some x=>
   obtain⟨kk,m,hx⟩:=hr x rfl;simp[execOp,Instr.makeMap,hf.eval hx,run_underlying hT.und,asInt,asIntOf]) h
theorem oC {zs:List Value} (m:Nat) (hz:0<zs.length):madeCells zs.toArray (m*zs.length)=(Bn m zs).toArray:=by rw[←Ut m zs hz];rfl
theorem R.makeSlice {T E sz bytes:Nat} {zs:List Value} [ht:SliceT P T E sz] [he:ElemT P E sz bytes zs] {x y:Operand} {kx ky:IntKind} {a b:Int} (hx:ev L x=some (.int kx a):=by exact rfl) (hy:ev L y=some (.int ky b):=by exact rfl) (h0:0≤a∧a≤b:=by exact zO) (hb:(bytes:Int)*b≤281474976710656∧b≤9223372036854775807:=by exact zO) (hz:zs.length=sz:=by exact rfl) (ad:0<sz:=by exact nle rfl) {m m':Nat} (hm:a.toNat=m:=by exact zT) (aa:b.toNat=m':=by exact zT) (hc:cls k ⟨some d,.makeSlice T x y,ty,pos,af,g⟩= .grow:=by exact rfl) (hn:d<n:=by exact nle rfl) (h:∀bl,R P ops Q cls w0 S n l ((d,.slice (some ⟨bl,0,none⟩) m m')::L) D ([(bl,row (Bn m' zs) E)]::H) qs):R1 P ops Q cls w0 S n k ⟨some d,.makeSlice T x y,ty,pos,af,g⟩ l L D H qs:=
 R1.growStep (mk:=fun bl=> .slice (some ⟨bl,0,none⟩) m m') (ob:=row (Bn m' zs) E) hc rfl hn (fun ac hf w=>by
  obtain⟨i,z,e1,e2,e3,e4,e5⟩:=he.get;have hr:=run_make (P:=P) w T E i z ht.und e1 e4 kx ky a b h0.1 h0.2 (by rw[e3];exact hb.1) hb.2;rw[e5,e2,hm,aa,←hz,oC m' oM] at hr;have ab:(Instr.makeSlice T (ac.eval x) (ac.eval y)).run P w= .ok (.slice (some ⟨w.heap.size,0,none⟩) m m') {w with heap:=w.heap.push (row (Bn m' zs) E)}:=by rw[hf.eval hx,hf.eval hy];exact hr
  simp only[execOp,Sem.run_bind,ab,Result.andThen_ok,Sem.run_pure]) h
theorem Re {T E sz:Nat} [ht:SliceT P T E sz] {w:World} {a:Option Addr} {len cap:Nat} {lo hi mx:Option Value} {r:Nat×Nat×Nat} (hb:(Instr.sliceBounds true len cap lo hi mx).run P w= .ok r w):(Instr.sliceAt T (.slice a len cap) lo hi mx).run P w= .ok (.slice (if r.2.2=r.1 then a else a.map (·.add (r.1*sz))) (r.2.1-r.1) (r.2.2-r.1)) w:=by
 simp[Instr.sliceAt,Instr.slice,run_underlying ht.und,hb,ht.size]
theorem Uu (a:Addr):a.add 0=a:=by unfold Addr.add;simp
theorem R.sliceH {T E sz:Nat} [ht:SliceT P T E sz] {x y:Operand} {a:Option Addr} {len cap m:Nat} {ky:IntKind} {b:Int} (hx:ev L x=some (.slice a len cap):=by exact rfl) (hy:ev L y=some (.int ky b):=by exact rfl) (hb:0≤b∧b≤(cap:Int):=by exact zO) (hm:b.toNat=m:=by exact zT) (hc:cls k ⟨some d,.slice T x none (some y) none,ty,pos,af,g⟩= .pure:=by exact rfl) (hn:d<n:=by exact nle rfl) (h:R P ops Q cls w0 S n l ((d,.slice a m cap)::L) D H qs):R1 P ops Q cls w0 S n k ⟨some d,.slice T x none (some y) none,ty,pos,af,g⟩ l L D H qs:=
 R1.pureStep hc rfl hn (fun ac hf w=>by
  have hr:(Instr.sliceBounds true len cap none (some (.int ky b)) none).run P w= .ok (0,m,cap) w:=by simp[Instr.sliceBounds,run_sliceBound,hb.1,hb.2,hm]
  have:=Re (P:=P) (T:=T) (a:=a) hr;have e:(if cap=0 then a else a.map fun x=>x.add (0*sz))=a:=by
   split
   ·rfl
   ·cases a<;>simp[Uu]
  simp only[Nat.sub_zero,e] at this;simp[execOp,hf.eval hx,hf.eval hy,this]) h
theorem R.sliceLH {T E sz:Nat} [ht:SliceT P T E sz] {x y z:Operand} {bl p len cap i m q:Nat} {ky kz:IntKind} {a b:Int} (hx:ev L x=some (.slice (some ⟨bl,p,none⟩) len cap):=by exact rfl) (hy:ev L y=some (.int ky a):=by exact rfl) (hz:ev L z=some (.int kz b):=by exact rfl) (hb:0≤a∧a≤b∧b≤(cap:Int)∧a<(cap:Int):=by exact zO) (hi:a.toNat=i:=by exact zT) (hm:b.toNat=m:=by exact zT) (hq:p+i*sz=q:=by((first|exact ad1 _|exact ad4 _ _|exact Nat.zero_add _|exact Nat.add_zero _|exact ad2 _ _|exact ad3 _ _|(simp only[Nat.reduceAdd];done)|exact rfl))) (hc:cls k ⟨some d,.slice T x (some y) (some z) none,ty,pos,af,g⟩= .pure:=by exact rfl) (hn:d<n:=by exact nle rfl) (h:R P ops Q cls w0 S n l ((d,.slice (some ⟨bl,q,none⟩) (m-i) (cap-i))::L) D H qs):R1 P ops Q cls w0 S n k ⟨some d,.slice T x (some y) (some z) none,ty,pos,af,g⟩ l L D H qs:=
 R1.pureStep hc rfl hn (fun ac hf w=>by
  obtain⟨h1,h2,h3,h4⟩:=hb;have e1:(b.toNat:Int)=b:=Int.toNat_of_nonneg oM;have h5:0≤b:=oM;have hr:(Instr.sliceBounds true len cap (some (.int ky a)) (some (.int kz b)) none).run P w= .ok (i,m,cap) w:=by subst hi hm;simp[Instr.sliceBounds,run_sliceBound,h1,h2,h3,e1,h5]
  have:=Re (P:=P) (T:=T) (a:=some ⟨bl,p,none⟩) hr;simp only[show¬(cap=i) by omega,if_false,Option.map_some,Addr.add_mk,hq] at this;simp[execOp,hf.eval hx,hf.eval hy,hf.eval hz,this]) h
theorem R.sliceL {T E sz:Nat} [ht:SliceT P T E sz] {x y:Operand} {bl p len cap i q:Nat} {ky:IntKind} {a:Int} (hx:ev L x=some (.slice (some ⟨bl,p,none⟩) len cap):=by exact rfl) (hy:ev L y=some (.int ky a):=by exact rfl) (hb:0≤a∧a≤(len:Int)∧a<(cap:Int):=by exact zO) (hi:a.toNat=i:=by exact zT) (hq:p+i*sz=q:=by((first|exact ad1 _|exact ad4 _ _|exact Nat.zero_add _|exact Nat.add_zero _|exact ad2 _ _|exact ad3 _ _|(simp only[Nat.reduceAdd];done)|exact rfl))) (hc:cls k ⟨some d,.slice T x (some y) none none,ty,pos,af,g⟩= .pure:=by exact rfl) (hn:d<n:=by exact nle rfl) (h:R P ops Q cls w0 S n l ((d,.slice (some ⟨bl,q,none⟩) (len-i) (cap-i))::L) D H qs):R1 P ops Q cls w0 S n k ⟨some d,.slice T x (some y) none none,ty,pos,af,g⟩ l L D H qs:=
 R1.pureStep hc rfl hn (fun ac hf w=>by
  obtain⟨h1,h2,h3⟩:=hb;have hr:(Instr.sliceBounds true len cap (some (.int ky a)) none none).run P w= .ok (i,len,cap) w:=by simp[Instr.sliceBounds,run_sliceBound,h1,h2,hi]
  have:=Re (P:=P) (T:=T) (a:=some ⟨bl,p,none⟩) hr;simp only[show¬(cap=i) by omega,if_false,Option.map_some,Addr.add_mk,hq] at this;simp[execOp,hf.eval hx,hf.eval hy,this]) h
theorem R.slice3 {T E sz:Nat} [ht:SliceT P T E sz] {x y z:Operand} {a:Option Addr} {len cap m m':Nat} {ky kz:IntKind} {b c:Int} (hx:ev L x=some (.slice a len cap):=by exact rfl) (hy:ev L y=some (.int ky b):=by exact rfl) (hz:ev L z=some (.int kz c):=by exact rfl) (hb:0≤b∧b≤c∧c≤(cap:Int):=by exact zO) (hm:b.toNat=m:=by exact zT) (aa:c.toNat=m':=by exact zT) (hc:cls k ⟨some d,.slice T x none (some y) (some z),ty,pos,af,g⟩= .pure:=by exact rfl) (hn:d<n:=by exact nle rfl) (h:R P ops Q cls w0 S n l ((d,.slice a m m')::L) D H qs):R1 P ops Q cls w0 S n k ⟨some d,.slice T x none (some y) (some z),ty,pos,af,g⟩ l L D H qs:=
 R1.pureStep hc rfl hn (fun ac hf w=>by
  obtain⟨h1,h2,h3⟩:=hb;have e1:(c.toNat:Int)=c:=Int.toNat_of_nonneg oM;have h5:0≤c:=oM;have hr:(Instr.sliceBounds true len cap none (some (.int ky b)) (some (.int kz c))).run P w= .ok (0,m,m') w:=by subst hm aa;simp[Instr.sliceBounds,run_sliceBound,h1,h2,h3,e1,h5]
  have:=Re (P:=P) (T:=T) (a:=a) hr;have e:(if m'=0 then a else a.map fun x=>x.add (0*sz))=a:=by
   split
   ·rfl
   ·cases a<;>simp[Uu]
  simp only[Nat.sub_zero,e] at this;simp[execOp,hf.eval hx,hf.eval hy,hf.eval hz,this]) h
theorem R.eqlNilS {T E sz:Nat} [ho:SliceT P T E sz] {x y:Operand} {yt:TypeId} {p:Option Addr} {m c:Nat} (hx:ev L x=some (.slice p m c):=by exact rfl) (hy:ev L y=some (.slice none 0 0):=by exact rfl) (hc:cls k ⟨some d,.binOp .eql T x y yt,ty,pos,af,g⟩= .pure:=by exact rfl) (hn:d<n:=by exact nle rfl) (h:R P ops Q cls w0 S n l ((d,.bool p.isNone)::L) D H qs):R1 P ops Q cls w0 S n k ⟨some d,.binOp .eql T x y yt,ty,pos,af,g⟩ l L D H qs:=
 R1.pureStep hc rfl hn (fun a hf w=>by
  have h1:=run_equal_slice_nil (P:=P) w T E p m c ho.und;simp[execOp,hf.eval hx,hf.eval hy,eqGuard,binOp,h1]) h
theorem R.buildSlice0 {T E sz:Nat} [ht:SliceT P T E sz] (hc:cls k ⟨some d,.buildSlice T 0 #[],ty,pos,af,g⟩= .grow:=by exact rfl) (hn:d<n:=by exact nle rfl) (h:∀b,R P ops Q cls w0 S n l ((d,.slice (some ⟨b,0,none⟩) 0 0)::L) D ([(b,row [] E)]::H) qs):R1 P ops Q cls w0 S n k ⟨some d,.buildSlice T 0 #[],ty,pos,af,g⟩ l L D H qs:=
 R1.growStep (mk:=fun b=> .slice (some ⟨b,0,none⟩) 0 0) (ob:=row [] E) hc rfl hn (fun a ab w=>by
  have aa:=ht.size w;simp[execOp,Instr.buildSlice,run_underlying ht.und,aa,Instr.fill,newRow,row];rw[show(Array.range 0).map (fun _=>(default:Value))= #[] from Array.eq_empty_of_size_eq_zero oA19]) h
theorem Lm:∀(vs cs:List Value) (o:Nat),o+vs.length≤cs.length→Bq cs o vs=cs.take o++vs++cs.drop (o+vs.length)
 |[],cs,o,_=>by simp[Bq]
 |v::vs,cs,o,h=>by
  simp only[List.length_cons] at h;rw[Bq,Lm vs (cs.set o v) (o+1) oA16];apply List.ext_getElem?;intro j;have e1:min (o+1) cs.length=o+1:=oM;have e2:min o cs.length=o:=oM;simp only[List.append_assoc,List.getElem?_append,List.length_take,List.length_set,e1,e2,List.getElem?_take,List.getElem?_set,List.getElem?_drop,List.length_cons];by_cases h1:j<o
  ·rw[if_pos oM,if_pos oM,if_neg oM,if_pos h1,if_pos h1]
  ·by_cases h2:j=o
   ·subst h2;rw[if_pos oM,if_pos oM,if_pos rfl,if_pos oM,if_neg h1,if_pos oM];simp
   ·rw[if_neg oM,if_neg h1];have e4:j-o=(j-(o+1))+1:=oM;by_cases h3:j-(o+1)<vs.length
    ·rw[if_pos h3,if_pos oM,e4,List.getElem?_cons_succ]
    ·rw[if_neg h3,if_neg oM,if_neg oM];congr 1;omega
theorem R.copy {T E bytes:Nat} {zs:List Value} [ht:SliceT P T E 1] [he:ElemT P E 1 bytes zs] {sT:TypeId} {x y:Operand} {gd o dl dc b q sl sc m:Nat} {cs cs' ab aa:List Value} {E2:TypeId} {fz:Nat×Nat} {H':Hp} (hx:ev L x=some (.slice (some ⟨gd,o,none⟩) dl dc):=by exact rfl) (hy:ev L y=some (.slice (some ⟨b,q,none⟩) sl sc):=by exact rfl) (hb:Has b (An ab E2 fz) H:=by exact zA) (hm:Nat.min sl dl=m:=by((first|assumption|exact rfl))) (ac:(ab.drop q).take m=aa:=by((first|assumption|(dsimp only[List.drop,List.take];try exact rfl)|exact rfl))) (hl:aa.length=m:=by((first|assumption|exact rfl|(simp;done)))) (h1:aa.all Value.oneCell'=true:=by((first|assumption|exact rfl))) (hu:Upd gd (row cs E) (row cs' E) H H':=by exact zU) (hs:Bq cs o aa=cs':=by((first|assumption|(dsimp only[Bq,List.set,Value.cells,List.toList_toArray];try exact rfl)|exact rfl))) (ai:o+m≤cs.length:=by((first|omega|decide|(simp;omega)))) (hc:cls k ⟨some d,.call ⟨.builtin .copy,#[x,y],#[T,sT]⟩,ty,pos,af,g⟩= .eff []:=by exact rfl) (hn:d<n:=by exact nle rfl) (h:R P ops Q cls w0 S n l ((d,.int .i64 (m:Int))::L) D H' qs):R1 P ops Q cls w0 S n k ⟨some d,.call ⟨.builtin .copy,#[x,y],#[T,sT]⟩,ty,pos,af,g⟩ l L D H qs:=by
 refine R1.effStep hc hn fun a w w0 S ad ae=>?_;obtain⟨i,z,e1,e2,_⟩:=he.get;have aj:=hb.st ae;unfold Upd Ae at hu;obtain⟨F,t1,t2⟩:=hu;have s1:St w0 S w ([(gd,row cs E)]::F):=ae.perm (by simpa using t1);have hg:w.heap[gd]? =some (row cs E):=s1.sat (gd,row cs E) oA19;have ag:∀j v,aa[j]? =some v→w.cell? ((⟨b,q,none⟩:Addr).add j)=some v:=by
  intro j v hv;rw[Addr.add_mk,cell_of_row w b (q+j) ab.toArray E2 fz aj];rw[←ac,List.getElem?_take] at hv;split at hv
  ·simpa[List.getElem?_drop] using hv
  ·cases hv
 have hr:=run_copy_row (P:=P) w T sT ty E gd o dl dc ⟨b,q,none⟩ sl sc cs.toArray E aa ht.und (by simp[e1,e2]) hg (by rw[hl,←hm]) ag (by simpa[hl] using ai) (by simpa using h1);have e3:(cs.toArray.toList.take o++aa++cs.toArray.toList.drop (o+aa.length))=cs':=by rw[←hs,Lm aa cs o oM]
 rw[e3,hl] at hr;have ah:St w0 S (w.setRow gd cs'.toArray) H':=(s1.setRow (by rw[←hs,Rb])).perm (by simpa using t2.symm);have:(execOp a.eval ⟨some d,.call ⟨.builtin .copy,#[x,y],#[T,sT]⟩,ty,pos,af,g⟩).run P w= .ok (.value (.int .i64 (m:Int))) (w.setRow gd cs'.toArray):=by simp[execOp,resolve,invoke,Go.builtin,ad.eval hx,ad.eval hy,hr,goInt]
 simp only[Ch,this];exact⟨H',ah,(by intro _ _ h;cases h),h⟩
end ops
end Go.SL
namespace Go.SL
section ops
variable {P:Program} {ops:Array Oper} {Q:Exit→Act→World→Prop} {cls:Nat→Oper→Cls} {w0:World} {S:List Nat} {n:Nat}
variable {k:Nat} {l:List (Nat×Oper)} {L:Bb} {D:List Deferred} {H:Hp} {qs:List Rd}
variable {d:Nat} {ty:TypeId} {pos:String} {af:Array Edge} {g:Option (Nat×Bool)}
theorem R.copyN {T E sz bytes:Nat} {zs:List Value} [ht:SliceT P T E sz] [he:ElemT P E sz bytes zs] {sT:TypeId} {x y:Operand} {gd o dl dc b q sl sc m:Nat} {cs cs' ac aa:List Value} {E2:TypeId} {fz:Nat×Nat} {H':Hp} (hx:ev L x=some (.slice (some ⟨gd,o,none⟩) dl dc):=by exact rfl) (hy:ev L y=some (.slice (some ⟨b,q,none⟩) sl sc):=by exact rfl) (hb:Has b (An ac E2 fz) H:=by exact zA) (hm:Nat.min sl dl=m:=by((first|assumption|exact rfl))) (ad:(ac.drop q).take (m*sz)=aa:=by((first|assumption|(dsimp only[List.drop,List.take];try exact rfl)|exact rfl))) (hl:aa.length=m*sz:=by((first|assumption|exact rfl|(simp;done)))) (h1:aa.all Value.oneCell'=true:=by((first|assumption|exact rfl))) (hu:Upd gd (row cs E) (row cs' E) H H':=by exact zU) (hs:Bq cs o aa=cs':=by((first|assumption|(dsimp only[Bq,List.set,Value.cells,List.toList_toArray];try exact rfl)|exact rfl))) (ak:o+m*sz≤cs.length:=by((first|omega|assumption))) (hc:cls k ⟨some d,.call ⟨.builtin .copy,#[x,y],#[T,sT]⟩,ty,pos,af,g⟩= .eff []:=by exact rfl) (hn:d<n:=by exact nle rfl) (h:R P ops Q cls w0 S n l ((d,.int .i64 (m:Int))::L) D H' qs):R1 P ops Q cls w0 S n k ⟨some d,.call ⟨.builtin .copy,#[x,y],#[T,sT]⟩,ty,pos,af,g⟩ l L D H qs:=by
 refine R1.effStep hc hn fun a w w0 S ae ag=>?_;obtain⟨i,z,e1,e2,_⟩:=he.get;have al:=hb.st ag;unfold Upd Ae at hu;obtain⟨F,t1,t2⟩:=hu;have s1:St w0 S w ([(gd,row cs E)]::F):=ag.perm (by simpa using t1);have hg:w.heap[gd]? =some (row cs E):=s1.sat (gd,row cs E) oA19;have ah:∀j v,aa[j]? =some v→w.cell? ((⟨b,q,none⟩:Addr).add j)=some v:=by
  intro j v hv;rw[Addr.add_mk,cell_of_row w b (q+j) ac.toArray E2 fz al];rw[←ad,List.getElem?_take] at hv;split at hv
  ·simpa[List.getElem?_drop] using hv
  ·cases hv
 have ai:=run_loadCells_list (P:=P) w ⟨b,q,none⟩ aa ah;rw[hl] at ai;have ab:=run_storeCells_at P gd o E aa 0 cs.toArray w hg (by simpa[hl] using ak) (by simpa using h1);have e3:(cs.toArray.toList.take (o+0)++aa++cs.toArray.toList.drop (o+0+aa.length))=cs':=by rw[←hs,Lm aa cs o oM];rfl
 rw[e3] at ab;have aj:St w0 S (w.setRow gd cs'.toArray) H':=(s1.setRow (by rw[←hs,Rb])).perm (by simpa using t2.symm);have:(execOp a.eval ⟨some d,.call ⟨.builtin .copy,#[x,y],#[T,sT]⟩,ty,pos,af,g⟩).run P w= .ok (.value (.int .i64 (m:Int))) (w.setRow gd cs'.toArray):=by have am:=ht.size w;simp[execOp,resolve,invoke,Go.builtin,ae.eval hx,ae.eval hy,Builtin.copy_,run_underlying ht.und,Builtin.lenOf,Builtin.firstCells,am,hm,ai,ab,goInt]
 simp only[Ch,this];exact⟨H',aj,(by intro _ _ h;cases h),h⟩
theorem R.copy0 {T E sz:Nat} [ht:SliceT P T E sz] {sT:TypeId} {x y:Operand} {p p2:Option Addr} {dl dc sl sc:Nat} (hx:ev L x=some (.slice p dl dc):=by exact rfl) (hy:ev L y=some (.slice p2 sl sc):=by exact rfl) (hm:Nat.min sl dl=0:=by((first|assumption|exact Nat.zero_min _|exact Nat.min_zero _))) (hc:cls k ⟨some d,.call ⟨.builtin .copy,#[x,y],#[T,sT]⟩,ty,pos,af,g⟩= .eff []:=by exact rfl) (hn:d<n:=by exact nle rfl) (h:R P ops Q cls w0 S n l ((d,.int .i64 0)::L) D H qs):R1 P ops Q cls w0 S n k ⟨some d,.call ⟨.builtin .copy,#[x,y],#[T,sT]⟩,ty,pos,af,g⟩ l L D H qs:=by
 refine R1.effStep hc hn fun a w w0 S aa ab=>?_;have:(execOp a.eval ⟨some d,.call ⟨.builtin .copy,#[x,y],#[T,sT]⟩,ty,pos,af,g⟩).run P w= .ok (.value (.int .i64 0)) w:=by have ac:=ht.size w;cases p<;>cases p2<;>simp[execOp,resolve,invoke,Go.builtin,aa.eval hx,aa.eval hy,Builtin.copy_,run_underlying ht.und,Builtin.lenOf,Builtin.firstCells,ac,hm,goInt,loadCells,loadCellsFrom,storeCells]
 simp only[Ch,this];exact⟨H,ab,(by intro _ _ h;cases h),h⟩
theorem R.clear {T E sz bytes:Nat} {zs:List Value} [ht:SliceT P T E sz] [he:ElemT P E sz bytes zs] {x:Operand} {gd o m dc:Nat} {cs cs':List Value} {H':Hp} (hx:ev L x=some (.slice (some ⟨gd,o,none⟩) m dc):=by exact rfl) (h0:0<m:=by((first|omega|assumption))) (hz:zs.length=sz:=by exact rfl) (ak:0<sz:=by((exact nle rfl))) (h1:zs.all Value.oneCell'=true:=by exact rfl) (hu:Upd gd (row cs E) (row cs' E) H H':=by exact zU) (hs:Bq cs o (Bn m zs)=cs':=by((first|assumption|(dsimp only[Bq,List.set,Value.cells,List.toList_toArray];try exact rfl)|exact rfl))) (ab:o+m*sz≤cs.length:=by((first|omega|assumption))) (hc:cls k ⟨none,.call ⟨.builtin .clear,#[x],#[T]⟩,ty,pos,af,g⟩= .eff []:=by exact rfl) (h:R P ops Q cls w0 S n l L D H' qs):R1 P ops Q cls w0 S n k ⟨none,.call ⟨.builtin .clear,#[x],#[T]⟩,ty,pos,af,g⟩ l L D H qs:=by
 refine R1.effStep hc trivial fun a w w0 S ae ag=>?_;obtain⟨i,z,e1,e2,e3,e4,e5⟩:=he.get;unfold Upd Ae at hu;obtain⟨F,t1,t2⟩:=hu;have s1:St w0 S w ([(gd,row cs E)]::F):=ag.perm (by simpa using t1);have hg:w.heap[gd]? =some (row cs E):=s1.sat (gd,row cs E) oA19;have ah:(zeroValue E).run P w= .ok z w:=by simp[zeroValue,typeInfo,e1,e4]
 have ac:(Bn m zs).length=m*sz:=by rw[Mh,hz]
 have ai:∀v∈Bn m zs,v.oneCell'=true:=by
  clear hs ac ab hx h0;induction m with
  |zero=>intro v hv;cases hv
  |succ m ih=>
   intro v hv;rcases List.mem_append.1 hv with hv|hv
   ·exact List.all_eq_true.1 h1 v hv
   ·exact ih v hv
 have aj:(Builtin.zeroCells z.cells m).toList=Bn m zs:=by
  have:=Ut m zs oM;rw[Builtin.zeroCells,e5];have e6:m*zs.toArray.size=m*zs.length:=by simp
  rw[e6,this]
 have aa:=run_storeCells_at P gd o E (Bn m zs) 0 cs.toArray w hg (by simpa[ac] using ab) ai;have e3:(cs.toArray.toList.take (o+0)++Bn m zs++cs.toArray.toList.drop (o+0+(Bn m zs).length))=cs':=by rw[←hs,Lm _ cs o oM];rfl
 rw[e3] at aa;have ad:St w0 S (w.setRow gd cs'.toArray) H':=(s1.setRow (by rw[←hs,Rb])).perm (by simpa using t2.symm);have:(execOp a.eval ⟨none,.call ⟨.builtin .clear,#[x],#[T]⟩,ty,pos,af,g⟩).run P w= .ok (.value (.tuple #[])) (w.setRow gd cs'.toArray):=by
  cases m with
  |zero=>omega
  |succ m=>simp[execOp,resolve,invoke,Go.builtin,ae.eval hx,Builtin.clear_,run_underlying ht.und,ah,aj,aa]
 simp only[Ch,this];exact⟨H',ad,(by intro _ _ h;cases h),h⟩
theorem R.clear0 {T E sz:Nat} [ht:SliceT P T E sz] {x:Operand} {p:Option Addr} {m dc:Nat} (hx:ev L x=some (.slice p m dc):=by exact rfl) (hm:m=0:=by((first|omega|assumption))) (hc:cls k ⟨none,.call ⟨.builtin .clear,#[x],#[T]⟩,ty,pos,af,g⟩= .eff []:=by exact rfl) (h:R P ops Q cls w0 S n l L D H qs):R1 P ops Q cls w0 S n k ⟨none,.call ⟨.builtin .clear,#[x],#[T]⟩,ty,pos,af,g⟩ l L D H qs:=by
 subst hm;refine R1.effStep hc trivial fun a w w0 S aa ab=>?_;have:(execOp a.eval ⟨none,.call ⟨.builtin .clear,#[x],#[T]⟩,ty,pos,af,g⟩).run P w= .ok (.value (.tuple #[])) w:=by
  cases p<;>simp[execOp,resolve,invoke,Go.builtin,aa.eval hx,Builtin.clear_,run_underlying ht.und]
 simp only[Ch,this];exact⟨H,ab,(by intro _ _ h;cases h),h⟩
theorem R.appendRoom {T E sz bytes:Nat} {zs:List Value} [ht:SliceT P T E sz] [he:ElemT P E sz bytes zs] {x y:Operand} {gd m cap b q m' mc:Nat} {cs cs' ac aa:List Value} {E2:TypeId} {fz:Nat×Nat} {H':Hp} (hx:ev L x=some (.slice (some ⟨gd,0,none⟩) m cap):=by exact rfl) (hy:ev L y=some (.slice (some ⟨b,q,none⟩) m' mc):=by exact rfl) (ab:m+m'≤cap:=by((first|omega|assumption))) (hb:Has b (An ac E2 fz) H:=by exact zA) (ad:(ac.drop q).take (m'*sz)=aa:=by((first|assumption|(dsimp only[List.drop,List.take];try exact rfl)|exact rfl))) (hl:aa.length=m'*sz:=by((first|assumption|exact rfl|(simp;done)))) (h1:aa.all Value.oneCell'=true:=by((first|assumption|exact rfl))) (hu:Upd gd (row cs E) (row cs' E) H H':=by exact zU) (hs:Bq cs (m*sz) aa=cs':=by((first|assumption|(dsimp only[Bq,List.set,Value.cells,List.toList_toArray];try exact rfl)|exact rfl))) (ai:m*sz+m'*sz≤cs.length:=by((first|omega|assumption))) (hc:cls k ⟨some d,.call ⟨.builtin .append,#[x,y],#[T,T]⟩,ty,pos,af,g⟩= .eff []:=by exact rfl) (hn:d<n:=by exact nle rfl) (h:R P ops Q cls w0 S n l ((d,.slice (some ⟨gd,0,none⟩) (m+m') cap)::L) D H' qs):R1 P ops Q cls w0 S n k ⟨some d,.call ⟨.builtin .append,#[x,y],#[T,T]⟩,ty,pos,af,g⟩ l L D H qs:=by
 refine R1.effStep hc hn fun a w w0 S ae ag=>?_;obtain⟨i,z,e1,e2,e3,e4,e5⟩:=he.get;subst e2;have aj:=hb.st ag;unfold Upd Ae at hu;obtain⟨F,t1,t2⟩:=hu;have s1:St w0 S w ([(gd,row cs E)]::F):=ag.perm (by simpa using t1);have hg:w.heap[gd]? =some (row cs E):=s1.sat (gd,row cs E) oA19;have ak:∀j v,aa[j]? =some v→w.cell? ((⟨b,q,none⟩:Addr).add j)=some v:=by
  intro j v hv;rw[Addr.add_mk,cell_of_row w b (q+j) ac.toArray E2 fz aj];rw[←ad,List.getElem?_take] at hv;split at hv
  ·simpa[List.getElem?_drop] using hv
  ·cases hv
 have hr:=run_append_room (P:=P) w T ty E i ht.und e1 gd m cap cs.toArray hg ⟨b,q,none⟩ m' mc aa hl ak (by simpa using h1) ab (by simpa[hl] using ai);have e6:(cs.toArray.toList.take (m*i.size)++aa++cs.toArray.toList.drop (m*i.size+aa.length))=cs':=by rw[←hs,Lm aa cs _ oM]
 rw[e6] at hr;have ah:St w0 S (w.setRow gd cs'.toArray) H':=(s1.setRow (by rw[←hs,Rb])).perm (by simpa using t2.symm);have:(execOp a.eval ⟨some d,.call ⟨.builtin .append,#[x,y],#[T,T]⟩,ty,pos,af,g⟩).run P w= .ok (.value (.slice (some ⟨gd,0,none⟩) (m+m') cap)) (w.setRow gd cs'.toArray):=by simp[execOp,resolve,invoke,Go.builtin,ae.eval hx,ae.eval hy,hr]
 simp only[Ch,this];exact⟨H',ah,(by intro _ _ h;cases h),h⟩
theorem R.append0 {T E sz:Nat} [ht:SliceT P T E sz] {x y:Operand} {p p2:Option Addr} {m cap mc:Nat} (hx:ev L x=some (.slice p m cap):=by exact rfl) (hy:ev L y=some (.slice p2 0 mc):=by exact rfl) (aa:m≤cap:=by((first|omega|assumption))) (hc:cls k ⟨some d,.call ⟨.builtin .append,#[x,y],#[T,T]⟩,ty,pos,af,g⟩= .eff []:=by exact rfl) (hn:d<n:=by exact nle rfl) (h:R P ops Q cls w0 S n l ((d,.slice p m cap)::L) D H qs):R1 P ops Q cls w0 S n k ⟨some d,.call ⟨.builtin .append,#[x,y],#[T,T]⟩,ty,pos,af,g⟩ l L D H qs:=by
 refine R1.effStep hc hn fun a w w0 S ab ac=>?_;have ad:=ht.size w;have:(execOp a.eval ⟨some d,.call ⟨.builtin .append,#[x,y],#[T,T]⟩,ty,pos,af,g⟩).run P w= .ok (.value (.slice p m cap)) w:=by
  cases p<;>cases p2<;>simp[execOp,resolve,invoke,Go.builtin,ab.eval hx,ab.eval hy,Builtin.append_,run_underlying ht.und,ad,Builtin.lenOf,Builtin.firstCells,aa,loadCells,loadCellsFrom,storeCells]
 simp only[Ch,this];exact⟨H,ac,(by intro _ _ h;cases h),h⟩
theorem R.appendZ {T TI E sz bytes:Nat} {kn kk:IntKind} {zs:List Value} [ht:SliceT P T E sz] [hti:IntT P TI kn] [he:ElemT P E sz bytes zs] {x y:Operand} {gd m cap j:Nat} {v:Int} {cs:List Value} {fz:Nat×Nat} (hx:ev L x=some (.slice (some ⟨gd,0,none⟩) m cap):=by exact rfl) (hy:ev L y=some (.int kk v):=by exact rfl) (hv:v=(j:Int):=by((first|assumption|exact rfl))) (aj:cap<m+j:=by((first|omega|assumption))) (hb:Has gd (An cs E fz) H:=by exact zA) (ak:m*sz≤cs.length:=by((first|omega|assumption))) (hz:zs.length=sz:=by exact rfl) (ax:0<sz:=by((exact nle rfl))) (az:0<j:=by((first|omega|assumption))) (aa:m+j≤maxLen:=by((simp only[maxLen];omega))) (ay:m≤cap:=by((first|omega|assumption))) (al:(m+j)*bytes≤140737488355328:=by((first|omega|assumption))) (hc:cls k ⟨some d,.call ⟨.builtin .append,#[x,y],#[T,TI]⟩,ty,pos,af,g⟩= .eff []:=by exact rfl) (hn:d<n:=by exact nle rfl) (h:∀b' cap' rest,(cs.take (m*sz)++Bn j zs).length+rest.length=cap'*sz→m+j≤cap'→cap'≤maxLen→R P ops Q cls w0 S n l ((d,.slice (some ⟨b',0,none⟩) (m+j) cap')::L) D ([(b',row ((cs.take (m*sz)++Bn j zs)++rest) E)]::H) qs):R1 P ops Q cls w0 S n k ⟨some d,.call ⟨.builtin .append,#[x,y],#[T,TI]⟩,ty,pos,af,g⟩ l L D H qs:=by
 refine R1.effStep hc hn fun a w w0 S ac ad=>?_;subst hv;obtain⟨i,z,e1,e2,e3,e4,e5⟩:=he.get;subst e2 e3;have am:=hb.st ad;have an:¬(9223372036854775807<(m:Int)+(j:Int)):=by simp only[maxLen] at aa;omega
 have hw:IntKind.i64.wrap (j:Int)=j:=by rw[Ah];simp only[maxLen] at aa;omega
 have ae:¬((j:Int)<0):=oM;have aw:=growslice_fits (need:=m+j) (old:=cap) oM al;have ab:¬(281474976710656<Builtin.nextslicecap (m+j) cap*i.bytes):=oM;have ag:¬(281474976710656<(j:Int)*(i.bytes:Int)):=by have:j*i.bytes≤(m+j)*i.bytes:=Nat.mul_le_mul_right _ oM;rw[←Int.natCast_mul];omega
 have ah:∀q u,(cs.take (m*i.size))[q]? =some u→w.cell? ((⟨gd,0,none⟩:Addr).add q)=some u:=by
  intro q u hu;rw[Addr.add_mk,Nat.zero_add,cell_of_row w gd q cs.toArray E fz am];rw[List.getElem?_take] at hu;split at hu
  ·simpa using hu
  ·cases hu
 have hf:=run_firstCells_some (P:=P) w.drew i.size m ⟨gd,0,none⟩ m cap (cs.take (m*i.size)) oA16 (by intro q u hu;exact ah q u hu);have ao:¬(j*i.size=0):=Nat.mul_ne_zero oM oM;have aq:¬(m+j≤cap):=oM;have au:∀q,(Builtin.zeroCells z.cells q)=(Bn q zs).toArray:=by
  intro q;have:=Ut q zs oM;rw[Builtin.zeroCells,e5];have e6:q*zs.toArray.size=q*zs.length:=by simp
  rw[e6,this]
 have ai:(Builtin.append_ #[T,TI] ty #[.slice (some ⟨gd,0,none⟩) m cap,.int kk j]).run P w=
   .ok (.slice (some ⟨w.heap.size,0,none⟩) (m+j) (grownCap w (m+j) cap E)) (w.drew.alloc (row ((cs.take (m*i.size)++Bn j zs)++Bn (grownCap w (m+j) cap E-(m+j)) zs) E)):=by
  simp[Builtin.append_,run_underlying ht.und,run_underlying hti.und,sizeOf,typeInfo,zeroValue,e1,e4,asInt,asIntOf,hw,ae,ao,an,ab,ag,aq,Question.forced,hf,newRow,grownCap,au,row,List.append_assoc]
 have:(execOp a.eval ⟨some d,.call ⟨.builtin .append,#[x,y],#[T,TI]⟩,ty,pos,af,g⟩).run P w= .ok (.value (.slice (some ⟨w.heap.size,0,none⟩) (m+j) (grownCap w (m+j) cap E))) (w.drew.alloc (row ((cs.take (m*i.size)++Bn j zs)++Bn (grownCap w (m+j) cap E-(m+j)) zs) E)):=by simp[execOp,resolve,invoke,Go.builtin,ac.eval hx,ac.eval hy,ai]
 simp only[Ch,this];have av:=grownCap_ge w (m+j) cap E;refine⟨_,ad.allocDrew _,(by intro _ _ h;cases h),h w.heap.size (grownCap w (m+j) cap E) (Bn (grownCap w (m+j) cap E-(m+j)) zs) ?_ av (grownCap_le_maxLen w (m+j) cap E aa)⟩;simp only[List.length_append,List.length_take,Mh,hz];rw[Nat.min_eq_left ak,←Nat.add_mul,←Nat.add_mul];congr 1;omega
def cutA (a:Option Addr) (i cap sz:Nat):Option Addr:=if cap=i then a else a.map (·.add (i*sz))
theorem R.sliceLHx {T E sz:Nat} [ht:SliceT P T E sz] {x y z:Operand} {p:Option Addr} {len cap i m:Nat} {ky kz:IntKind} {a b:Int} (hx:ev L x=some (.slice p len cap):=by exact rfl) (hy:ev L y=some (.int ky a):=by exact rfl) (hz:ev L z=some (.int kz b):=by exact rfl) (hb:0≤a∧a≤b∧b≤(cap:Int):=by exact zO) (hi:a.toNat=i:=by exact zT) (hm:b.toNat=m:=by exact zT) (hc:cls k ⟨some d,.slice T x (some y) (some z) none,ty,pos,af,g⟩= .pure:=by exact rfl) (hn:d<n:=by exact nle rfl) (h:R P ops Q cls w0 S n l ((d,.slice (cutA p i cap sz) (m-i) (cap-i))::L) D H qs):R1 P ops Q cls w0 S n k ⟨some d,.slice T x (some y) (some z) none,ty,pos,af,g⟩ l L D H qs:=
 R1.pureStep hc rfl hn (fun ac hf w=>by
  obtain⟨h1,h2,h3⟩:=hb;have e1:(b.toNat:Int)=b:=Int.toNat_of_nonneg oM;have h5:0≤b:=oM;have hr:(Instr.sliceBounds true len cap (some (.int ky a)) (some (.int kz b)) none).run P w= .ok (i,m,cap) w:=by subst hi hm;simp[Instr.sliceBounds,run_sliceBound,h1,h2,h3,e1,h5]
  have:=Re (P:=P) (T:=T) (a:=p) hr;simp[execOp,hf.eval hx,hf.eval hy,hf.eval hz,this,cutA]) h
theorem R.sliceLx {T E sz:Nat} [ht:SliceT P T E sz] {x y:Operand} {p:Option Addr} {len cap i:Nat} {ky:IntKind} {a:Int} (hx:ev L x=some (.slice p len cap):=by exact rfl) (hy:ev L y=some (.int ky a):=by exact rfl) (hb:0≤a∧a≤(len:Int)∧len≤cap:=by exact zO) (hi:a.toNat=i:=by exact zT) (hc:cls k ⟨some d,.slice T x (some y) none none,ty,pos,af,g⟩= .pure:=by exact rfl) (hn:d<n:=by exact nle rfl) (h:R P ops Q cls w0 S n l ((d,.slice (cutA p i cap sz) (len-i) (cap-i))::L) D H qs):R1 P ops Q cls w0 S n k ⟨some d,.slice T x (some y) none none,ty,pos,af,g⟩ l L D H qs:=
 R1.pureStep hc rfl hn (fun ac hf w=>by
  obtain⟨h1,h2,h3⟩:=hb;have hr:(Instr.sliceBounds true len cap (some (.int ky a)) none none).run P w= .ok (i,len,cap) w:=by simp[Instr.sliceBounds,run_sliceBound,h1,h2,hi]
  have:=Re (P:=P) (T:=T) (a:=p) hr;simp[execOp,hf.eval hx,hf.eval hy,this,cutA]) h
theorem oE {w:World} {tS tR e:TypeId} (ht:P.underlying tS=some (.slice e)) {size:Nat} (hz:∀w,(Go.sizeOf e).run P w= .ok size w) {ba oa la ca bb ob lb cb:Nat} {csa csb:List Value} {tA tB:TypeId} (aa:ba≠bb) (ha:w.heap[ba]? =some (row csa tA)) (hb:w.heap[bb]? =some (row csb tB)) (ab:csb.length≠0):(Extern.SlicesOverlaps.overlaps #[tS,tS] #[tR] #[.slice (some ⟨ba,oa,none⟩) la ca,.slice (some ⟨bb,ob,none⟩) lb cb]).run P w= .ok (.bool false) w:=by
 have ae:w.shape? ba=some (tA,csa.length):=by simp[World.shape?,ha,row]
 have ac:w.shape? bb=some (tB,csb.length):=by simp[World.shape?,hb,row]
 have ag:∀o,w.frozen? ⟨ba,o,none⟩=false:=fun o=>by simp[World.frozen?,ha,row]
 have ah:(ba !=bb)=true:=by simpa using aa
 have ad:(ba==bb)=false:=by simpa using aa
 change Sem.run P (α:=Value) (do
  let some t:=(#[tS,tS]:Array TypeId)[0]? |stuck "slices.overlaps: no parameter types"
  let .slice elem←underlying t|stuck "slices.overlaps: slice type expected"
  let size←sizeOf elem
  match(some ⟨ba,oa,none⟩:Option Addr),(some ⟨bb,ob,none⟩:Option Addr) with
  |some a,some b=>
   if la=0∨lb=0∨size=0 then pure (Value.bool false)
   else if a.block !=b.block&&(←frozen a)&&(←frozen b) then unsupported .addressObserved
   else do
    if a.block !=b.block then do
     noView a;noView b
     if←mayBeOne a b then return Value.bool ((←choose _)==1)
    pure (Value.bool (a.block==b.block&&a.off<b.off+lb*size&&b.off<a.off+la*size))
  |_,_=>pure (Value.bool false)) w=_
 by_cases h0:la=0∨lb=0∨size=0
 ·simp[run_underlying ht,hz,h0]
 ·cases hk:csb.length with
  |zero=>exact absurd hk ab
  |succ kB=>
   rw[hk] at ac;simp[run_underlying ht,hz,h0,ah,ad,frozen,noView,viewAt,mayBeOne,stringish,shape,Sem.run,ae,ac,ag]
theorem R.callE {f:FuncId} {as:List Operand} {aT:Array TypeId} {vs:List Value} {v:Value} (aa:evs L as=some vs) (ab:∀u S0 w,St u S0 w H→(callFunc f vs.toArray).run P w= .ok (.value v) w) (hc:cls k ⟨some d,.call ⟨.value (.func f),as.toArray,aT⟩,ty,pos,af,g⟩= .eff []) (hn:d<n) (h:R P ops Q cls w0 S n l ((d,v)::L) D H qs):R1 P ops Q cls w0 S n k ⟨some d,.call ⟨.value (.func f),as.toArray,aT⟩,ty,pos,af,g⟩ l L D H qs:=by
 refine R1.effStep hc hn fun a w w0 S ad ac=>?_;have h1:=ad.evals aa;have:=ab _ _ w ac;have:(execOp a.eval ⟨some d,.call ⟨.value (.func f),as.toArray,aT⟩,ty,pos,af,g⟩).run P w= .ok (.value v) w:=by simp[execOp,resolve,Deferred.ofValue,Act.eval,invoke,h1,this]
 simp only[Ch,this];exact⟨H,ac,(by intro _ _ h;cases h),h⟩
end ops
end Go.SL
namespace Go.SL
theorem St.permS {w w':World} {S S':List Nat} {H:Hp} (hs:∀k,k∈S↔k∈S') (h:St w S w' H):St w S' w' H:=
 {h with
  own:=fun k hk=>(h.own k hk).imp (fun x=>(hs k).1 x) id
  frame:=fun b hb hn=>h.frame b hb (fun hh=>hn ((hs b).1 hh))}
theorem Uv {H H2:Hp} (hp:H.flatten.Perm H2.flatten) (k:Nat):k∈Bj H↔k∈Bj H2:=(hp.map _).mem_iff
theorem Ct.permH {P:Program} {f:FuncId} {args:List Value} {H H2:Hp} {R:Value→Hp→Prop} (h:Ct P f args H2 R) (hp:H.flatten.Perm H2.flatten):Ct P f args H R:=by unfold Ct at h⊢;intro w hw;have h1:St w (Bj H2) w H2:=(hw.perm hp).permS (Uv hp);refine(h w h1).mono fun e w' ⟨v,H',e1,e2,e3⟩=>⟨v,H',e1,e2,e3.permS fun k=>(Uv hp k).symm⟩
theorem Ct.convP {P:Program} {f:FuncId} {args:List Value} {H H2:Hp} {R R2:Value→Hp→Prop} (h:Ct P f args H2 R2) (he:H.flatten.Perm H2.flatten) (hr:∀v H',R2 v H'→∃H'',R v H''∧H'.flatten.Perm H''.flatten):Ct P f args H R:=by
 have h1:Ct P f args H2 R:=Ct.conv h rfl hr;exact h1.permH he
theorem CtQ.convP {P:Program} {f:FuncId} {args:List Value} {H H2:Hp} {v:Value} (h:CtQ P f args H2 v) (he:H.flatten.Perm H2.flatten):CtQ P f args H v:=
 Ct.convP h he fun _ _ ⟨h1,h2⟩=>⟨H,⟨h1,rfl⟩,by rw[h2];exact he.symm⟩
def Cb (P:Program) (f:FuncId) (args:List Value) (H:Hp) (R:Value→Hp→Prop):Prop:=Ct P f args H R∧Cd P f args H R
theorem Cd.permH {P:Program} {f:FuncId} {args:List Value} {H H2:Hp} {R:Value→Hp→Prop} (h:Cd P f args H2 R) (hp:H.flatten.Perm H2.flatten):Cd P f args H R:=by unfold Cd at h⊢;intro u w hw;have h1:St w (Bj H2) w H2:=(hw.perm hp).permS (Uv hp);exact(h u w h1).mono fun e u' w' ⟨hu,v,H',e1,e2,e3⟩=>⟨hu,v,H',e1,e2,e3.permS fun k=>(Uv hp k).symm⟩
theorem Cd.conv {P:Program} {f:FuncId} {args:List Value} {H H2:Hp} {R R2:Value→Hp→Prop} (h:Cd P f args H2 R2) (he:H.flatten.Perm H2.flatten) (hr:∀v H',R2 v H'→∃H'',R v H''∧H'.flatten.Perm H''.flatten):Cd P f args H R:=by
 have h2:Cd P f args H2 R:=by unfold Cd at h⊢;intro u w hw;refine(h u w hw).mono fun e u' w' ⟨hu,v,H',e1,e2,e3⟩=>?_;obtain⟨H'',h4,h5⟩:=hr v H' e2;exact⟨hu,v,H'',e1,h4,e3.perm h5⟩
 exact h2.permH he
theorem Cb.conv {P:Program} {f:FuncId} {args:List Value} {H H2:Hp} {R R2:Value→Hp→Prop} (h:Cb P f args H2 R2) (he:H.flatten.Perm H2.flatten) (hr:∀v H',R2 v H'→∃H'',R v H''∧H'.flatten.Perm H''.flatten):Cb P f args H R:=⟨Ct.convP h.1 he hr,Cd.conv h.2 he hr⟩
theorem Cb.mono {P:Program} {f:FuncId} {args:List Value} {H:Hp} {R R':Value→Hp→Prop} (h:Cb P f args H R) (hr:∀v H',R v H'→R' v H'):Cb P f args H R':=h.conv (.refl _) fun v H' hh=>⟨H',hr v H' hh,.refl _⟩
theorem Cb.intro {P:Program} {f:FuncId} {fn:Func} {c:Code} {n:Nat} {args:List Value} {H:Hp} {R:Value→Hp→Prop} (hf:P.funcs[f]? =some fn) (hb:fn.body=some c) (ht:fn.ntmps=n) (hn:args.length≤n) (h:∀w0,G P (bodyPost P fn (Js w0 (Bj H) R)) w0 (Bj H) n c (Cy 0 args) [] H):Cb P f args H R:=⟨Ct.intro hf hb ht hn h,Cd.intro hf hb ht hn h⟩
section ops
variable {P:Program} {ops:Array Oper} {Q:Exit→Act→World→Prop} {cls:Nat→Oper→Cls} {w0:World} {S:List Nat} {n:Nat}
variable {k:Nat} {l:List (Nat×Oper)} {L:Bb} {D:List Deferred} {H H2:Hp} {qs:List Rd}
theorem R.recut (hp:H.flatten.Perm H2.flatten) (h:R P ops Q cls w0 S n l L D H2 qs):R P ops Q cls w0 S n l L D H qs:=by unfold R at h⊢;exact fun hl a hf hD=>(h hl a hf hD).perm hp.symm
theorem R1.recut {o:Oper} (hp:H.flatten.Perm H2.flatten) (h:R1 P ops Q cls w0 S n k o l L D H2 qs):R1 P ops Q cls w0 S n k o l L D H qs:=by unfold R1 at h⊢;exact fun hl a hf hD hw=>(h hl a hf hD hw).perm hp.symm
theorem Dn.recut {e:Exit} (hp:H.flatten.Perm H2.flatten) (h:Dn Q w0 S n e L D H2):Dn Q w0 S n e L D H:=by unfold Dn at h⊢;exact fun a w hf hD hw=>h a w hf hD (hw.perm hp)
theorem G.recut {c:Code} (hp:H.flatten.Perm H2.flatten) (h:G P Q w0 S n c L D H2):G P Q w0 S n c L D H:=by unfold G at h⊢;exact fun a w hf hD hw=>h a w hf hD (hw.perm hp)
theorem Tc {c1 c2:Aa} {Ha Hb:Hp} (h1:Ae c1 H Ha) (h2:Ae c2 Ha Hb):H.flatten.Perm (((c1++c2)::Hb).flatten):=by unfold Ae at h1 h2;simp only[List.flatten_cons,List.append_assoc];exact h1.trans (List.Perm.append_left c1 h2)
theorem R1.join {o:Oper} {c1 c2:Aa} {Ha Hb:Hp} (h1:Ae c1 H Ha) (h2:Ae c2 Ha Hb) (h:R1 P ops Q cls w0 S n k o l L D ((c1++c2)::Hb) qs):R1 P ops Q cls w0 S n k o l L D H qs:=R1.recut (Tc h1 h2) h
theorem R.join {c1 c2:Aa} {Ha Hb:Hp} (h1:Ae c1 H Ha) (h2:Ae c2 Ha Hb) (h:R P ops Q cls w0 S n l L D ((c1++c2)::Hb) qs):R P ops Q cls w0 S n l L D H qs:=R.recut (Tc h1 h2) h
theorem Dn.join {e:Exit} {c1 c2:Aa} {Ha Hb:Hp} (h1:Ae c1 H Ha) (h2:Ae c2 Ha Hb) (h:Dn Q w0 S n e L D ((c1++c2)::Hb)):Dn Q w0 S n e L D H:=Dn.recut (Tc h1 h2) h
variable {d:Nat} {ty:TypeId} {pos:String} {af:Array Edge} {g:Option (Nat×Bool)}
theorem R.sliceAL {T m E sz:Nat} [ho:ArrT P T m E sz] {x y:Operand} {b p i:Nat} {ky:IntKind} {a:Int} (hx:ev L x=some (.pointer (some ⟨b,p,none⟩)):=by exact rfl) (hy:ev L y=some (.int ky a):=by exact rfl) (hb:0≤a∧a<(m:Int):=by exact zO) (hi:a.toNat=i:=by exact zT) {q:Nat} (hq:p+i*sz=q:=by((first|exact ad1 _|exact ad4 _ _|exact Nat.zero_add _|exact Nat.add_zero _|exact ad2 _ _|exact ad3 _ _|(simp only[Nat.reduceAdd];done)|exact rfl))) (hc:cls k ⟨some d,.slice T x (some y) none none,ty,pos,af,g⟩= .pure:=by exact rfl) (hn:d<n:=by exact nle rfl) (h:R P ops Q cls w0 S n l ((d,.slice (some ⟨b,q,none⟩) (m-i) (m-i))::L) D H qs):R1 P ops Q cls w0 S n k ⟨some d,.slice T x (some y) none none,ty,pos,af,g⟩ l L D H qs:=
 R1.pureStep hc rfl hn (fun ac hf w=>by
  obtain⟨h1,h2⟩:=hb;have hr:(Instr.sliceBounds false m m (some (.int ky a)) none none).run P w= .ok (i,m,m) w:=by
   subst hi;have:a≤(m:Int):=by omega
   simp[Instr.sliceBounds,run_sliceBound,h1,this]
  have h3:¬m=i:=oM;simp[execOp,hf.eval hx,hf.eval hy,Instr.sliceAt,run_underlying ho.und,Instr.sureAddr,hr,ho.size,h3,Addr.add_mk,hq]) h
theorem R.sliceALx {T m E sz:Nat} [ho:ArrT P T m E sz] {x y:Operand} {b p:Nat} {ky:IntKind} {a:Int} (hx:ev L x=some (.pointer (some ⟨b,p,none⟩)):=by exact rfl) (hy:ev L y=some (.int ky a):=by exact rfl) (hb:a=(m:Int):=by((omega))) (hc:cls k ⟨some d,.slice T x (some y) none none,ty,pos,af,g⟩= .pure:=by exact rfl) (hn:d<n:=by exact nle rfl) (h:R P ops Q cls w0 S n l ((d,.slice (some ⟨b,p,none⟩) 0 0)::L) D H qs):R1 P ops Q cls w0 S n k ⟨some d,.slice T x (some y) none none,ty,pos,af,g⟩ l L D H qs:=
 R1.pureStep hc rfl hn (fun ac hf w=>by
  subst hb;have hr:(Instr.sliceBounds false m m (some (.int ky (m:Int))) none none).run P w= .ok (m,m,m) w:=by simp[Instr.sliceBounds,run_sliceBound]
  simp[execOp,hf.eval hx,hf.eval hy,Instr.sliceAt,run_underlying ho.und,Instr.sureAddr,hr,ho.size]) h
theorem R.sliceAH {T m E sz:Nat} [ho:ArrT P T m E sz] {x y:Operand} {b p i:Nat} {ky:IntKind} {a:Int} (hx:ev L x=some (.pointer (some ⟨b,p,none⟩)):=by exact rfl) (hy:ev L y=some (.int ky a):=by exact rfl) (hb:0≤a∧a≤(m:Int):=by exact zO) (hi:a.toNat=i:=by exact zT) (hc:cls k ⟨some d,.slice T x none (some y) none,ty,pos,af,g⟩= .pure:=by exact rfl) (hn:d<n:=by exact nle rfl) (h:R P ops Q cls w0 S n l ((d,.slice (some ⟨b,p,none⟩) i m)::L) D H qs):R1 P ops Q cls w0 S n k ⟨some d,.slice T x none (some y) none,ty,pos,af,g⟩ l L D H qs:=
 R1.pureStep hc rfl hn (fun ac hf w=>by
  obtain⟨h1,h2⟩:=hb;have hr:(Instr.sliceBounds false m m none (some (.int ky a)) none).run P w= .ok (0,i,m) w:=by subst hi;simp[Instr.sliceBounds,run_sliceBound,h1,h2]
  simp[execOp,hf.eval hx,hf.eval hy,Instr.sliceAt,run_underlying ho.und,Instr.sureAddr,hr,ho.size,Uu]) h
theorem R.defer {f:FuncId} {as:List Operand} {aT:Array TypeId} {vs:List Value} (aa:evs L as=some vs:=by exact rfl) (hc:cls k ⟨none,.defer ⟨.value (.func f),as.toArray,aT⟩,ty,pos,af,g⟩= .defer:=by exact rfl) (h:R P ops Q cls w0 S n l L (⟨.fn (.func f) #[],vs.toArray⟩::D) H qs):R1 P ops Q cls w0 S n k ⟨none,.defer ⟨.value (.func f),as.toArray,aT⟩,ty,pos,af,g⟩ l L D H qs:=
 R1.deferStep hc rfl (fun a hf w=>by
  have h1:=hf.evals aa;simp[execOp,resolve,Deferred.ofValue,Act.eval,h1]) h
theorem R.deferV {f:FuncId} {x:Operand} {as:List Operand} {aT:Array TypeId} {fs vs us:List Value} (hx:ev L x=some (.func (.func f) fs.toArray us.toArray):=by exact rfl) (aa:evs L as=some vs:=by exact rfl) (hc:cls k ⟨none,.defer ⟨.value x,as.toArray,aT⟩,ty,pos,af,g⟩= .defer:=by exact rfl) (h:R P ops Q cls w0 S n l L (⟨.fn (.func f) us.toArray,(fs++vs).toArray⟩::D) H qs):R1 P ops Q cls w0 S n k ⟨none,.defer ⟨.value x,as.toArray,aT⟩,ty,pos,af,g⟩ l L D H qs:=
 R1.deferStep hc rfl (fun a hf w=>by
  have h1:=hf.evals aa;simp[execOp,resolve,Deferred.ofValue,hf.eval hx,h1]) h
theorem oF {f:FuncId} [hf:Callable P f] {us args:List Value} (w:World):(invoke (.fn (.func f) us.toArray) args.toArray).run P w= .ok (.enter f (args++us).toArray) w:=by simp[invoke,hf.run]
theorem Lv.call {fn:Func} {R:Value→Hp→Prop} {f:FuncId} (hf:Callable P f:=by exact inferInstance) {us args:List Value} {ds:List Deferred} {Hf F:Hp} {Rf:Value→Hp→Prop} (hc:Cd P f (args++us) Hf Rf) (hs:Bt H Hf F:=by exact zS) (h:∀v H2,Rf v H2→Lv P fn w0 S n R ds L (H2++F)):Lv P fn w0 S n R (⟨.fn (.func f) us.toArray,args.toArray⟩::ds) L H:=by
 unfold Bt at hs;have aa:Bt H Hf F:=by unfold Bt;exact hs
 exact Lv.cons (fun w=>oF w) hc aa h
end ops
end Go.SL
namespace Go.SL
class Meth (P:Program) (T:TypeId) (name:String) (f:outParam FuncId):Prop where
 run:∀a w,(Go.method (P.types.size+Made.depth) T (.pointer a) name).run P w= .ok (f,.pointer a) w
theorem Meth.of {P:Program} {T:TypeId} {name:String} {f:FuncId} [hp:PtrT P T] (h:(P.info? T).bind (fun i=>(i.methods.find? (·.name==name)).map (fun m=>(m.path.toList.length,m.func)))=some (0,some (f,true))):Meth P T name f:=⟨fun a w=>by
 cases hi:P.info? T with
 |none=>simp[hi] at h
 |some i=>
  simp only[hi,Option.bind_some] at h;cases hm:i.methods.find? (·.name==name) with
  |none=>simp[hm] at h
  |some m=>
   simp only[hm,Option.map_some,Option.some.injEq,Prod.mk.injEq] at h;obtain⟨h1,h2⟩:=h;have h3:m.path.toList=[]:=List.eq_nil_of_length_eq_zero h1;have hd:P.types.size+Made.depth=(P.types.size+99)+1:=rfl;rw[hd,Go.method];simp[typeInfo,hi,hm,h2,h3,Go.follow,Go.receiverAt,run_underlying hp.und,Go.Place.get]⟩
section ops
variable {P:Program} {ops:Array Oper} {Q:Exit→Act→World→Prop} {cls:Nat→Oper→Cls} {w0:World} {S:List Nat} {n:Nat}
variable {k:Nat} {l:List (Nat×Oper)} {L:Bb} {D:List Deferred} {H:Hp} {qs:List Rd}
variable {d:Nat} {ty:TypeId} {pos:String} {af:Array Edge} {g:Option (Nat×Bool)}
theorem dQ {T:TypeId} {name:String} {f:FuncId} [hm:Meth P T name f] [hf:Callable P f] {x:Operand} {as:List Operand} {aT:Array TypeId} {vs:List Value} {p:Option Addr} {a:Act} (ab:Fr n a L) (hx:ev L x=some (.iface T (.pointer p))) (aa:evs L as=some vs) {dst:Option Tmp} (w:World):(execOp a.eval ⟨dst,.call ⟨.invoke x name,as.toArray,aT⟩,ty,pos,af,g⟩).run P w= .ok (.enter f (.pointer p::vs).toArray) w:=by
 have h1:=ab.evals aa;have h2:=ab.eval hx;have h3:=hm.run p w;have e:((#[Value.iface T (.pointer p)]++vs.toArray:Array Value).extract 1 (#[Value.iface T (.pointer p)]++vs.toArray).size)=vs.toArray:=by apply Array.ext';simp
 simp only[execOp,resolve,h2,List.map_toArray,h1,Sem.run_bind,Sem.run_pure,Result.andThen_ok,invoke];simp only[Array.getElem?_append_left,List.size_toArray,List.length_cons,List.length_nil,Nat.zero_add,Nat.lt_one_iff];have h4:Sem.run P (method (P.types.size+100) T (.pointer p) name) w= .ok (f,.pointer p) w:=h3;simp[e,callMethod,Made.depth,h4,hf.run]
theorem R.invoke {T:TypeId} {name:String} {f:FuncId} {x:Operand} {as:List Operand} {aT:Array TypeId} {vs:List Value} {p:Option Addr} {Hf F:Hp} {Rf:Value→Hp→Prop} (hx:ev L x=some (.iface T (.pointer p)):=by exact rfl) (hm:Meth P T name f:=by exact inferInstance) (hf:Callable P f:=by exact inferInstance) (aa:evs L as=some vs:=by exact rfl) (hct:Ct P f (.pointer p::vs) Hf Rf) (hs:Bt H Hf F:=by exact zS) (hc:cls k ⟨some d,.call ⟨.invoke x name,as.toArray,aT⟩,ty,pos,af,g⟩= .eff []:=by exact rfl) (hn:d<n:=by exact nle rfl) (h:∀v H',Rf v H'→R P ops Q cls w0 S n l ((d,v)::L) D (H'++F) qs):R1 P ops Q cls w0 S n k ⟨some d,.call ⟨.invoke x name,as.toArray,aT⟩,ty,pos,af,g⟩ l L D H qs:=by
 refine R1.effStep hc hn fun a w w0 S ac ad=>?_;unfold Bt at hs;have ab:St w0 S w (Hf++F):=ad.perm hs;simp only[Ch,dQ ac hx aa];exact(hct.frame ab).mono fun e w' ⟨v,H',h1,h2,h3⟩=>⟨v,h1,H'++F,h3,(by intro _ _ h;cases h),h v H' h2⟩
theorem R.invokeP {T:TypeId} {name:String} {f:FuncId} {x:Operand} {as:List Operand} {aT:Array TypeId} {vs:List Value} {p:Option Addr} {Hf F:Hp} {v:Value} (hx:ev L x=some (.iface T (.pointer p)):=by exact rfl) (hm:Meth P T name f:=by exact inferInstance) (hf:Callable P f:=by exact inferInstance) (aa:evs L as=some vs:=by exact rfl) (hct:CtQ P f (.pointer p::vs) Hf v) (hs:Bt H Hf F:=by exact zS) (hc:cls k ⟨some d,.call ⟨.invoke x name,as.toArray,aT⟩,ty,pos,af,g⟩= .eff []:=by exact rfl) (hn:d<n:=by exact nle rfl) (h:R P ops Q cls w0 S n l ((d,v)::L) D H qs):R1 P ops Q cls w0 S n k ⟨some d,.call ⟨.invoke x name,as.toArray,aT⟩,ty,pos,af,g⟩ l L D H qs:=by
 refine R1.effStep hc hn fun a w w0 S ac ad=>?_;unfold Bt at hs;have ab:St w0 S w (Hf++F):=ad.perm hs;simp only[Ch,dQ ac hx aa];exact(hct.frame ab).mono fun e w' ⟨v',H',h1,⟨h2,h3⟩,h4⟩=>⟨v',h1,H,(by subst h3;exact h4.perm hs.symm),(by intro _ _ h;cases h),(by subst h2;exact h)⟩
theorem R.mkIface {T:TypeId} [ho:PtrT P T] {x:Operand} {p:Option Addr} (hx:ev L x=some (.pointer p):=by exact rfl) (hc:cls k ⟨some d,.makeInterface T x,ty,pos,af,g⟩= .pure:=by exact rfl) (hn:d<n:=by exact nle rfl) (h:R P ops Q cls w0 S n l ((d,.iface T (.pointer p))::L) D H qs):R1 P ops Q cls w0 S n k ⟨some d,.makeInterface T x,ty,pos,af,g⟩ l L D H qs:=
 R1.pureStep hc rfl hn (fun a hf w=>by simp[execOp,hf.eval hx,Instr.makeInterface,run_underlying ho.und]) h
theorem R.mkIfaceS {T:TypeId} {fs:Array Field} {x:Operand} {v:Value} (hx:ev L x=some v) (hu:P.underlying T=some (.struct fs)) (hc:cls k ⟨some d,.makeInterface T x,ty,pos,af,g⟩= .pure) (hn:d<n) (h:R P ops Q cls w0 S n l ((d,.iface T v)::L) D H qs):R1 P ops Q cls w0 S n k ⟨some d,.makeInterface T x,ty,pos,af,g⟩ l L D H qs:=
 R1.pureStep hc rfl hn (fun a hf w=>by simp[execOp,hf.eval hx,Instr.makeInterface,run_underlying hu]) h
end ops
end Go.SL
namespace Go.SL
section ops
variable {P:Program} {ops:Array Oper} {Q:Exit→Act→World→Prop} {cls:Nat→Oper→Cls} {w0:World} {S:List Nat} {n:Nat}
variable {k:Nat} {l:List (Nat×Oper)} {L:Bb} {D:List Deferred} {H H2:Hp} {qs:List Rd}
theorem Yg {c c1 c2:Aa} {Ha:Hp} (h1:Ae c H Ha) (hp:c.Perm (c1++c2)):H.flatten.Perm ((c1::c2::Ha).flatten):=by unfold Ae at h1;simp only[List.flatten_cons];rw[←List.append_assoc];exact h1.trans (hp.append_right _)
theorem R1.open {o:Oper} {c c1 c2:Aa} {Ha:Hp} (hp:c.Perm (c1++c2)) (h1:Ae c H Ha) (h:R1 P ops Q cls w0 S n k o l L D (c1::c2::Ha) qs):R1 P ops Q cls w0 S n k o l L D H qs:=R1.recut (Yg h1 hp) h
theorem R.open {c c1 c2:Aa} {Ha:Hp} (hp:c.Perm (c1++c2)) (h1:Ae c H Ha) (h:R P ops Q cls w0 S n l L D (c1::c2::Ha) qs):R P ops Q cls w0 S n l L D H qs:=R.recut (Yg h1 hp) h
theorem G.open {x:Code} {c c1 c2:Aa} {Ha:Hp} (hp:c.Perm (c1++c2)) (h1:Ae c H Ha) (h:G P Q w0 S n x L D (c1::c2::Ha)):G P Q w0 S n x L D H:=G.recut (Yg h1 hp) h
end ops
end Go.SL
namespace Go.SL
structure Ep (q:Prop):Prop where
 get:q
theorem isR {P:Program} {ops:Array Oper} {Q:Exit→Act→World→Prop} {cls:Nat→Oper→Cls} {w0:World} {S:List Nat} {n:Nat} {l:List (Nat×Oper)} {L:Bb} {D:List Deferred} {H:Hp} {qs:List Rd} (h:R P ops Q cls w0 S n l L D H qs):R P ops Q cls w0 S n l L D H qs:=h
theorem isO {P:Program} {ops:Array Oper} {Q:Exit→Act→World→Prop} {cls:Nat→Oper→Cls} {w0:World} {S:List Nat} {n:Nat} {l:List (Nat×Oper)} {L:Bb} {D:List Deferred} {H:Hp} {qs:List Rd} {kk:Nat} {o:Oper} (h:R1 P ops Q cls w0 S n kk o l L D H qs):R1 P ops Q cls w0 S n kk o l L D H qs:=h
theorem isD {Q:Exit→Act→World→Prop} {w0:World} {S:List Nat} {n:Nat} {e:Exit} {L:Bb} {D:List Deferred} {H:Hp} (h:Dn Q w0 S n e L D H):Dn Q w0 S n e L D H:=h
theorem isG {P:Program} {Q:Exit→Act→World→Prop} {w0:World} {S:List Nat} {n:Nat} {c:Code} {L:Bb} {D:List Deferred} {H:Hp} (h:G P Q w0 S n c L D H):G P Q w0 S n c L D H:=h
theorem sR {P:Program} {ops:Array Oper} {Q:Exit→Act→World→Prop} {cls:Nat→Oper→Cls} {w0:World} {S:List Nat} {n:Nat} {l:List (Nat×Oper)} {L:Bb} {D:List Deferred} {H:Hp} {qs:List Rd} {q:Prop} (k:q) (h:Ep q→R P ops Q cls w0 S n l L D H qs:=by
 intro k;first
  |(apply R.enter0;exact k.get)
  |(apply R.nil;exact k.get)
  |(apply R.enterT;exact rfl;exact rfl;exact rfl;exact k.get)
  |(apply R.skip;exact rfl;exact rfl;exact nle rfl;exact k.get)
  |(apply R.skipU;exact rfl;exact rfl;exact nle rfl;exact k.get)
  |(apply R.skipN;exact rfl;exact rfl;exact k.get)
  |(apply R.splitT;exact rfl;exact rfl;exact rfl;omega;exact k.get)
  |(apply R.splitF;exact rfl;exact rfl;exact rfl;omega;exact k.get)
  |(apply R.splitVT;exact rfl;exact rfl;exact rfl;assumption;exact k.get)
  |(apply R.splitVF;exact rfl;exact rfl;exact rfl;assumption;exact k.get)
 ):R P ops Q cls w0 S n l L D H qs:=h ⟨k⟩
theorem sB {P:Program} {ops:Array Oper} {Q:Exit→Act→World→Prop} {cls:Nat→Oper→Cls} {w0:World} {S:List Nat} {n:Nat} {l:List (Nat×Oper)} {L:Bb} {D:List Deferred} {H:Hp} {qs:List Rd} {kk:Nat} {d:Option Nat} {ty:TypeId} {pos:String} {af:Array Edge} {g:Option (Nat×Bool)} {bo:BinOp} {T yT:TypeId} {x y:Operand} {q:Prop} (k:q) (h:Ep q→R1 P ops Q cls w0 S n kk ⟨d,.binOp bo T x y yT,ty,pos,af,g⟩ l L D H qs:=by
 intro k;first
  |(apply R.lss;exact rfl;exact rfl;exact rfl;exact nle rfl;exact k.get)
  |(apply R.leq;exact rfl;exact rfl;exact rfl;exact nle rfl;exact k.get)
  |(apply R.gtr;exact rfl;exact rfl;exact rfl;exact nle rfl;exact k.get)
  |(apply R.geq;exact rfl;exact rfl;exact rfl;exact nle rfl;exact k.get)
  |(apply R.eql;exact rfl;exact rfl;exact rfl;exact nle rfl;exact k.get)
  |(apply R.neq;exact rfl;exact rfl;exact rfl;exact nle rfl;exact k.get)
  |(apply R.addw;exact rfl;exact rfl;(·(first|assumption|exact Ah oM|exact Hl oM|exact wrap_u32 oM|exact wrap_u8 oM|exact rfl));exact rfl;exact nle rfl;exact k.get)
  |(apply R.subw;exact rfl;exact rfl;(·(first|assumption|exact Ah oM|exact Hl oM|exact wrap_u32 oM|exact wrap_u8 oM|exact rfl));exact rfl;exact nle rfl;exact k.get)
  |(apply R.mulw;exact rfl;exact rfl;(·(first|assumption|exact Ah oM|exact Hl oM|exact wrap_u32 oM|exact wrap_u8 oM|exact rfl));exact rfl;exact nle rfl;exact k.get)
  |(apply R.quow;exact rfl;exact rfl;omega;(·(first|assumption|exact Ah oM|exact Hl oM|exact wrap_u32 oM|exact wrap_u8 oM|exact rfl));exact rfl;exact nle rfl;exact k.get)
  |(apply R.remw;exact rfl;exact rfl;omega;exact rfl;exact rfl;exact nle rfl;exact k.get)
  |(apply R.eqlNil;exact rfl;exact rfl;exact rfl;exact nle rfl;exact k.get)
  |(apply R.neqNil;exact rfl;exact rfl;exact rfl;exact nle rfl;exact k.get)
  |(apply R.eqlBool;exact rfl;exact rfl;exact rfl;exact nle rfl;exact k.get)
  |(apply R.neqBool;exact rfl;exact rfl;exact rfl;exact nle rfl;exact k.get)
  |(apply R.eql5;exact rfl;exact rfl;exact rfl;exact nle rfl;exact k.get)
  |(apply R.neq5;exact rfl;exact rfl;exact rfl;exact nle rfl;exact k.get)
  |(apply R.eql4;exact rfl;exact rfl;exact rfl;exact nle rfl;exact k.get)
  |(apply R.and;exact rfl;exact rfl;exact rfl;exact nle rfl;exact k.get)
  |(apply R.or;exact rfl;exact rfl;exact rfl;exact nle rfl;exact k.get)
  |(apply R.xor;exact rfl;exact rfl;exact rfl;exact nle rfl;exact k.get)
  |(apply R.shl;exact rfl;exact rfl;omega;(·(first|assumption|exact Ah oM|exact Hl oM|exact wrap_u32 oM|exact wrap_u8 oM|exact rfl));exact rfl;exact nle rfl;exact k.get)
  |(apply R.shr;exact rfl;exact rfl;omega;(·(first|assumption|exact rfl));exact rfl;exact nle rfl;exact k.get)
  |(apply R.eqlNilS;exact rfl;exact rfl;exact rfl;exact nle rfl;exact k.get)
 ):R1 P ops Q cls w0 S n kk ⟨d,.binOp bo T x y yT,ty,pos,af,g⟩ l L D H qs:=h ⟨k⟩
theorem sC {P:Program} {ops:Array Oper} {Q:Exit→Act→World→Prop} {cls:Nat→Oper→Cls} {w0:World} {S:List Nat} {n:Nat} {l:List (Nat×Oper)} {L:Bb} {D:List Deferred} {H:Hp} {qs:List Rd} {kk:Nat} {d:Option Nat} {ty:TypeId} {pos:String} {af:Array Edge} {g:Option (Nat×Bool)} {b:Builtin} {as:Array Operand} {aT:Array TypeId} {q:Prop} (k:q) (h:Ep q→R1 P ops Q cls w0 S n kk ⟨d,.call ⟨.builtin b,as,aT⟩,ty,pos,af,g⟩ l L D H qs:=by
 intro k;first
  |(apply R.max;exact rfl;exact rfl;exact rfl;exact nle rfl;exact k.get)
  |(apply R.min;exact rfl;exact rfl;exact rfl;exact nle rfl;exact k.get)
  |(apply R.len;exact rfl;exact rfl;exact nle rfl;exact k.get)
  |(apply R.cap;exact rfl;exact rfl;exact nle rfl;exact k.get)
  |(apply R.append0;exact rfl;exact rfl;(·(first|omega|assumption));exact rfl;exact nle rfl;exact k.get)
  |(apply R.append;exact rfl;exact rfl;assumption;(·(first|exact Ae.nil|(repeat(first|exact Ae.here|apply Ae.there))));exact zA;(·(first|assumption|(dsimp only[List.drop,List.take];try exact rfl)|exact rfl));(·(first|exact rfl|assumption|(simp;done)));(·(first|exact rfl|assumption));exact rfl;(·(first|decide|omega));(·(simp only[maxLen];omega));omega;exact rfl;exact nle rfl;exact k.get)
  |(apply R.appendX;exact rfl;exact rfl;assumption;(·(first|exact Ae.nil|(repeat(first|exact Ae.here|apply Ae.there))));exact zA;(·(first|assumption|(dsimp only[List.drop,List.take];try exact rfl)|exact rfl));(·(first|exact rfl|assumption|(simp;done)));(·(first|exact rfl|assumption));exact rfl;(·(first|decide|omega));(·(simp only[maxLen];omega));omega;exact rfl;(·(intro _;(first|(intro _ _ h;cases h;done)|(repeat(first|exact qok_nil|(apply qok_cons;(·first|(intro hc;exact absurd hc (nmem rfl))|(intro _;apply Gv.mk;(·repeat(first|exact Has.here|apply Has.there));(first|exact rfl|assumption))|(intro _;apply Gw.mk;(·repeat(first|exact Has.here|apply Has.there));(first|exact rfl|assumption)))))))));exact nle rfl;exact k.get)
  |(apply R.appendRoom;exact rfl;exact rfl;(·(first|omega|assumption));exact zA;(·(first|assumption|(dsimp only[List.drop,List.take];try exact rfl)|exact rfl));(·(first|assumption|exact rfl|(simp;done)));(·(first|assumption|exact rfl));exact zU;(·(first|assumption|(dsimp only[Bq,List.set,Value.cells,List.toList_toArray];try exact rfl)|exact rfl));(·(first|omega|assumption));exact rfl;exact nle rfl;exact k.get)
  |(apply R.appendZ;exact rfl;exact rfl;(·(first|assumption|exact rfl));(·(first|omega|assumption));exact zA;(·(first|omega|assumption));exact rfl;(·(exact nle rfl));(·(first|omega|assumption));(·(simp only[maxLen];omega));(·(first|omega|assumption));(·(first|omega|assumption));exact rfl;exact nle rfl;exact k.get)
  |(apply R.clear0;exact rfl;(·(first|omega|assumption));exact rfl;exact k.get)
  |(apply R.clear;exact rfl;(·(first|omega|assumption));exact rfl;(·(exact nle rfl));exact rfl;exact zU;(·(first|assumption|(dsimp only[Bq,List.set,Value.cells,List.toList_toArray];try exact rfl)|exact rfl));(·(first|omega|assumption));exact rfl;exact k.get)
  |(apply R.delete;exact rfl;exact zA;exact rfl;(·(first|exact Ii.int rfl|assumption));(·(first|assumption|exact rfl));exact zU;exact rfl;exact k.get)
  |(apply R.copy;exact rfl;exact rfl;exact zA;(·(first|assumption|exact rfl));(·(first|assumption|(dsimp only[List.drop,List.take];try exact rfl)|exact rfl));(·(first|assumption|exact rfl|(simp;done)));(·(first|assumption|exact rfl));exact zU;(·(first|assumption|(dsimp only[Bq,List.set,Value.cells,List.toList_toArray];try exact rfl)|exact rfl));(·(first|omega|decide|(simp;omega)));exact rfl;exact nle rfl;exact k.get)
  |(apply R.copy0;exact rfl;exact rfl;(·(first|assumption|exact Nat.zero_min _|exact Nat.min_zero _));exact rfl;exact nle rfl;exact k.get)
  |(apply R.copyN;exact rfl;exact rfl;exact zA;(·(first|assumption|exact rfl));(·(first|assumption|(dsimp only[List.drop,List.take];try exact rfl)|exact rfl));(·(first|assumption|exact rfl|(simp;done)));(·(first|assumption|exact rfl));exact zU;(·(first|assumption|(dsimp only[Bq,List.set,Value.cells,List.toList_toArray];try exact rfl)|exact rfl));(·(first|omega|assumption));exact rfl;exact nle rfl;exact k.get)
 ):R1 P ops Q cls w0 S n kk ⟨d,.call ⟨.builtin b,as,aT⟩,ty,pos,af,g⟩ l L D H qs:=h ⟨k⟩
theorem sS {P:Program} {ops:Array Oper} {Q:Exit→Act→World→Prop} {cls:Nat→Oper→Cls} {w0:World} {S:List Nat} {n:Nat} {l:List (Nat×Oper)} {L:Bb} {D:List Deferred} {H:Hp} {qs:List Rd} {kk:Nat} {d:Option Nat} {ty:TypeId} {pos:String} {af:Array Edge} {g:Option (Nat×Bool)} {T:TypeId} {x:Operand} {lo hi mx:Option Operand} {q:Prop} (k:q) (h:Ep q→R1 P ops Q cls w0 S n kk ⟨d,.slice T x lo hi mx,ty,pos,af,g⟩ l L D H qs:=by
 intro k;first
  |(apply R.sliceH;exact rfl;exact rfl;exact zO;exact zT;exact rfl;exact nle rfl;exact k.get)
  |(apply R.sliceLH;exact rfl;exact rfl;exact rfl;exact zO;exact zT;exact zT;(·(first|exact ad1 _|exact ad4 _ _|exact Nat.zero_add _|exact Nat.add_zero _|exact ad2 _ _|exact ad3 _ _|(simp only[Nat.reduceAdd];done)|exact rfl));exact rfl;exact nle rfl;exact k.get)
  |(apply R.sliceL;exact rfl;exact rfl;exact zO;exact zT;(·(first|exact ad1 _|exact ad4 _ _|exact Nat.zero_add _|exact Nat.add_zero _|exact ad2 _ _|exact ad3 _ _|(simp only[Nat.reduceAdd];done)|exact rfl));exact rfl;exact nle rfl;exact k.get)
  |(apply R.slice3;exact rfl;exact rfl;exact rfl;exact zO;exact zT;exact zT;exact rfl;exact nle rfl;exact k.get)
  |(apply R.sliceAL;exact rfl;exact rfl;exact zO;exact zT;(·(first|exact ad1 _|exact ad4 _ _|exact Nat.zero_add _|exact Nat.add_zero _|exact ad2 _ _|exact ad3 _ _|(simp only[Nat.reduceAdd];done)|exact rfl));exact rfl;exact nle rfl;exact k.get)
  |(apply R.sliceALx;exact rfl;exact rfl;(·(omega));exact rfl;exact nle rfl;exact k.get)
  |(apply R.sliceAH;exact rfl;exact rfl;exact zO;exact zT;exact rfl;exact nle rfl;exact k.get)
  |(apply R.sliceLHx;exact rfl;exact rfl;exact rfl;exact zO;exact zT;exact zT;exact rfl;exact nle rfl;exact k.get)
  |(apply R.sliceLx;exact rfl;exact rfl;exact zO;exact zT;exact rfl;exact nle rfl;exact k.get)
 ):R1 P ops Q cls w0 S n kk ⟨d,.slice T x lo hi mx,ty,pos,af,g⟩ l L D H qs:=h ⟨k⟩
theorem sO {P:Program} {ops:Array Oper} {Q:Exit→Act→World→Prop} {cls:Nat→Oper→Cls} {w0:World} {S:List Nat} {n:Nat} {l:List (Nat×Oper)} {L:Bb} {D:List Deferred} {H:Hp} {qs:List Rd} {kk:Nat} {o:Oper} {q:Prop} (k:q) (h:Ep q→R1 P ops Q cls w0 S n kk o l L D H qs:=by
 intro k;first
  |(apply R.move;exact rfl;exact rfl;exact nle rfl;exact k.get)
  |(apply R.assign;exact rfl;exact rfl;exact nle rfl;exact k.get)
  |(apply R.nilCheck;exact rfl;exact rfl;exact nle rfl;exact k.get)
  |(apply R.fieldAddr;exact rfl;(·(first|exact ad1 _|exact ad4 _ _|exact Nat.zero_add _|exact Nat.add_zero _|exact ad2 _ _|exact ad3 _ _|(simp only[Nat.reduceAdd];done)|exact rfl));exact rfl;exact nle rfl;exact k.get)
  |(apply R.load1;exact rfl;exact zA;(·(first|exact rfl|assumption));exact rfl;exact nle rfl;exact k.get)
  |(apply R.loadN;exact rfl;exact zA;(·(first|assumption|(dsimp only[List.drop,List.take];try exact rfl)|exact rfl));(·(first|exact rfl|assumption|(simp;done)));exact rfl;exact nle rfl;exact k.get)
  |(apply R.store1;exact rfl;exact rfl;(·(first|exact rfl|assumption));exact zU;(·(first|assumption|(dsimp only[List.set];try exact rfl)|exact rfl));(·(first|decide|omega|(simp;done)|(simp;omega)));exact rfl;(·(first|(intro _ _ h;cases h;done)|(repeat(first|exact qok_nil|(apply qok_cons;(·first|(intro hc;exact absurd hc (nmem rfl))|(intro _;apply Gv.mk;(·repeat(first|exact Has.here|apply Has.there));(first|exact rfl|assumption))|(intro _;apply Gw.mk;(·repeat(first|exact Has.here|apply Has.there));(first|exact rfl|assumption))))))));exact k.get)
  |(apply R.extract;exact rfl;exact rfl;exact rfl;exact nle rfl;exact k.get)
  |(apply R.pickT;exact rfl;exact rfl;exact rfl;exact nle rfl;exact k.get)
  |(apply R.pickF;exact rfl;exact rfl;exact rfl;exact nle rfl;exact k.get)
  |exact sB k.get
  |exact sC k.get
  |(apply R.storeN;exact rfl;exact rfl;(·(first|exact rfl|assumption));(·(first|exact rfl|assumption));exact zU;(·(first|assumption|(dsimp only[Bq,List.set,Value.cells,List.toList_toArray];try exact rfl)|exact rfl));(·(first|decide|omega|(simp;done)|(simp;omega)));exact rfl;(·(first|(intro _ _ h;cases h;done)|(repeat(first|exact qok_nil|(apply qok_cons;(·first|(intro hc;exact absurd hc (nmem rfl))|(intro _;apply Gv.mk;(·repeat(first|exact Has.here|apply Has.there));(first|exact rfl|assumption))|(intro _;apply Gw.mk;(·repeat(first|exact Has.here|apply Has.there));(first|exact rfl|assumption))))))));exact k.get)
  |(apply R.alloc;exact rfl;exact nle rfl;exact k.get)
  |(apply R.box;exact rfl;exact rfl;exact rfl;exact nle rfl;exact k.get)
  |(apply R.convert;exact rfl;(·(first|assumption|exact Ah oM|exact Hl oM|exact wrap_u32 oM|exact wrap_u8 oM|exact rfl));exact rfl;exact nle rfl;exact k.get)
  |(apply R.notP;exact rfl;exact rfl;exact nle rfl;exact k.get)
  |(apply R.not;exact rfl;exact rfl;exact nle rfl;exact k.get)
  |(apply R.indexAddr;exact rfl;exact rfl;exact zO;exact zT;(·(first|exact ad1 _|exact ad4 _ _|exact Nat.zero_add _|exact Nat.add_zero _|exact ad2 _ _|exact ad3 _ _|(simp only[Nat.reduceAdd];done)|exact rfl));exact rfl;exact nle rfl;exact k.get)
  |(apply R.indexAddrA;exact rfl;exact rfl;exact zO;exact zT;(·(first|exact ad1 _|exact ad4 _ _|exact Nat.zero_add _|exact Nat.add_zero _|exact ad2 _ _|exact ad3 _ _|(simp only[Nat.reduceAdd];done)|exact rfl));exact rfl;exact nle rfl;exact k.get)
  |(apply R.index1;exact rfl;exact rfl;exact zO;exact zT;(·(first|exact rfl|assumption));exact rfl;exact nle rfl;exact k.get)
  |(apply R.indexN;exact rfl;exact rfl;exact zO;exact zT;(·(first|assumption|(dsimp only[List.drop,List.take];try exact rfl)|exact rfl));exact rfl;exact nle rfl;exact k.get)
  |exact sS k.get
  |(apply R.field1;exact rfl;(·(first|exact rfl|assumption));exact rfl;exact nle rfl;exact k.get)
  |(apply R.fieldN;exact rfl;(·(first|assumption|(dsimp only[List.drop,List.take];try exact rfl)|exact rfl));exact rfl;exact nle rfl;exact k.get)
  |(apply R.negw;exact rfl;(·(first|assumption|exact Ah oM|exact Hl oM|exact wrap_u32 oM|exact wrap_u8 oM|exact rfl));exact rfl;exact nle rfl;exact k.get)
  |(apply R.build;exact rfl;exact rfl;(·(first|assumption|(dsimp only[Bq,List.set,Value.cells,List.toList_toArray];try exact rfl)|exact rfl));exact rfl;exact nle rfl;exact k.get)
  |(apply R.xor1;exact rfl;exact rfl;exact nle rfl;exact k.get)
  |(apply R.mkIface;exact rfl;exact rfl;exact nle rfl;exact k.get)
  |(apply R.makeFunc;exact rfl;exact rfl;exact rfl;exact nle rfl;exact k.get)
  |(apply R.defer;exact rfl;exact rfl;exact k.get)
  |(apply R.deferV;exact rfl;exact rfl;exact rfl;exact k.get)
  |(apply R.buildSlice;exact rfl;exact rfl;(·(first|(dsimp only[Bn,Bq,Value.cells,List.set,List.append_nil,Nat.zero_mul,Nat.reduceAdd,List.nil_append,List.cons_append];try exact rfl)|exact rfl));exact nle rfl;exact rfl;exact nle rfl;exact rfl;exact nle rfl;exact k.get)
  |(apply R.makeSlice;exact rfl;exact rfl;exact zO;exact zO;exact rfl;exact nle rfl;exact zT;exact zT;exact rfl;exact nle rfl;exact k.get)
  |(apply R.lookupT;exact rfl;exact zA;exact rfl;(·(first|exact Ii.int rfl|assumption));assumption;exact rfl;exact nle rfl;exact k.get)
  |(apply R.lookupF;exact rfl;exact zA;exact rfl;(·(first|exact Ii.int rfl|assumption));assumption;exact rfl;exact nle rfl;exact k.get)
  |(apply R.mapUpdate;exact rfl;exact zA;exact rfl;exact rfl;(·(first|exact Ii.int rfl|assumption));(·(first|assumption|exact rfl));exact zU;exact rfl;exact k.get)
  |(apply R.makeMap;(·(intro _ h;cases h));exact rfl;exact nle rfl;exact k.get)
  |(apply R.buildSlice0;exact rfl;exact nle rfl;exact k.get)
 ):R1 P ops Q cls w0 S n kk o l L D H qs:=h ⟨k⟩
theorem sD {Q:Exit→Act→World→Prop} {w0:World} {S:List Nat} {n:Nat} {e:Exit} {L:Bb} {D:List Deferred} {H:Hp} {q:Prop} (k:q) (h:Ep q→Dn Q w0 S n e L D H:=by
 intro k;first
  |(apply Dn.next;exact k.get)
  |(apply Dn.blockEnd;exact k.get)
  |(apply Dn.exitHere;exact k.get)
  |(apply Dn.exitPast;decide;exact k.get)
  |(apply Dn.exitThen;exact k.get)
  |(apply Dn.retThen;exact k.get)
  |(apply Dn.retBlock;exact k.get)
  |(apply Dn.postD;exact k.get)
  |(apply Dn.postDEnd;exact k.get)
 ):Dn Q w0 S n e L D H:=h ⟨k⟩
theorem sG {P:Program} {Q:Exit→Act→World→Prop} {w0:World} {S:List Nat} {n:Nat} {c:Code} {L:Bb} {D:List Deferred} {H:Hp} {q:Prop} (k:q) (h:Ep q→G P Q w0 S n c L D H:=by
 intro k;first
  |(apply G.plain;(first|(dsimp only[Ku,Nat.reduceAdd];try exact rfl)|exact rfl);exact k.get)
  |(apply G.block;exact k.get)
  |(apply G.skip;exact k.get)
  |(apply G.exit;exact k.get)
  |(apply G.ret;exact k.get)
  |(apply G.condT;exact rfl;exact k.get)
  |(apply G.condF;exact rfl;exact k.get)
  |(apply G.condVT;exact rfl;assumption;exact k.get)
  |(apply G.condVF;exact rfl;assumption;exact k.get)
  |(apply G.condPT;exact rfl;(first|decide|omega);exact k.get)
  |(apply G.condPF;exact rfl;(first|decide|omega);exact k.get)
 ):G P Q w0 S n c L D H:=h ⟨k⟩
theorem stn {p q:Prop} (k:q) (h:Ep q→p:=by
 intro k;first
  |((with_reducible apply isO);exact sO k.get)
  |((with_reducible apply isR);exact sR k.get)
  |((with_reducible apply isD);exact sD k.get)
  |((with_reducible apply isG);exact sG k.get)):p:=h ⟨k⟩
theorem gD {p q:Prop} (k:q) (h:Ep q→p:=by
 intro k;first
  |(refine G.drawOrd (id:=8) [0,1,2,3,5,6,7,4,8,9,10,11] [(4,.eff [0,5,6,7]),(8,.eff [0])] (h:=?_);exact k.get)
  |(refine G.drawOrd (id:=14) [0,1,2,3,5,4,6,7] [(4,.eff [5])] (h:=?_);exact k.get)
  |(refine G.drawOrd (id:=19) [0,1,2,3,5,4,6,7,8] [(4,.eff [5])] (h:=?_);exact k.get)
  |(refine G.drawOrd (id:=11) [0,1,2,3,5,4,6,7] [(4,.eff [0,5])] (h:=?_);exact k.get)
  |(refine G.drawOrd (id:=16) [0,1,2,5,6,7,8,9,10,3,4,11,12,13,14] [(4,.eff [8])] (h:=?_);exact k.get)
  |(refine G.drawOrd (id:=5) [0,1,2,3,5,4,6,7] [(4,.eff [0,5])] (h:=?_);exact k.get)
  |(refine G.drawOrd (id:=7) [0,1,2,4,5,6,7,8,3,9,10,11] [(3,.eff [8])] (h:=?_);exact k.get)
  |(refine G.drawOrd (id:=5) [0,1,2,3,4,5,6,7,8,9,10,11,12,13,14,15,16,17,18,21,22,23,24,25,19,20,26,27] [(19,.eff [4,8,25])] (h:=?_);exact k.get)
  |(refine G.draw (id:=5) [(4,.quiet),(9,.quiet),(10,.quiet),(15,.quiet),(16,.quiet)] (h:=?_);exact k.get)
  |(refine G.draw (id:=1) [(4,.quiet),(5,.quiet),(10,.quiet),(11,.quiet)] (h:=?_);exact k.get)
  |(refine G.draw (id:=1) [(2,.quiet),(5,.quiet),(10,.quiet)] (h:=?_);exact k.get)
  |(refine G.draw (id:=1) [(3,.quiet),(23,.quiet)] (h:=?_);exact k.get)
  |(refine G.draw (id:=5) [(17,.quiet),(26,.quiet)] (h:=?_);exact k.get)
  |(refine G.draw (id:=3) [(8,.quiet),(9,.quiet)] (h:=?_);exact k.get)
  |(refine G.draw (id:=23) [(2,.eff [1])] (h:=?_);exact k.get)
  |(refine G.draw (id:=13) [(4,.eff [0])] (h:=?_);exact k.get)
  |(refine G.draw (id:=15) [(10,.eff [0])] (h:=?_);exact k.get)
  |(refine G.draw (id:=7) [(17,.quiet)] (h:=?_);exact k.get)
  |(refine G.draw (id:=11) [(2,.eff [1])] (h:=?_);exact k.get)
  |(refine G.draw (id:=3) [(8,.quiet)] (h:=?_);exact k.get)
  |(refine G.draw (id:=1) [(20,.quiet)] (h:=?_);exact k.get)
  |(refine G.draw (id:=1) [(7,.quiet)] (h:=?_);exact k.get)
  |(refine G.draw (id:=9) [(8,.quiet)] (h:=?_);exact k.get)
  |(refine G.draw (id:=13) [(8,.quiet)] (h:=?_);exact k.get)
  |(refine G.draw (id:=9) [(6,.eff [1])] (h:=?_);exact k.get)
  |(refine G.draw (id:=12) [(19,.quiet)] (h:=?_);exact k.get)
  |(refine G.draw (id:=11) [(10,.eff [8])] (h:=?_);exact k.get)
  |(refine G.draw (id:=3) [(12,.quiet)] (h:=?_);exact k.get)
  |(refine G.draw (id:=5) [(19,.quiet)] (h:=?_);exact k.get)
  |(refine G.draw [] (h:=?_);exact k.get)
):p:=h ⟨k⟩
theorem sA {p q:Prop} (k:q) (h:Ep q→p:=by
 intro k;first
  |((with_reducible apply isO);exact sO k.get)
  |((with_reducible apply isR);exact sR k.get)
  |((with_reducible apply isG);apply G.seq;exact k.get)
  |((with_reducible apply isD);exact sD k.get)
  |((with_reducible apply isG);exact sG k.get)
  |((with_reducible apply isG);exact gD k.get)
  |((with_reducible apply isO);apply R.callP;exact rfl;assumption;exact oA4;exact rfl;exact nle rfl;exact k.get)
  |((with_reducible apply isO);apply R.callQ;exact rfl;assumption;exact oA4;exact rfl;exact nle rfl;exact k.get)
  |(dsimp only[List.cons_append,List.nil_append];exact k.get)):p:=h ⟨k⟩
theorem st {p q:Prop} (k:q) (h:Ep q→p:=by
 intro k;first
  |((with_reducible apply isO);exact sO k.get)
  |((with_reducible apply isR);exact sR k.get)
  |((with_reducible apply isG);apply G.seq;exact k.get)
  |((with_reducible apply isD);exact sD k.get)
  |((with_reducible apply isG);exact sG k.get)):p:=h ⟨k⟩
theorem sv {p q:Prop} (k:q) (h:Ep q→p:=by
 intro k;first
  |((with_reducible apply isO);exact sO k.get)
  |((with_reducible apply isR);exact sR k.get)
  |((with_reducible apply isG);apply G.seq;exact k.get)
  |((with_reducible apply isD);exact sD k.get)
  |((with_reducible apply isG);exact sG k.get)
  |((with_reducible apply isG);refine G.draw [] (h:=?_);exact k.get)):p:=h ⟨k⟩
theorem cq {C p q:Prop} (c:C) (k:q) (h:Ep C→Ep q→p:=by
 intro c k;first
  |((with_reducible apply isO);apply R.callP;exact rfl;(·(apply c.get<;>(first|omega|assumption)));exact oA4;exact rfl;exact nle rfl;exact k.get)
  |((with_reducible apply isO);apply R.callQ;exact rfl;(·(apply c.get<;>(first|omega|assumption)));exact oA4;exact rfl;exact nle rfl;exact k.get)
  |((with_reducible apply isO);apply R.callVP;exact rfl;exact inferInstance;exact rfl;(·(apply c.get<;>(first|omega|assumption)));exact oA4;exact rfl;exact nle rfl;exact k.get)
  |((with_reducible apply isO);apply R.invokeP;exact rfl;exact inferInstance;exact inferInstance;exact rfl;(·(apply c.get<;>(first|omega|assumption)));exact oA4;exact rfl;exact nle rfl;exact k.get)
 ):p:=h ⟨c⟩ ⟨k⟩
theorem sp {p q r:Prop} (k1:q) (k2:r) (h:Ep q→Ep r→p:=by
 intro k1 k2;first
  |((with_reducible apply isR);apply R.split;exact rfl;exact rfl;exact rfl;exact k1.get;exact k2.get)
  |((with_reducible apply isR);apply R.splitB;exact rfl;exact rfl;exact rfl;exact k1.get;exact k2.get)
  |((with_reducible apply isG);apply G.condP;exact rfl;exact k1.get;exact k2.get)
  |((with_reducible apply isG);apply G.condB;exact rfl;exact k1.get;exact k2.get)
 ):p:=h ⟨k1⟩ ⟨k2⟩
end Go.SL
