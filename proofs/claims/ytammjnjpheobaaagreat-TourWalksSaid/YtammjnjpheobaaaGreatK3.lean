/-
  Parts of the proof, put together: Sl3, Sl4. No condition.
-/
import Derived.LaidEql
import Derived.Laws.Cover3
import Derived.Laws.OwnMore
import Derived.MapKept
import Derived.Test.YtammjnjpheobaaaGreatK2
set_option linter.unusedVariables false
set_option linter.unusedSimpArgs false
set_option linter.unnecessarySimpa false
set_option maxHeartbeats 4000000
namespace Go.SL
open Go.RowKit
class ElemT (P:Program) (E:TypeId) (sz bytes:outParam Nat) (zs:outParam (List Value)):Prop where
 info:(P.info? E).map (fun i=>(i.size,i.bytes,i.zero.map fun z=>z.cells.toList))=some (sz,bytes,some zs)
theorem ElemT.get {P:Program} {E sz bytes:Nat} {zs:List Value} (h:ElemT P E sz bytes zs):∃i z,P.info? E=some i∧i.size=sz∧i.bytes=bytes∧i.zero=some z∧z.cells=zs.toArray:=by
 have:=h.info
 cases hi:P.info? E with
 |none=>simp[hi] at this
 |some i=>
  simp only[hi,Option.map_some,Option.some.injEq,Prod.mk.injEq] at this
  obtain⟨h1,h2,h3⟩:=this
  cases hz:i.zero with
  |none=>simp[hz] at h3
  |some z=>
   simp only[hz,Option.map_some,Option.some.injEq] at h3
   exact⟨i,z,rfl,h1,h2,hz,by rw[←h3]⟩
theorem Take.st {w0 w:World} {S:List Nat} {c:Chunk} {H H1:Hp} (h:Take c H H1) (hw:St w0 S w H):St w0 S w (c::H1):=by
 unfold Take at h
 exact hw.perm (by simpa using h)
theorem nmem {i:Nat} {l:List Nat} (h:l.contains i=false):¬i∈l:=by simpa using h
theorem Take.nil {H:Hp}:Take [] H H:=by unfold Take;simp
section ops
variable {P:Program} {ops:Array Oper} {Q:Exit→Act→World→Prop} {cls:Nat→Oper→Cls} {w0:World} {S:List Nat} {n:Nat}
variable {k:Nat} {l:List (Nat×Oper)} {L:Slots} {D:List Deferred} {H:Hp} {qs:List Rd}
variable {d:Nat} {ty:TypeId} {pos:String} {af:Array Edge} {g:Option (Nat×Bool)}
theorem R.makeFunc {fn:Fn} {as bs:List Operand} {vs us:List Value} (hx:evs L as=some vs:=by exact rfl) (hy:evs L bs=some us:=by exact rfl)
  (hc:cls k ⟨some d,.makeFunc fn as.toArray bs.toArray,ty,pos,af,g⟩= .pure:=by exact rfl) (hn:d<n:=by exact nle rfl)
  (h:R P ops Q cls w0 S n l ((d,.func fn vs.toArray us.toArray)::L) D H qs):R1 P ops Q cls w0 S n k ⟨some d,.makeFunc fn as.toArray bs.toArray,ty,pos,af,g⟩ l L D H qs:=
 R1.pureStep hc rfl hn (fun a hf w=>by
  have h1:=hf.evals hx
  have h2:=hf.evals hy
  simp[execOp,Instr.makeFunc,h1,h2]) h
section calls
variable {f:FuncId} {x:Operand} {as:List Operand} {aT:Array TypeId} {fs vs us:List Value} {Hf F:Hp} {Rf:Value→Hp→Prop}
theorem run_callV [hf:Callable P f] {a:Act} (hfr:Fr n a L) (hx:ev L x=some (.func (.func f) fs.toArray us.toArray)) (hargs:evs L as=some vs) {dst:Option Tmp} (w:World):
  (execOp a.eval ⟨dst,.call ⟨.value x,as.toArray,aT⟩,ty,pos,af,g⟩).run P w= .ok (.enter f (fs++vs++us).toArray) w:=by
 have h1:=hfr.evals hargs
 have h2:=hfr.eval hx
 simp[execOp,resolve,Deferred.ofValue,h2,invoke,hf.run,h1]
theorem R.callV (hx:ev L x=some (.func (.func f) fs.toArray us.toArray):=by exact rfl) (hf:Callable P f:=by exact inferInstance) (hargs:evs L as=some vs:=by exact rfl) (hct:Ct P f (fs++vs++us) Hf Rf) (hs:Split H Hf F:=by repeat(first|exact Split.nil|(apply Split.cons;·(repeat(first|exact Take.here|apply Take.there|exact Take.nil)))))
  (hc:cls k ⟨some d,.call ⟨.value x,as.toArray,aT⟩,ty,pos,af,g⟩= .eff []:=by exact rfl) (hn:d<n:=by exact nle rfl) (h:∀v H',Rf v H'→R P ops Q cls w0 S n l ((d,v)::L) D (H'++F) qs):
  R1 P ops Q cls w0 S n k ⟨some d,.call ⟨.value x,as.toArray,aT⟩,ty,pos,af,g⟩ l L D H qs:=by
 refine R1.effStep hc hn fun a w w0 S hfr hst=> ?_
 unfold Split at hs
 have hst':St w0 S w (Hf++F):=hst.perm hs
 simp only[OpOk,run_callV hfr hx hargs]
 exact(hct.frame hst').mono fun e w' ⟨v,H',h1,h2,h3⟩=>⟨v,h1,H'++F,h3,(by intro _ _ h;cases h),h v H' h2⟩
theorem R.callVP {v:Value} (hx:ev L x=some (.func (.func f) fs.toArray us.toArray):=by exact rfl) (hf:Callable P f:=by exact inferInstance) (hargs:evs L as=some vs:=by exact rfl) (hct:CtQ P f (fs++vs++us) Hf v) (hs:Split H Hf F:=by repeat(first|exact Split.nil|(apply Split.cons;·(repeat(first|exact Take.here|apply Take.there|exact Take.nil)))))
  (hc:cls k ⟨some d,.call ⟨.value x,as.toArray,aT⟩,ty,pos,af,g⟩= .eff []:=by exact rfl) (hn:d<n:=by exact nle rfl) (h:R P ops Q cls w0 S n l ((d,v)::L) D H qs):
  R1 P ops Q cls w0 S n k ⟨some d,.call ⟨.value x,as.toArray,aT⟩,ty,pos,af,g⟩ l L D H qs:=by
 refine R1.effStep hc hn fun a w w0 S hfr hst=> ?_
 unfold Split at hs
 have hst':St w0 S w (Hf++F):=hst.perm hs
 simp only[OpOk,run_callV hfr hx hargs]
 exact(hct.frame hst').mono fun e w' ⟨v',H',h1,⟨h2,h3⟩,h4⟩=>⟨v',h1,H,(by subst h3;exact h4.perm hs.symm),(by intro _ _ h;cases h),(by subst h2;exact h)⟩
end calls
def zrep:Nat→List Value→List Value
 |0,_=>[]
 |m+1,zs=>zs++zrep m zs
theorem zrep_length (m:Nat) (zs:List Value):(zrep m zs).length=m*zs.length:=by
 induction m with
 |zero=>simp[zrep]
 |succ m ih=>simp[zrep,ih,Nat.succ_mul,Nat.add_comm]
theorem zrep_get (zs:List Value) (hz:0<zs.length):∀(m i:Nat),i<m*zs.length→(zrep m zs)[i]? =zs[i%zs.length]?
 |0,i,h=>by omega
 |m+1,i,h=>by
  rw[zrep,List.getElem?_append]
  split
  ·rename_i h1;rw[Nat.mod_eq_of_lt h1]
  ·rename_i h1
   rw[Nat.succ_mul] at h
   rw[zrep_get zs hz m _ (by omega)]
   have:i%zs.length=(i-zs.length)%zs.length:=by rw[Nat.mod_eq_sub_mod (by omega)]
   rw[this]
theorem zero_row (m:Nat) (zs:List Value) (hz:0<zs.length):(Array.range (m*zs.length)).map (zs.toArray[·%zs.toArray.size]!)=(zrep m zs).toArray:=by
 apply Array.ext
 ·simp[zrep_length]
 ·intro i h1 h2
  simp only[Array.size_map,Array.size_range] at h1
  have h3:i%zs.length<zs.length:=Nat.mod_lt _ hz
  have:=zrep_get zs hz m i h1
  rw[List.getElem?_eq_getElem (by simpa[zrep_length] using h1),List.getElem?_eq_getElem h3] at this
  simp only[Option.some.injEq] at this
  simp only[Array.getElem_map,Array.getElem_range,List.getElem_toArray,this,List.size_toArray]
  rw[getElem!_pos _ _ (by simpa using h3)]
  simp
theorem R.buildSlice {T E sz bytes:Nat} {zs:List Value} [ht:SliceT P T E sz] [he:ElemT P E sz bytes zs] {m:Nat} {ps:List (Nat×Operand)} {vs:List (Nat×Value)} {cs cs':List Value}
  (hx:evParts L ps=some vs:=by exact rfl) (hf:fillL (fun i=>some (i*sz,sz)) (zrep m zs) vs=some cs:=by exact rfl) (heq:cs=cs':=by((first|(dsimp only[zrep,setL,Value.cells,List.set,List.append_nil,Nat.zero_mul,Nat.reduceAdd,List.nil_append,List.cons_append];try exact rfl)|exact rfl))) (hm:m*sz≤16777216:=by exact nle rfl) (hz:zs.length=sz:=by exact rfl) (hpos:0<m*sz:=by exact nle rfl)
  (hc:cls k ⟨some d,.buildSlice T m ps.toArray,ty,pos,af,g⟩= .grow:=by exact rfl) (hn:d<n:=by exact nle rfl)
  (h:∀b,R P ops Q cls w0 S n l ((d,.slice (some ⟨b,0,none⟩) m m)::L) D ([(b,row cs' E)]::H) qs):R1 P ops Q cls w0 S n k ⟨some d,.buildSlice T m ps.toArray,ty,pos,af,g⟩ l L D H qs:=
 R1.growStep (mk:=fun b=> .slice (some ⟨b,0,none⟩) m m) (ob:=row cs' E) hc rfl hn (fun a hfr w=>by
  subst heq
  obtain⟨i,z,h1,h2,h3,h4,h5⟩:=he.get
  have hp:=hfr.parts hx
  have hzr:(zeroValue E).run P w= .ok z w:=by simp[zeroValue,typeInfo,h1,h4]
  have hsz:=ht.size w
  have hpos':¬(m*sz=0):=by omega
  have h6:(ps.toArray.map fun (i,x)=>(i,a.eval x))=vs.toArray:=by rw[←hp];simp
  have h7:(Array.range (m*sz)).map (z.cells[·%z.cells.size]!)=(zrep m zs).toArray:=by
   rw[h5,←hz];exact zero_row m zs (by rw[hz];exact Nat.pos_of_mul_pos_left hpos)
  have h8:Instr.fill (fun i=>some (i*sz,sz)) (zrep m zs).toArray vs=some cs.toArray:=by rw[fill_fillL,hf];rfl
  have h16':¬(16777216<m*sz):=by omega
  simp[execOp,h6,Instr.buildSlice,run_underlying ht.und,hsz,hpos',h16',hzr,h7,h8,newRow,row]) h
def Vec (e sz:Nat) (p:Option Addr) (m cap:Nat) (xs:List Value) (c:Chunk):Prop:=
 xs.length=m*sz∧((p=none∧m=0∧cap=0∧c=[])∨
  ∃b rest,p=some ⟨b,0,none⟩∧c=[(b,row (xs++rest) e)]∧cap*sz≤xs.length+rest.length∧m≤cap∧cap≤maxLen)
theorem Vec.nil (e sz:Nat):Vec e sz none 0 0 [] []:=⟨by simp,.inl ⟨rfl,rfl,rfl,rfl⟩⟩
theorem row_app (xs:List Value) (a:Array Value) (E:Nat):row (xs++a.toList) E= .cells (xs.toArray++a) E (0,0):=by
 unfold row
 congr 1
 apply Array.ext'
 simp
theorem St.allocDrew {w:World} (h:St w0 S w H) (o:Obj):St w0 S (w.drew.alloc o) ([(w.heap.size,o)]::H):=by
 have:=(h.drew (w.drawn+1)).alloc o
 exact this
theorem St.setRow {w:World} {b:Nat} {cs cs':List Value} {e:Nat} (h:St w0 S w ([(b,row cs e)]::H)) (hl:cs'.length=cs.length):St w0 S (w.setRow b cs'.toArray) ([(b,row cs' e)]::H):=by
 have hb:w.heap[b]? =some (row cs e):=h.sat (b,row cs e) (by simp)
 refine h.set (w':=w.setRow b cs'.toArray) (o':=row cs' e) ?_ ?_ ?_ rfl rfl rfl
 ·simp[World.setRow]
 ·exact setRow_heap w b cs.toArray cs'.toArray e (0,0) hb
 ·intro j hj
  exact setRow_other w b j _ hj
theorem R.appendX {cr:List Nat} {T E sz bytes:Nat} {zs:List Value} [ht:SliceT P T E sz] [he:ElemT P E sz bytes zs] {x y:Operand} {p:Option Addr} {m cap:Nat} {xs:List Value} {c:Chunk} {H1:Hp}
  {b q m' mc:Nat} {cs news:List Value} {E':TypeId} {fz:Nat×Nat}
  (hx:ev L x=some (.slice p m cap):=by exact rfl) (hy:ev L y=some (.slice (some ⟨b,q,none⟩) m' mc):=by exact rfl) (hv:Vec E sz p m cap xs c:=by assumption) (htk:Take c H H1:=by((first|exact Take.nil|(repeat(first|exact Take.here|apply Take.there))))) (hb:Has b (rowf cs E' fz) H:=by((repeat(first|exact Has.here|apply Has.there))))
  (hnews:(cs.drop q).take (m'*sz)=news:=by((first|assumption|(dsimp only[List.drop,List.take];try exact rfl)|exact rfl))) (hl:news.length=m'*sz:=by((first|exact rfl|assumption|(simp;done)))) (h1:news.all Value.oneCell'=true:=by((first|exact rfl|assumption))) (hz:zs.length=sz:=by exact rfl) (hpos:0<m':=by((first|decide|omega))) (hmax:m+m'≤maxLen:=by((simp only[maxLen];omega))) (hby:(m+m')*bytes≤140737488355328:=by omega)
  (hc:cls k ⟨some d,.call ⟨.builtin .append,#[x,y],#[T,T]⟩,ty,pos,af,g⟩= .eff cr:=by exact rfl) (hq:∀c',∀r∈qs,r.i∈cr→r.Pr (c'::H1):=by((intro _;(first|(intro _ _ h;cases h;done)|(repeat(first|exact qok_nil|(apply qok_cons;(·first|(intro hc;exact absurd hc (nmem rfl))|(intro _;apply CellPr.mk;(·repeat(first|exact Has.here|apply Has.there));(first|exact rfl|assumption))|(intro _;apply CellsPr.mk;(·repeat(first|exact Has.here|apply Has.there));(first|exact rfl|assumption)))))))))) (hn:d<n:=by exact nle rfl)
  (h:∀p' cap' c',Vec E sz p' (m+m') cap' (xs++news) c'→R P ops Q cls w0 S n l ((d,.slice p' (m+m') cap')::L) D (c'::H1) qs):
  R1 P ops Q cls w0 S n k ⟨some d,.call ⟨.builtin .append,#[x,y],#[T,T]⟩,ty,pos,af,g⟩ l L D H qs:=by
 refine R1.effStep hc hn fun a w u0 S0 hfr hst=> ?_
 obtain⟨i,z,e1,e2,e3,e4,e5⟩:=he.get
 have hzs:z.cells.size=sz:=by rw[e5];simpa using hz
 have hst1:=htk.st hst
 have hbl:=hb.st hst
 have hnc:∀j u,news[j]? =some u→w.cell? ((⟨b,q,none⟩:Addr).add j)=some u:=by
  intro j u hu
  have:(⟨b,q,none⟩:Addr).add j=⟨b,q+j,none⟩:=by unfold Addr.add;split<;>simp_all
  rw[this,cell_of_row w b (q+j) cs.toArray E' fz hbl]
  rw[←hnews,List.getElem?_take] at hu
  split at hu
  ·simpa[List.getElem?_drop] using hu
  ·cases hu
 have hrun:∀v w',(Builtin.append_ #[T,T] ty #[.slice p m cap,.slice (some ⟨b,q,none⟩) m' mc]).run P w= .ok v w'→
   (execOp a.eval ⟨some d,.call ⟨.builtin .append,#[x,y],#[T,T]⟩,ty,pos,af,g⟩).run P w= .ok (.value v) w':=by
  intro v w' hr
  simp[execOp,resolve,invoke,Go.builtin,hfr.eval hx,hfr.eval hy,hr]
 have key:∀p' cap' c' w',(Builtin.append_ #[T,T] ty #[.slice p m cap,.slice (some ⟨b,q,none⟩) m' mc]).run P w= .ok (.slice p' (m+m') cap') w'→
   Vec E sz p' (m+m') cap' (xs++news) c'→St u0 S0 w' (c'::H1)→OpOk P (execOp a.eval ⟨some d,.call ⟨.builtin .append,#[x,y],#[T,T]⟩,ty,pos,af,g⟩) w fun v w'=>∃H',St u0 S0 w' H'∧
    (∀r∈qs,r.i∈cr→r.Pr H')∧R P ops Q cls w0 S n l (addSlot L v (some d)) D H' qs:=by
  intro p' cap' c' w' hr hv' hst'
  simp only[OpOk,hrun _ _ hr]
  exact⟨_,hst',hq _,h p' cap' c' hv'⟩
 have hlen:(xs++news).length=(m+m')*sz:=by rw[List.length_append,hv.1,hl,Nat.add_mul]
 have h63:m+m'≤9223372036854775807:=by simp only[maxLen] at hmax;omega
 obtain⟨hxl,hv⟩:=hv
 subst e2 e3
 rcases hv with⟨rfl,rfl,rfl,rfl⟩|⟨b',rest,rfl,rfl,hrl,hmc,hcm⟩
 ·have hx0:xs=[]:=List.eq_nil_of_length_eq_zero (by simpa using hxl)
  subst hx0
  simp only[Nat.zero_add] at h63 hby
  have hr:=run_append_nil (P:=P) w T ty E i z ht.und e1 e4 ⟨b,q,none⟩ m' mc news hl hnc hpos (by omega) (by omega)
  rw[e5] at hr
  refine key (some ⟨w.heap.size,0,none⟩) (grownCap w m' 0 E) [(w.heap.size,row (news++(Builtin.zeroCells zs.toArray (grownCap w m' 0 E-m')).toList) E)] _ (by rw[Nat.zero_add];exact hr) ?_ ?_
  ·refine⟨hlen,.inr ⟨w.heap.size,(Builtin.zeroCells zs.toArray (grownCap w m' 0 E-m')).toList,rfl,by simp,?_,?_,grownCap_le_maxLen w m' 0 E (by simpa using hmax)⟩⟩
   ·have:=grownCap_ge w m' 0 E
    have h9:news.length+(Builtin.zeroCells zs.toArray (grownCap w m' 0 E-m')).toList.length=m'*i.size+(grownCap w m' 0 E-m')*i.size:=by
     simp only[Array.length_toList,size_zeroCells,List.size_toArray,hl,hz]
    simp only[List.nil_append]
    rw[h9,←Nat.add_mul]
    refine Nat.le_of_eq ?_
    congr 1;omega
   ·rw[Nat.zero_add];exact grownCap_ge w m' 0 E
  ·have hst2:St u0 S0 w H1:=hst1.perm (by simp)
   have:=hst2.allocDrew (row (news++(Builtin.zeroCells zs.toArray (grownCap w m' 0 E-m')).toList) E)
   rw[row_app] at this⊢
   exact this
 ·by_cases hroom:m+m'≤cap
  ·have hg:w.heap[b']? =some (.cells (xs++rest).toArray E (0,0)):=hst1.sat (b',row (xs++rest) E) (by simp)
   have hfit:m*i.size+news.length≤(xs++rest).toArray.size:=by
    rw[hl,←Nat.add_mul]
    simp only[List.size_toArray,List.length_append]
    exact Nat.le_trans (Nat.mul_le_mul_right _ hroom) hrl
   have hr:=run_append_room (P:=P) w T ty E i ht.und e1 b' m cap (xs++rest).toArray hg ⟨b,q,none⟩ m' mc news hl hnc (by simpa using h1) hroom hfit
   have e6:((xs++rest).toArray.toList.take (m*i.size)++news++(xs++rest).toArray.toList.drop (m*i.size+news.length))=(xs++news)++rest.drop news.length:=by
    rw[←hxl]
    simp[List.drop_append]
   rw[e6] at hr
   have hfit':news.length≤rest.length:=by
    simp only[List.size_toArray,List.length_append] at hfit
    omega
   refine key (some ⟨b',0,none⟩) cap [(b',row ((xs++news)++rest.drop news.length) E)] _ hr ?_ ?_
   ·refine⟨hlen,.inr ⟨b',rest.drop news.length,rfl,rfl,?_,hroom,hcm⟩⟩
    simp only[List.length_append,List.length_drop]
    omega
   ·exact hst1.setRow (by simp only[List.length_append,List.length_drop];omega)
  ·have hg:w.heap[b']? =some (.cells (xs++rest).toArray E (0,0)):=hst1.sat (b',row (xs++rest) E) (by simp)
   have hoc:∀j u,xs[j]? =some u→w.cell? ((⟨b',0,none⟩:Addr).add j)=some u:=by
    intro j u hu
    have:(⟨b',0,none⟩:Addr).add j=⟨b',j,none⟩:=by unfold Addr.add;split<;>simp_all
    rw[this,cell_of_row w b' j _ E (0,0) hg]
    have hj:j<xs.length:=by
     rcases Nat.lt_or_ge j xs.length with h|h
     ·exact h
     ·rw[List.getElem?_eq_none h] at hu;cases hu
    simpa[List.getElem?_append_left hj] using hu
   have hr:=run_append_grow (P:=P) w T ty E i z ht.und e1 e4 ⟨b',0,none⟩ m cap xs hxl hoc ⟨b,q,none⟩ m' mc news hl hnc (by omega) (by omega) (growslice_fits (by omega) hby)
   rw[e5] at hr
   refine key (some ⟨w.heap.size,0,none⟩) (grownCap w (m+m') cap E) [(w.heap.size,row ((xs++news)++(Builtin.zeroCells zs.toArray (grownCap w (m+m') cap E-(m+m'))).toList) E)] _ hr ?_ ?_
   ·refine⟨hlen,.inr ⟨w.heap.size,_,rfl,rfl,?_,grownCap_ge w (m+m') cap E,grownCap_le_maxLen w (m+m') cap E hmax⟩⟩
    have:=grownCap_ge w (m+m') cap E
    simp only[hlen,Array.length_toList,size_zeroCells,List.size_toArray,hz,←Nat.add_mul]
    refine Nat.le_of_eq ?_
    congr 1;omega
   ·have:=hst1.drop.allocDrew (row ((xs++news)++(Builtin.zeroCells zs.toArray (grownCap w (m+m') cap E-(m+m'))).toList) E)
    rw[row_app] at this⊢
    have e7:xs.toArray++news.toArray=(xs++news).toArray:=by simp
    rw[←e7] at this⊢
    exact this
theorem R.append {T E sz bytes:Nat} {zs:List Value} [ht:SliceT P T E sz] [he:ElemT P E sz bytes zs] {x y:Operand} {p:Option Addr} {m cap:Nat} {xs:List Value} {c:Chunk} {H1:Hp}
  {b q m' mc:Nat} {cs news:List Value} {E':TypeId} {fz:Nat×Nat}
  (hx:ev L x=some (.slice p m cap):=by exact rfl) (hy:ev L y=some (.slice (some ⟨b,q,none⟩) m' mc):=by exact rfl) (hv:Vec E sz p m cap xs c:=by assumption) (htk:Take c H H1:=by((first|exact Take.nil|(repeat(first|exact Take.here|apply Take.there))))) (hb:Has b (rowf cs E' fz) H:=by((repeat(first|exact Has.here|apply Has.there))))
  (hnews:(cs.drop q).take (m'*sz)=news:=by((first|assumption|(dsimp only[List.drop,List.take];try exact rfl)|exact rfl))) (hl:news.length=m'*sz:=by((first|exact rfl|assumption|(simp;done)))) (h1:news.all Value.oneCell'=true:=by((first|exact rfl|assumption))) (hz:zs.length=sz:=by exact rfl) (hpos:0<m':=by((first|decide|omega))) (hmax:m+m'≤maxLen:=by((simp only[maxLen];omega))) (hby:(m+m')*bytes≤140737488355328:=by omega)
  (hc:cls k ⟨some d,.call ⟨.builtin .append,#[x,y],#[T,T]⟩,ty,pos,af,g⟩= .eff []:=by exact rfl) (hn:d<n:=by exact nle rfl)
  (h:∀p' cap' c',Vec E sz p' (m+m') cap' (xs++news) c'→R P ops Q cls w0 S n l ((d,.slice p' (m+m') cap')::L) D (c'::H1) qs):
  R1 P ops Q cls w0 S n k ⟨some d,.call ⟨.builtin .append,#[x,y],#[T,T]⟩,ty,pos,af,g⟩ l L D H qs:=
 R.appendX (cr:=[]) hx hy hv htk hb hnews hl h1 hz hpos hmax hby hc (by intro _ _ _ h;cases h) hn h
def nthO:List Oper→Nat→Option Oper
 |[],_=>none
 |o::_,0=>some o
 |_::os,i+1=>nthO os i
theorem nthO_eq:∀(os:List Oper) (i:Nat),nthO os i=os[i]?
 |[],_=>by simp[nthO]
 |_::_,0=>rfl
 |_::os,i+1=>by simp[nthO,nthO_eq os i]
def enumBy (os:List Oper):List Nat→List (Nat×Oper)
 |[]=>[]
 |i::is=>match nthO os i with
  |some o=>(i,o)::enumBy os is
  |none=>enumBy os is
theorem enumBy_get (os:List Oper):∀(is:List Nat) (p:Nat×Oper),p∈enumBy os is→os[p.1]? =some p.2
 |[],p,h=>by cases h
 |i::is,p,h=>by
  unfold enumBy at h
  cases hi:nthO os i with
  |none=>simp only[hi] at h;exact enumBy_get os is p h
  |some o=>
   simp only[hi,List.mem_cons] at h
   rcases h with rfl|h
   ·rw[←nthO_eq];exact hi
   ·exact enumBy_get os is p h
theorem G.drawOrd [hm:Mixed P] {id:Nat} {os:List Oper} {l:List (Nat×Oper)} (ord:List Nat) (ann:List (Nat×Cls)) (hl:enumBy os ord=l:=by(first|(dsimp only[enumBy,nthO,Option.map];try exact rfl)|exact rfl)) (hok:drawOk os.toArray (std ann) (l.map (·.1))=true:=by(decide+kernel))
  (h:R P os.toArray Q (std ann) w0 S n l L D H []):G P Q w0 S n (.region id os.toArray true) L D H:=
 G.drawBy l ann (fun p hp=>by subst hl;exact enumBy_get os ord p hp) hok h
end ops
end Go.SL
namespace Go.SL
open Go.RowKit Go.MapKept
theorem ad4 (a n:Nat):a+n*1=a+n:=by omega
structure Ent (K:Type) where
 key:K
 val:Value
 born:Nat
def Ent.obj {K:Type} (mk:K→Value) (e:Ent K):MapEntry:={key:=mk e.key,val:=e.val,born:=e.born}
def mrow {K:Type} (mk:K→Value) (es:List (Ent K)) (ck:Nat):Obj:= .map (es.map (Ent.obj mk)).toArray ck
def ikey (i:Int):Value:= .int .i64 i
def pkey (b:Nat):Value:= .pointer (some ⟨b,0,none⟩)
def findE {K:Type} [DecidableEq K] (k:K):List (Ent K)→Nat→Option (Nat×Value)
 |[],_=>none
 |e::es,i=>if k=e.key then some (i,e.val) else findE k es (i+1)
theorem find_int {k:Int}:∀(es:List (Ent Int)) (i:Nat),Instr.findNow (.int .i64) (ikey k) (es.map (Ent.obj ikey)) i=some (findE k es i)
 |[],_=>rfl
 |e::es,i=>by
  simp only[List.map_cons,Instr.findNow,Ent.obj,ikey,Instr.sameNow,if_true,findE]
  by_cases h:k=e.key
  ·simp[h]
  ·have:(k==e.key)=false:=by simpa using h
   simp only[this,h,if_false]
   exact find_int es (i+1)
class PtrKey (P:Program) (T:TypeId):Prop where
 und:∃e sz,P.underlying T=some (.pointer e)∧sz≠0∧∀w,(sizeOf e).run P w= .ok sz w
theorem run_equal_ptr {P:Program} {T:TypeId} [hp:PtrKey P T] {w:World} {a b:Nat} {ca cb:List Value} {ta tb:TypeId} (ha:w.heap[a]? =some (row ca ta)) (hb:w.heap[b]? =some (row cb tb)):
  (Op.equal T (pkey a) (pkey b)).run P w= .ok (decide (a=b)) w:=by
 obtain⟨e,sz,h1,h2,h3⟩:=hp.und
 unfold Op.equal Op.maxDepth Op.equalIn
 simp only[Sem.run_bind,run_underlying h1,Result.andThen,pkey,h3,h2,ne_eq,not_false_eq_true,if_true]
 by_cases h:a=b
 ·subst h
  simp[run_sameAddr_same]
 ·have:=run_sameAddr_other (P:=P) (w:=w) (a:=⟨a,0,none⟩) (b:=⟨b,0,none⟩) (ca:=ca.toArray) (cb:=cb.toArray) (by simp[h]) ha hb
  simp[this,h]
theorem find_ptr {P:Program} {T:TypeId} [hp:PtrKey P T] {w:World} {k:Nat} (hk:∃cs t,w.heap[k]? =some (row cs t)):∀(es:List (Ent Nat)),(∀e∈es,∃cs t,w.heap[e.key]? =some (row cs t))→
  (Instr.findKey T (pkey k) (es.map (Ent.obj pkey))).run P w= .ok (findE k es 0) w:=by
 intro es hks
 have ask:∀(es:List (Ent Nat)) (i:Nat),(∀e∈es,∃cs t,w.heap[e.key]? =some (row cs t))→(Instr.findAsking T (pkey k) (es.map (Ent.obj pkey)) i).run P w= .ok (findE k es i) w:=by
  intro es
  induction es with
  |nil=>intro i _;simp[Instr.findAsking,findE]
  |cons e es ih=>
   intro i h
   obtain⟨ck,tk,hk'⟩:=hk
   obtain⟨ce,te,he⟩:=h e List.mem_cons_self
   have:=run_equal_ptr (P:=P) (T:=T) hk' he
   simp only[List.map_cons,Instr.findAsking,Ent.obj,Sem.run_bind,this,Result.andThen,findE]
   by_cases hh:k=e.key
   ·simp[hh]
   ·simp only[hh,decide_false,Bool.false_eq_true,if_false]
    exact ih (i+1) fun e he=>h e (List.mem_cons_of_mem _ he)
 obtain⟨e,sz,h1,h2,h3⟩:=hp.und
 unfold Instr.findKey
 simp only[Sem.run_bind,run_underlying h1,Result.andThen]
 cases es with
 |nil=>simp[Instr.findNow,findE]
 |cons e es=>simp only[List.map_cons,Instr.findNow,Ent.obj,pkey,Instr.sameNow];exact ask (e::es) 0 hks
theorem St.flat {w0 w:World} {S:List Nat} {H H2:Hp} (h:St w0 S w H) (he:H.flatten=H2.flatten):St w0 S w H2:=h.perm (by rw[he])
theorem Ct.conv {P:Program} {f:FuncId} {args:List Value} {H H2:Hp} {R R2:Value→Hp→Prop} (h:Ct P f args H2 R2) (he:H.flatten=H2.flatten)
  (hr:∀v H',R2 v H'→∃H'',R v H''∧H'.flatten.Perm H''.flatten):Ct P f args H R:=by
 unfold Ct at h⊢
 intro w hw
 have hk:keys H=keys H2:=by unfold keys;rw[he]
 rw[hk] at hw⊢
 refine(h w (hw.flat he)).mono fun e w' ⟨v,H',h1,h2,h3⟩=> ?_
 obtain⟨H'',h4,h5⟩:=hr v H' h2
 exact⟨v,H'',h1,h4,h3.perm h5⟩
theorem CtQ.conv {P:Program} {f:FuncId} {args:List Value} {H H2:Hp} {v:Value} (h:CtQ P f args H2 v) (he:H.flatten=H2.flatten):CtQ P f args H v:=
 Ct.conv h he fun _ _ ⟨h1,h2⟩=>⟨H,⟨h1,rfl⟩,by rw[h2,he]⟩
section ops
variable {P:Program} {ops:Array Oper} {Q:Exit→Act→World→Prop} {cls:Nat→Oper→Cls} {w0:World} {S:List Nat} {n:Nat}
variable {k:Nat} {l:List (Nat×Oper)} {L:Slots} {D:List Deferred} {H:Hp} {qs:List Rd}
variable {d:Nat} {ty:TypeId} {pos:String} {af:Array Edge} {g:Option (Nat×Bool)}
theorem R1.nodup {o:Oper} {cr:List Nat} (hc:cls k o= .eff cr) (h:(keys H).Nodup→R1 P ops Q cls w0 S n k o l L D H qs):R1 P ops Q cls w0 S n k o l L D H qs:=by
 unfold R1 at h⊢
 intro hl a hf hD hwt
 have ho:=hl _ List.mem_cons_self
 unfold W
 simp only[ho,hwt,if_true,hc]
 intro w F hw
 have:=h hw.subl.nodup hl a hf hD hwt
 unfold W at this
 simp only[ho,hwt,if_true,hc] at this
 exact this w F hw
def KeyAsk (P:Program) (w0:World) (S:List Nat) (H:Hp) (T:TypeId) {K:Type} [DecidableEq K] (mk:K→Value) (key:K) (es:List (Ent K)):Prop:=
 ∀u S0 w,St u S0 w H→(∀b,(Instr.checkKey b 10000 T (mk key)).run P w= .ok () w)∧(Instr.findKey T (mk key) (es.map (Ent.obj mk))).run P w= .ok (findE key es 0) w∧Instr.sameBits 10000 (mk key) (mk key)=true
theorem KeyAsk.int {T:TypeId} {kk:IntKind} [hT:IntT P T kk] {key:Int} {es:List (Ent Int)} (hkk:kk= .i64):KeyAsk P w0 S H T ikey key es:=by
 subst hkk
 intro _ _ w _
 refine⟨fun b=>run_checkKey hT.und (by simp[IsKey,ikey]) b 9999,run_findKey hT.und (find_int es 0),by simp[Instr.sameBits,ikey]⟩
theorem KeyAsk.ptr {T:TypeId} [hp:PtrKey P T] {key:Nat} {es:List (Ent Nat)} (hk:∃cs t,Has key (row cs t) H) (hks:∀e∈es,∃cs t,Has e.key (row cs t) H):KeyAsk P w0 S H T pkey key es:=by
 intro _ _ w hw
 obtain⟨cs,t,hk⟩:=hk
 refine⟨fun b=> ?_,find_ptr ⟨cs,t,hk.st hw⟩ es (fun e he=> ?_),by simp[Instr.sameBits,pkey]⟩
 ·obtain⟨e,sz,h1,_,_⟩:=hp.und
  unfold Instr.checkKey
  simp only[Sem.run_bind,run_underlying h1,Result.andThen,pkey]
  rfl
 ·obtain⟨cs,t,h⟩:=hks e he
  exact⟨cs,t,h.st hw⟩
variable {K:Type} [DecidableEq K] {mk:K→Value} {key:K} {es:List (Ent K)} {ck bm:Nat} {T KT ET:TypeId}
theorem run_getObj_m {w:World} {r:Nat} {em:Array MapEntry} {c:Nat} (h:w.heap[r]? =some (.map em c)):(getObj r).run P w= .ok (.map em c) w:=by simp[getObj,Sem.run,h]
theorem R.lookupT [hT:MapT P T KT ET] {x y:Operand} {i:Nat} {v:Value} (hx:ev L x=some (.map (some bm))) (hh:Has bm (mrow mk es ck) H) (hy:ev L y=some (mk key)) (hq:KeyAsk P w0 S H KT mk key es)
  (hf:findE key es 0=some (i,v)) (hc:cls k ⟨some d,.lookup T x y true,ty,pos,af,g⟩= .eff []) (hn:d<n)
  (h:R P ops Q cls w0 S n l ((d,.tuple #[v,.bool true])::L) D H qs):R1 P ops Q cls w0 S n k ⟨some d,.lookup T x y true,ty,pos,af,g⟩ l L D H qs:=by
 refine R1.effStep hc hn fun a w w0 S hfr hst=> ?_
 obtain⟨q1,q2,_⟩:=hq _ _ w hst
 have hb:=hh.st hst
 have:(execOp a.eval ⟨some d,.lookup T x y true,ty,pos,af,g⟩).run P w= .ok (.value (.tuple #[v,.bool true])) w:=by
  simp[execOp,hfr.eval hx,hfr.eval hy,Instr.lookup,run_underlying hT.und,run_getObj_m hb,mrow,q1,q2,hf]
 simp only[OpOk,this]
 exact⟨H,hst,(by intro _ _ h;cases h),h⟩
def setE (key:K) (v:Value) (es:List (Ent K)) (ck:Nat):List (Ent K)×Nat:=
 match findE key es 0 with
 |some (i,_)=>(es.modify i fun e=>{e with val:=v},ck)
 |none=>(es++[⟨key,v,ck⟩],ck+1)
theorem St.setMap {w:World} {b:Nat} {o o':Obj} (h:St w0 S w ([(b,o)]::H)):St w0 S {w with heap:=w.heap.setIfInBounds b o'} ([(b,o')]::H):=by
 have hb:w.heap[b]? =some o:=h.sat (b,o) (by simp)
 have h2:=heap_set (o':=o') hb
 exact h.set (by simp) h2.1 h2.2 rfl rfl rfl
theorem findE_get:∀{es:List (Ent K)} {j i:Nat} {v:Value},findE key es j=some (i,v)→j≤i∧∃e,es[i-j]? =some e∧e.key=key∧e.val=v
 |[],_,_,_,h=>by cases h
 |e::es,j,i,v,h=>by
  unfold findE at h
  split at h
  ·rename_i hk
   simp only[Option.some.injEq,Prod.mk.injEq] at h
   obtain⟨rfl,rfl⟩:=h
   exact⟨Nat.le_refl _,e,by simp,hk.symm,rfl⟩
  ·obtain⟨h1,e',h2,h3,h4⟩:=findE_get h
   refine⟨by omega,e',?_,h3,h4⟩
   rw[show i-j=(i-(j+1))+1 by omega,List.getElem?_cons_succ]
   exact h2
theorem R.mapUpdate [hT:MapT P T KT ET] {x y z:Operand} {v:Value} {es':List (Ent K)} {ck':Nat} {H':Hp} (hx:ev L x=some (.map (some bm))) (hh:Has bm (mrow mk es ck) H) (hy:ev L y=some (mk key)) (hz:ev L z=some v) (hq:KeyAsk P w0 S H KT mk key es)
  (hs:setE key v es ck=(es',ck')) (hu:Upd bm (mrow mk es ck) (mrow mk es' ck') H H') (hc:cls k ⟨none,.mapUpdate T x y z,ty,pos,af,g⟩= .eff [])
  (h:R P ops Q cls w0 S n l L D H' qs):R1 P ops Q cls w0 S n k ⟨none,.mapUpdate T x y z,ty,pos,af,g⟩ l L D H qs:=by
 refine R1.effStep hc trivial fun a w w0 S hfr hst=> ?_
 obtain⟨q1,q2,q3⟩:=hq _ _ w hst
 obtain rfl:(setE key v es ck).1=es':=by rw[hs]
 obtain rfl:(setE key v es ck).2=ck':=by rw[hs]
 unfold Upd Take at hu
 obtain⟨F,t1,t2⟩:=hu
 have e1:St w0 S w ([(bm,mrow mk es ck)]::F):=hst.perm (by simpa using t1)
 have hb:w.heap[bm]? =some (mrow mk es ck):=e1.sat (bm,mrow mk es ck) (by simp)
 have hst':St w0 S {w with heap:=w.heap.setIfInBounds bm (mrow mk (setE key v es ck).1 (setE key v es ck).2)} H':=(e1.setMap).perm (by simpa using t2.symm)
 have hset:∀o,(setObj bm o).run P w= .ok () {w with heap:=w.heap.setIfInBounds bm o}:=fun o=>run_setObj_map o hb
 have:(execOp a.eval ⟨none,.mapUpdate T x y z,ty,pos,af,g⟩).run P w= .ok .skip {w with heap:=w.heap.setIfInBounds bm (mrow mk (setE key v es ck).1 (setE key v es ck).2)}:=by
  unfold setE
  cases hf:findE key es 0 with
  |none=>
   simp[execOp,hfr.eval hx,hfr.eval hy,hfr.eval hz,Instr.mapUpdate,run_underlying hT.und,run_getObj_m hb,mrow,q1,q2,hf,hset,Ent.obj]
  |some r=>
   obtain⟨i,u⟩:=r
   obtain⟨_,e,he,hke,_⟩:=findE_get hf
   rw[Nat.sub_zero] at he
   have hmod:((es.map (Ent.obj mk)).toArray.modify i fun e=>{e with key:=mk key,val:=v})=((es.modify i fun e=>{e with val:=v}).map (Ent.obj mk)).toArray:=by
    apply Array.ext'
    apply List.ext_getElem?
    intro j
    simp only[Array.getElem?_toList,Array.getElem?_modify,List.getElem?_toArray,List.getElem?_map,List.getElem?_modify]
    by_cases hj:i=j
    ·subst hj
     simp[he,Ent.obj,hke]
    ·simp[hj]
   have hkey:(((es.map (Ent.obj mk)).toArray[i]?).map (·.key)).getD (mk key)=mk key:=by
    simp[he,Ent.obj,hke]
   simp[execOp,hfr.eval hx,hfr.eval hy,hfr.eval hz,Instr.mapUpdate,run_underlying hT.und,run_getObj_m hb,mrow,q1,q2,hf,hset,Instr.keyThatStays,he,Ent.obj,hke,q3]
   exact congrArg (fun l=>w.heap.setIfInBounds bm (Obj.map (List.toArray l) ck)) (by simpa[Ent.obj] using hmod)
 simp only[OpOk,this]
 exact⟨H',hst',(by intro _ _ h;cases h),h⟩
def delE (key:K) (es:List (Ent K)):List (Ent K):=
 match findE key es 0 with
 |some (i,_)=>es.eraseIdx i
 |none=>es
theorem R.delete [hT:MapT P T KT ET] {x y:Operand} {kt:TypeId} {es':List (Ent K)} {H':Hp} (hx:ev L x=some (.map (some bm))) (hh:Has bm (mrow mk es ck) H) (hy:ev L y=some (mk key)) (hq:KeyAsk P w0 S H KT mk key es)
  (hs:delE key es=es') (hu:Upd bm (mrow mk es ck) (mrow mk es' ck) H H') (hc:cls k ⟨none,.call ⟨.builtin .delete,#[x,y],#[T,kt]⟩,ty,pos,af,g⟩= .eff [])
  (h:R P ops Q cls w0 S n l L D H' qs):R1 P ops Q cls w0 S n k ⟨none,.call ⟨.builtin .delete,#[x,y],#[T,kt]⟩,ty,pos,af,g⟩ l L D H qs:=by
 refine R1.effStep hc trivial fun a w w0 S hfr hst=> ?_
 obtain⟨q1,q2,q3⟩:=hq _ _ w hst
 subst hs
 unfold Upd Take at hu
 obtain⟨F,t1,t2⟩:=hu
 have e1:St w0 S w ([(bm,mrow mk es ck)]::F):=hst.perm (by simpa using t1)
 have hb:w.heap[bm]? =some (mrow mk es ck):=e1.sat (bm,mrow mk es ck) (by simp)
 have hst':St w0 S {w with heap:=w.heap.setIfInBounds bm (mrow mk (delE key es) ck)} H':=(e1.setMap).perm (by simpa using t2.symm)
 have hset:∀o,(setObj bm o).run P w= .ok () {w with heap:=w.heap.setIfInBounds bm o}:=fun o=>run_setObj_map o hb
 have:(execOp a.eval ⟨none,.call ⟨.builtin .delete,#[x,y],#[T,kt]⟩,ty,pos,af,g⟩).run P w= .ok (.value (.tuple #[])) {w with heap:=w.heap.setIfInBounds bm (mrow mk (delE key es) ck)}:=by
  unfold delE
  cases hf:findE key es 0 with
  |none=>simp[execOp,resolve,invoke,Go.builtin,hfr.eval hx,hfr.eval hy,Builtin.delete_,run_underlying hT.und,run_getObj_m hb,mrow,q1,q2,hf,hset]
  |some r=>
   obtain⟨i,u⟩:=r
   obtain⟨_,e,he,_,_⟩:=findE_get hf
   rw[Nat.sub_zero] at he
   have hi:i<es.length:=(List.getElem?_eq_some_iff.1 he).1
   have herase:(es.map (Ent.obj mk)).toArray.eraseIdxIfInBounds i=((es.eraseIdx i).map (Ent.obj mk)).toArray:=by
    apply Array.ext'
    apply List.ext_getElem?
    intro j
    simp[Array.eraseIdxIfInBounds,hi,List.getElem?_eraseIdx]
    split<;>rfl
   simp[execOp,resolve,invoke,Go.builtin,hfr.eval hx,hfr.eval hy,Builtin.delete_,run_underlying hT.und,run_getObj_m hb,mrow,q1,q2,hf,hset]
   exact congrArg (fun l=>w.heap.setIfInBounds bm (Obj.map (List.toArray l) ck)) (by simpa using herase)
 simp only[OpOk,this]
 exact⟨H',hst',(by intro _ _ h;cases h),h⟩
theorem R.makeMap [hT:MapT P T KT ET] {rz:Option Operand} (hr:∀x,rz=some x→∃kk m,ev L x=some (.int kk m):=by((intro _ h;cases h))) (hc:cls k ⟨some d,.makeMap T rz,ty,pos,af,g⟩= .grow:=by exact rfl) (hn:d<n:=by exact nle rfl)
  (h:∀b,R P ops Q cls w0 S n l ((d,.map (some b))::L) D ([(b,.map #[] 0)]::H) qs):R1 P ops Q cls w0 S n k ⟨some d,.makeMap T rz,ty,pos,af,g⟩ l L D H qs:=
 R1.growStep (mk:=fun b=> .map (some b)) (ob:= .map #[] 0) hc rfl hn (fun a hf w=>by
  cases rz with
  |none=>simp[execOp,Instr.makeMap]
  |some x=>
   obtain⟨kk,m,hx⟩:=hr x rfl
   simp[execOp,Instr.makeMap,hf.eval hx,run_underlying hT.und,asInt,asIntOf]) h
theorem madeCells_zrep {zs:List Value} (m:Nat) (hz:0<zs.length):madeCells zs.toArray (m*zs.length)=(zrep m zs).toArray:=by
 rw[←zero_row m zs hz]
 rfl
theorem R.makeSlice {T E sz bytes:Nat} {zs:List Value} [ht:SliceT P T E sz] [he:ElemT P E sz bytes zs] {x y:Operand} {kx ky:IntKind} {a b:Int} (hx:ev L x=some (.int kx a):=by exact rfl) (hy:ev L y=some (.int ky b):=by exact rfl)
  (h0:0≤a∧a≤b:=by((first|omega|(constructor<;>omega)|(refine⟨?_,?_,?_⟩<;>omega)|(refine⟨?_,?_,?_,?_⟩<;>omega)))) (hb:(bytes:Int)*b≤281474976710656∧b≤9223372036854775807:=by((first|omega|(constructor<;>omega)|(refine⟨?_,?_,?_⟩<;>omega)|(refine⟨?_,?_,?_,?_⟩<;>omega)))) (hz:zs.length=sz:=by exact rfl) (hpos:0<sz:=by exact nle rfl) {m m':Nat} (hm:a.toNat=m:=by((first|(with_reducible exact Int.toNat_natCast _)|assumption|exact rfl))) (hm':b.toNat=m':=by((first|(with_reducible exact Int.toNat_natCast _)|assumption|exact rfl)))
  (hc:cls k ⟨some d,.makeSlice T x y,ty,pos,af,g⟩= .grow:=by exact rfl) (hn:d<n:=by exact nle rfl)
  (h:∀bl,R P ops Q cls w0 S n l ((d,.slice (some ⟨bl,0,none⟩) m m')::L) D ([(bl,row (zrep m' zs) E)]::H) qs):R1 P ops Q cls w0 S n k ⟨some d,.makeSlice T x y,ty,pos,af,g⟩ l L D H qs:=
 R1.growStep (mk:=fun bl=> .slice (some ⟨bl,0,none⟩) m m') (ob:=row (zrep m' zs) E) hc rfl hn (fun ac hf w=>by
  obtain⟨i,z,e1,e2,e3,e4,e5⟩:=he.get
  have hr:=run_make (P:=P) w T E i z ht.und e1 e4 kx ky a b h0.1 h0.2 (by rw[e3];exact hb.1) hb.2
  rw[e5,e2,hm,hm',←hz,madeCells_zrep m' (by omega)] at hr
  have hr2:(Instr.makeSlice T (ac.eval x) (ac.eval y)).run P w= .ok (.slice (some ⟨w.heap.size,0,none⟩) m m') {w with heap:=w.heap.push (row (zrep m' zs) E)}:=by
   rw[hf.eval hx,hf.eval hy];exact hr
  simp only[execOp,Sem.run_bind,hr2,Result.andThen_ok,Sem.run_pure]) h
theorem run_sliceAtS {T E sz:Nat} [ht:SliceT P T E sz] {w:World} {a:Option Addr} {len cap:Nat} {lo hi mx:Option Value} {r:Nat×Nat×Nat} (hb:(Instr.sliceBounds true len cap lo hi mx).run P w= .ok r w):
  (Instr.sliceAt T (.slice a len cap) lo hi mx).run P w= .ok (.slice (if r.2.2=r.1 then a else a.map (·.add (r.1*sz))) (r.2.1-r.1) (r.2.2-r.1)) w:=by
 simp[Instr.sliceAt,Instr.slice,run_underlying ht.und,hb,ht.size]
theorem addr_add_zero (a:Addr):a.add 0=a:=by unfold Addr.add;simp
theorem R.sliceH {T E sz:Nat} [ht:SliceT P T E sz] {x y:Operand} {a:Option Addr} {len cap m:Nat} {ky:IntKind} {b:Int} (hx:ev L x=some (.slice a len cap):=by exact rfl) (hy:ev L y=some (.int ky b):=by exact rfl)
  (hb:0≤b∧b≤(cap:Int):=by((first|omega|(constructor<;>omega)|(refine⟨?_,?_,?_⟩<;>omega)|(refine⟨?_,?_,?_,?_⟩<;>omega)))) (hm:b.toNat=m:=by((first|(with_reducible exact Int.toNat_natCast _)|assumption|exact rfl))) (hc:cls k ⟨some d,.slice T x none (some y) none,ty,pos,af,g⟩= .pure:=by exact rfl) (hn:d<n:=by exact nle rfl)
  (h:R P ops Q cls w0 S n l ((d,.slice a m cap)::L) D H qs):R1 P ops Q cls w0 S n k ⟨some d,.slice T x none (some y) none,ty,pos,af,g⟩ l L D H qs:=
 R1.pureStep hc rfl hn (fun ac hf w=>by
  have hr:(Instr.sliceBounds true len cap none (some (.int ky b)) none).run P w= .ok (0,m,cap) w:=by
   simp[Instr.sliceBounds,run_sliceBound,hb.1,hb.2,hm]
  have:=run_sliceAtS (P:=P) (T:=T) (a:=a) hr
  have e:(if cap=0 then a else a.map fun x=>x.add (0*sz))=a:=by
   split
   ·rfl
   ·cases a<;>simp[addr_add_zero]
  simp only[Nat.sub_zero,e] at this
  simp[execOp,hf.eval hx,hf.eval hy,this]) h
theorem R.sliceLH {T E sz:Nat} [ht:SliceT P T E sz] {x y z:Operand} {bl p len cap i m q:Nat} {ky kz:IntKind} {a b:Int} (hx:ev L x=some (.slice (some ⟨bl,p,none⟩) len cap):=by exact rfl) (hy:ev L y=some (.int ky a):=by exact rfl) (hz:ev L z=some (.int kz b):=by exact rfl)
  (hb:0≤a∧a≤b∧b≤(cap:Int)∧a<(cap:Int):=by((first|omega|(constructor<;>omega)|(refine⟨?_,?_,?_⟩<;>omega)|(refine⟨?_,?_,?_,?_⟩<;>omega)))) (hi:a.toNat=i:=by((first|(with_reducible exact Int.toNat_natCast _)|assumption|exact rfl))) (hm:b.toNat=m:=by((first|(with_reducible exact Int.toNat_natCast _)|assumption|exact rfl))) (hq:p+i*sz=q:=by((first|exact ad1 _|exact ad4 _ _|exact Nat.zero_add _|exact Nat.add_zero _|exact ad2 _ _|exact ad3 _ _|(simp only[Nat.reduceAdd];done)|exact rfl))) (hc:cls k ⟨some d,.slice T x (some y) (some z) none,ty,pos,af,g⟩= .pure:=by exact rfl) (hn:d<n:=by exact nle rfl)
  (h:R P ops Q cls w0 S n l ((d,.slice (some ⟨bl,q,none⟩) (m-i) (cap-i))::L) D H qs):R1 P ops Q cls w0 S n k ⟨some d,.slice T x (some y) (some z) none,ty,pos,af,g⟩ l L D H qs:=
 R1.pureStep hc rfl hn (fun ac hf w=>by
  obtain⟨h1,h2,h3,h4⟩:=hb
  have e1:(b.toNat:Int)=b:=Int.toNat_of_nonneg (by omega)
  have h5:0≤b:=by omega
  have hr:(Instr.sliceBounds true len cap (some (.int ky a)) (some (.int kz b)) none).run P w= .ok (i,m,cap) w:=by
   subst hi hm
   simp[Instr.sliceBounds,run_sliceBound,h1,h2,h3,e1,h5]
  have:=run_sliceAtS (P:=P) (T:=T) (a:=some ⟨bl,p,none⟩) hr
  simp only[show¬(cap=i) by omega,if_false,Option.map_some,Addr.add_mk,hq] at this
  simp[execOp,hf.eval hx,hf.eval hy,hf.eval hz,this]) h
theorem R.sliceL {T E sz:Nat} [ht:SliceT P T E sz] {x y:Operand} {bl p len cap i q:Nat} {ky:IntKind} {a:Int} (hx:ev L x=some (.slice (some ⟨bl,p,none⟩) len cap):=by exact rfl) (hy:ev L y=some (.int ky a):=by exact rfl)
  (hb:0≤a∧a≤(len:Int)∧a<(cap:Int):=by((first|omega|(constructor<;>omega)|(refine⟨?_,?_,?_⟩<;>omega)|(refine⟨?_,?_,?_,?_⟩<;>omega)))) (hi:a.toNat=i:=by((first|(with_reducible exact Int.toNat_natCast _)|assumption|exact rfl))) (hq:p+i*sz=q:=by((first|exact ad1 _|exact ad4 _ _|exact Nat.zero_add _|exact Nat.add_zero _|exact ad2 _ _|exact ad3 _ _|(simp only[Nat.reduceAdd];done)|exact rfl))) (hc:cls k ⟨some d,.slice T x (some y) none none,ty,pos,af,g⟩= .pure:=by exact rfl) (hn:d<n:=by exact nle rfl)
  (h:R P ops Q cls w0 S n l ((d,.slice (some ⟨bl,q,none⟩) (len-i) (cap-i))::L) D H qs):R1 P ops Q cls w0 S n k ⟨some d,.slice T x (some y) none none,ty,pos,af,g⟩ l L D H qs:=
 R1.pureStep hc rfl hn (fun ac hf w=>by
  obtain⟨h1,h2,h3⟩:=hb
  have hr:(Instr.sliceBounds true len cap (some (.int ky a)) none none).run P w= .ok (i,len,cap) w:=by
   simp[Instr.sliceBounds,run_sliceBound,h1,h2,hi]
  have:=run_sliceAtS (P:=P) (T:=T) (a:=some ⟨bl,p,none⟩) hr
  simp only[show¬(cap=i) by omega,if_false,Option.map_some,Addr.add_mk,hq] at this
  simp[execOp,hf.eval hx,hf.eval hy,this]) h
theorem R.slice3 {T E sz:Nat} [ht:SliceT P T E sz] {x y z:Operand} {a:Option Addr} {len cap m m':Nat} {ky kz:IntKind} {b c:Int} (hx:ev L x=some (.slice a len cap):=by exact rfl) (hy:ev L y=some (.int ky b):=by exact rfl) (hz:ev L z=some (.int kz c):=by exact rfl)
  (hb:0≤b∧b≤c∧c≤(cap:Int):=by((first|omega|(constructor<;>omega)|(refine⟨?_,?_,?_⟩<;>omega)|(refine⟨?_,?_,?_,?_⟩<;>omega)))) (hm:b.toNat=m:=by((first|(with_reducible exact Int.toNat_natCast _)|assumption|exact rfl))) (hm':c.toNat=m':=by((first|(with_reducible exact Int.toNat_natCast _)|assumption|exact rfl))) (hc:cls k ⟨some d,.slice T x none (some y) (some z),ty,pos,af,g⟩= .pure:=by exact rfl) (hn:d<n:=by exact nle rfl)
  (h:R P ops Q cls w0 S n l ((d,.slice a m m')::L) D H qs):R1 P ops Q cls w0 S n k ⟨some d,.slice T x none (some y) (some z),ty,pos,af,g⟩ l L D H qs:=
 R1.pureStep hc rfl hn (fun ac hf w=>by
  obtain⟨h1,h2,h3⟩:=hb
  have e1:(c.toNat:Int)=c:=Int.toNat_of_nonneg (by omega)
  have h5:0≤c:=by omega
  have hr:(Instr.sliceBounds true len cap none (some (.int ky b)) (some (.int kz c))).run P w= .ok (0,m,m') w:=by
   subst hm hm'
   simp[Instr.sliceBounds,run_sliceBound,h1,h2,h3,e1,h5]
  have:=run_sliceAtS (P:=P) (T:=T) (a:=a) hr
  have e:(if m'=0 then a else a.map fun x=>x.add (0*sz))=a:=by
   split
   ·rfl
   ·cases a<;>simp[addr_add_zero]
  simp only[Nat.sub_zero,e] at this
  simp[execOp,hf.eval hx,hf.eval hy,hf.eval hz,this]) h
theorem R.eqlNilS {T E sz:Nat} [ho:SliceT P T E sz] {x y:Operand} {yt:TypeId} {p:Option Addr} {m c:Nat} (hx:ev L x=some (.slice p m c):=by exact rfl) (hy:ev L y=some (.slice none 0 0):=by exact rfl)
  (hc:cls k ⟨some d,.binOp .eql T x y yt,ty,pos,af,g⟩= .pure:=by exact rfl) (hn:d<n:=by exact nle rfl)
  (h:R P ops Q cls w0 S n l ((d,.bool p.isNone)::L) D H qs):R1 P ops Q cls w0 S n k ⟨some d,.binOp .eql T x y yt,ty,pos,af,g⟩ l L D H qs:=
 R1.pureStep hc rfl hn (fun a hf w=>by
  have h1:=run_equal_slice_nil (P:=P) w T E p m c ho.und
  simp[execOp,hf.eval hx,hf.eval hy,eqGuard,binOp,h1]) h
theorem R.buildSlice0 {T E sz:Nat} [ht:SliceT P T E sz] (hc:cls k ⟨some d,.buildSlice T 0 #[],ty,pos,af,g⟩= .grow:=by exact rfl) (hn:d<n:=by exact nle rfl)
  (h:∀b,R P ops Q cls w0 S n l ((d,.slice (some ⟨b,0,none⟩) 0 0)::L) D ([(b,row [] E)]::H) qs):R1 P ops Q cls w0 S n k ⟨some d,.buildSlice T 0 #[],ty,pos,af,g⟩ l L D H qs:=
 R1.growStep (mk:=fun b=> .slice (some ⟨b,0,none⟩) 0 0) (ob:=row [] E) hc rfl hn (fun a hfr w=>by
  have hsz:=ht.size w
  simp[execOp,Instr.buildSlice,run_underlying ht.und,hsz,Instr.fill,newRow,row]
  rw[show(Array.range 0).map (fun _=>(default:Value))= #[] from Array.eq_empty_of_size_eq_zero (by simp)]) h
theorem setL_eq:∀(vs cs:List Value) (o:Nat),o+vs.length≤cs.length→setL cs o vs=cs.take o++vs++cs.drop (o+vs.length)
 |[],cs,o,_=>by simp[setL]
 |v::vs,cs,o,h=>by
  simp only[List.length_cons] at h
  rw[setL,setL_eq vs (cs.set o v) (o+1) (by simp;omega)]
  apply List.ext_getElem?
  intro j
  have e1:min (o+1) cs.length=o+1:=by omega
  have e2:min o cs.length=o:=by omega
  simp only[List.append_assoc,List.getElem?_append,List.length_take,List.length_set,e1,e2,List.getElem?_take,List.getElem?_set,List.getElem?_drop,List.length_cons]
  by_cases h1:j<o
  ·rw[if_pos (by omega),if_pos (by omega),if_neg (by omega),if_pos h1,if_pos h1]
  ·by_cases h2:j=o
   ·subst h2
    rw[if_pos (by omega),if_pos (by omega),if_pos rfl,if_pos (by omega),if_neg h1,if_pos (by omega)]
    simp
   ·rw[if_neg (by omega),if_neg h1]
    have e4:j-o=(j-(o+1))+1:=by omega
    by_cases h3:j-(o+1)<vs.length
    ·rw[if_pos h3,if_pos (by omega),e4,List.getElem?_cons_succ]
    ·rw[if_neg h3,if_neg (by omega),if_neg (by omega)]
     congr 1;omega
theorem R.copy {T E bytes:Nat} {zs:List Value} [ht:SliceT P T E 1] [he:ElemT P E 1 bytes zs] {sT:TypeId} {x y:Operand} {gd o dl dc b q sl sc m:Nat} {cs cs' cs2 news:List Value} {E2:TypeId} {fz:Nat×Nat} {H':Hp}
  (hx:ev L x=some (.slice (some ⟨gd,o,none⟩) dl dc):=by exact rfl) (hy:ev L y=some (.slice (some ⟨b,q,none⟩) sl sc):=by exact rfl) (hb:Has b (rowf cs2 E2 fz) H:=by((repeat(first|exact Has.here|apply Has.there)))) (hm:Nat.min sl dl=m:=by((first|assumption|exact rfl)))
  (hnews:(cs2.drop q).take m=news:=by((first|assumption|(dsimp only[List.drop,List.take];try exact rfl)|exact rfl))) (hl:news.length=m:=by((first|assumption|exact rfl|(simp;done)))) (h1:news.all Value.oneCell'=true:=by((first|assumption|exact rfl))) (hu:Upd gd (row cs E) (row cs' E) H H':=by((repeat(first|exact Upd.here|apply Upd.there)))) (hs:setL cs o news=cs':=by((first|assumption|(dsimp only[setL,List.set,Value.cells,List.toList_toArray];try exact rfl)|exact rfl))) (hlt:o+m≤cs.length:=by((first|omega|decide|(simp;omega))))
  (hc:cls k ⟨some d,.call ⟨.builtin .copy,#[x,y],#[T,sT]⟩,ty,pos,af,g⟩= .eff []:=by exact rfl) (hn:d<n:=by exact nle rfl)
  (h:R P ops Q cls w0 S n l ((d,.int .i64 (m:Int))::L) D H' qs):R1 P ops Q cls w0 S n k ⟨some d,.call ⟨.builtin .copy,#[x,y],#[T,sT]⟩,ty,pos,af,g⟩ l L D H qs:=by
 refine R1.effStep hc hn fun a w w0 S hfr hst=> ?_
 obtain⟨i,z,e1,e2,_⟩:=he.get
 have hbl:=hb.st hst
 unfold Upd Take at hu
 obtain⟨F,t1,t2⟩:=hu
 have s1:St w0 S w ([(gd,row cs E)]::F):=hst.perm (by simpa using t1)
 have hg:w.heap[gd]? =some (row cs E):=s1.sat (gd,row cs E) (by simp)
 have hsrc:∀j v,news[j]? =some v→w.cell? ((⟨b,q,none⟩:Addr).add j)=some v:=by
  intro j v hv
  rw[Addr.add_mk,cell_of_row w b (q+j) cs2.toArray E2 fz hbl]
  rw[←hnews,List.getElem?_take] at hv
  split at hv
  ·simpa[List.getElem?_drop] using hv
  ·cases hv
 have hr:=run_copy_row (P:=P) w T sT ty E gd o dl dc ⟨b,q,none⟩ sl sc cs.toArray E news ht.und (by simp[e1,e2]) hg (by rw[hl,←hm]) hsrc (by simpa[hl] using hlt) (by simpa using h1)
 have e3:(cs.toArray.toList.take o++news++cs.toArray.toList.drop (o+news.length))=cs':=by rw[←hs,setL_eq news cs o (by omega)]
 rw[e3,hl] at hr
 have hst':St w0 S (w.setRow gd cs'.toArray) H':=(s1.setRow (by rw[←hs,length_setL])).perm (by simpa using t2.symm)
 have:(execOp a.eval ⟨some d,.call ⟨.builtin .copy,#[x,y],#[T,sT]⟩,ty,pos,af,g⟩).run P w= .ok (.value (.int .i64 (m:Int))) (w.setRow gd cs'.toArray):=by
  simp[execOp,resolve,invoke,Go.builtin,hfr.eval hx,hfr.eval hy,hr,goInt]
 simp only[OpOk,this]
 exact⟨H',hst',(by intro _ _ h;cases h),h⟩
end ops
end Go.SL
