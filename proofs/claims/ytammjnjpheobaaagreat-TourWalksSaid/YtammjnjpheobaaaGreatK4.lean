/-
  Parts of the proof, put together: Sl5, Sl6, Sl7, Sl8. No condition.
-/
import Derived.Laws.Externs
import Derived.Test.YtammjnjpheobaaaGreatK3
set_option linter.unusedVariables false
set_option linter.unusedSimpArgs false
set_option linter.unnecessarySimpa false
set_option maxHeartbeats 4000000
namespace Go.SL
open Go.RowKit
section ops
variable {P:Program} {ops:Array Oper} {Q:Exit→Act→World→Prop} {cls:Nat→Oper→Cls} {w0:World} {S:List Nat} {n:Nat}
variable {k:Nat} {l:List (Nat×Oper)} {L:Slots} {D:List Deferred} {H:Hp} {qs:List Rd}
variable {d:Nat} {ty:TypeId} {pos:String} {af:Array Edge} {g:Option (Nat×Bool)}
theorem R.copyN {T E sz bytes:Nat} {zs:List Value} [ht:SliceT P T E sz] [he:ElemT P E sz bytes zs] {sT:TypeId} {x y:Operand} {gd o dl dc b q sl sc m:Nat} {cs cs' cs2 news:List Value} {E2:TypeId} {fz:Nat×Nat} {H':Hp}
  (hx:ev L x=some (.slice (some ⟨gd,o,none⟩) dl dc):=by exact rfl) (hy:ev L y=some (.slice (some ⟨b,q,none⟩) sl sc):=by exact rfl) (hb:Has b (rowf cs2 E2 fz) H:=by((repeat(first|exact Has.here|apply Has.there)))) (hm:Nat.min sl dl=m:=by((first|assumption|exact rfl)))
  (hnews:(cs2.drop q).take (m*sz)=news:=by((first|assumption|(dsimp only[List.drop,List.take];try exact rfl)|exact rfl))) (hl:news.length=m*sz:=by((first|assumption|exact rfl|(simp;done)))) (h1:news.all Value.oneCell'=true:=by((first|assumption|exact rfl))) (hu:Upd gd (row cs E) (row cs' E) H H':=by((repeat(first|exact Upd.here|apply Upd.there)))) (hs:setL cs o news=cs':=by((first|assumption|(dsimp only[setL,List.set,Value.cells,List.toList_toArray];try exact rfl)|exact rfl))) (hlt:o+m*sz≤cs.length:=by((first|omega|assumption)))
  (hc:cls k ⟨some d,.call ⟨.builtin .copy,#[x,y],#[T,sT]⟩,ty,pos,af,g⟩= .eff []:=by exact rfl) (hn:d<n:=by exact nle rfl)
  (h:R P ops Q cls w0 S n l ((d,.int .i64 (m:Int))::L) D H' qs):R1 P ops Q cls w0 S n k ⟨some d,.call ⟨.builtin .copy,#[x,y],#[T,sT]⟩,ty,pos,af,g⟩ l L D H qs:=by
 refine R1.effStep hc hn fun a w w0 S hfr hst=> ?_
 obtain⟨i,z,e1,e2,_⟩:=he.get
 have hbl:=hb.st hst
 unfold Upd Take at hu
 obtain⟨F,t1,t2⟩:=hu
 have s1:St w0 S w ([(gd,row cs E)]::F):=hst.perm (by simpa using t1)
 have hg:w.heap[gd]? =some (row cs E):=s1.sat (gd,row cs E) (by simp)
 have hsrc:∀j v,news[j]? =some v→w.cell? ((⟨b,q,none⟩:Addr).add j)=some v:=by
  intro j v hv
  rw[Addr.add_mk,cell_of_row w b (q+j) cs2.toArray E2 fz hbl]
  rw[←hnews,List.getElem?_take] at hv
  split at hv
  ·simpa[List.getElem?_drop] using hv
  ·cases hv
 have hld:=run_loadCells_list (P:=P) w ⟨b,q,none⟩ news hsrc
 rw[hl] at hld
 have hstc:=run_storeCells_at P gd o E news 0 cs.toArray w hg (by simpa[hl] using hlt) (by simpa using h1)
 have e3:(cs.toArray.toList.take (o+0)++news++cs.toArray.toList.drop (o+0+news.length))=cs':=by rw[←hs,setL_eq news cs o (by omega)];rfl
 rw[e3] at hstc
 have hst':St w0 S (w.setRow gd cs'.toArray) H':=(s1.setRow (by rw[←hs,length_setL])).perm (by simpa using t2.symm)
 have:(execOp a.eval ⟨some d,.call ⟨.builtin .copy,#[x,y],#[T,sT]⟩,ty,pos,af,g⟩).run P w= .ok (.value (.int .i64 (m:Int))) (w.setRow gd cs'.toArray):=by
  have hsz:=ht.size w
  simp[execOp,resolve,invoke,Go.builtin,hfr.eval hx,hfr.eval hy,Builtin.copy_,run_underlying ht.und,Builtin.lenOf,Builtin.firstCells,hsz,hm,hld,hstc,goInt]
 simp only[OpOk,this]
 exact⟨H',hst',(by intro _ _ h;cases h),h⟩
theorem R.copy0 {T E sz:Nat} [ht:SliceT P T E sz] {sT:TypeId} {x y:Operand} {p p2:Option Addr} {dl dc sl sc:Nat}
  (hx:ev L x=some (.slice p dl dc):=by exact rfl) (hy:ev L y=some (.slice p2 sl sc):=by exact rfl) (hm:Nat.min sl dl=0:=by((first|assumption|exact Nat.zero_min _|exact Nat.min_zero _)))
  (hc:cls k ⟨some d,.call ⟨.builtin .copy,#[x,y],#[T,sT]⟩,ty,pos,af,g⟩= .eff []:=by exact rfl) (hn:d<n:=by exact nle rfl)
  (h:R P ops Q cls w0 S n l ((d,.int .i64 0)::L) D H qs):R1 P ops Q cls w0 S n k ⟨some d,.call ⟨.builtin .copy,#[x,y],#[T,sT]⟩,ty,pos,af,g⟩ l L D H qs:=by
 refine R1.effStep hc hn fun a w w0 S hfr hst=> ?_
 have:(execOp a.eval ⟨some d,.call ⟨.builtin .copy,#[x,y],#[T,sT]⟩,ty,pos,af,g⟩).run P w= .ok (.value (.int .i64 0)) w:=by
  have hsz:=ht.size w
  cases p<;>cases p2<;>simp[execOp,resolve,invoke,Go.builtin,hfr.eval hx,hfr.eval hy,Builtin.copy_,run_underlying ht.und,Builtin.lenOf,Builtin.firstCells,hsz,hm,goInt,loadCells,loadCellsFrom,storeCells]
 simp only[OpOk,this]
 exact⟨H,hst,(by intro _ _ h;cases h),h⟩
theorem R.clear {T E sz bytes:Nat} {zs:List Value} [ht:SliceT P T E sz] [he:ElemT P E sz bytes zs] {x:Operand} {gd o m dc:Nat} {cs cs':List Value} {H':Hp}
  (hx:ev L x=some (.slice (some ⟨gd,o,none⟩) m dc):=by exact rfl) (h0:0<m:=by((first|omega|assumption))) (hz:zs.length=sz:=by exact rfl) (hz0:0<sz:=by((exact nle rfl))) (h1:zs.all Value.oneCell'=true:=by exact rfl) (hu:Upd gd (row cs E) (row cs' E) H H':=by((repeat(first|exact Upd.here|apply Upd.there)))) (hs:setL cs o (zrep m zs)=cs':=by((first|assumption|(dsimp only[setL,List.set,Value.cells,List.toList_toArray];try exact rfl)|exact rfl))) (hlt:o+m*sz≤cs.length:=by((first|omega|assumption)))
  (hc:cls k ⟨none,.call ⟨.builtin .clear,#[x],#[T]⟩,ty,pos,af,g⟩= .eff []:=by exact rfl)
  (h:R P ops Q cls w0 S n l L D H' qs):R1 P ops Q cls w0 S n k ⟨none,.call ⟨.builtin .clear,#[x],#[T]⟩,ty,pos,af,g⟩ l L D H qs:=by
 refine R1.effStep hc trivial fun a w w0 S hfr hst=> ?_
 obtain⟨i,z,e1,e2,e3,e4,e5⟩:=he.get
 unfold Upd Take at hu
 obtain⟨F,t1,t2⟩:=hu
 have s1:St w0 S w ([(gd,row cs E)]::F):=hst.perm (by simpa using t1)
 have hg:w.heap[gd]? =some (row cs E):=s1.sat (gd,row cs E) (by simp)
 have hzr:(zeroValue E).run P w= .ok z w:=by simp[zeroValue,typeInfo,e1,e4]
 have hzl:(zrep m zs).length=m*sz:=by rw[zrep_length,hz]
 have hza:∀v∈zrep m zs,v.oneCell'=true:=by
  clear hs hzl hlt hx h0
  induction m with
  |zero=>intro v hv;cases hv
  |succ m ih=>
   intro v hv
   rcases List.mem_append.1 hv with hv|hv
   ·exact List.all_eq_true.1 h1 v hv
   ·exact ih v hv
 have hzc:(Builtin.zeroCells z.cells m).toList=zrep m zs:=by
  have:=zero_row m zs (by omega)
  rw[Builtin.zeroCells,e5]
  have e6:m*zs.toArray.size=m*zs.length:=by simp
  rw[e6,this]
 have hstc:=run_storeCells_at P gd o E (zrep m zs) 0 cs.toArray w hg (by simpa[hzl] using hlt) hza
 have e3:(cs.toArray.toList.take (o+0)++zrep m zs++cs.toArray.toList.drop (o+0+(zrep m zs).length))=cs':=by rw[←hs,setL_eq _ cs o (by omega)];rfl
 rw[e3] at hstc
 have hst':St w0 S (w.setRow gd cs'.toArray) H':=(s1.setRow (by rw[←hs,length_setL])).perm (by simpa using t2.symm)
 have:(execOp a.eval ⟨none,.call ⟨.builtin .clear,#[x],#[T]⟩,ty,pos,af,g⟩).run P w= .ok (.value (.tuple #[])) (w.setRow gd cs'.toArray):=by
  cases m with
  |zero=>omega
  |succ m=>simp[execOp,resolve,invoke,Go.builtin,hfr.eval hx,Builtin.clear_,run_underlying ht.und,hzr,hzc,hstc]
 simp only[OpOk,this]
 exact⟨H',hst',(by intro _ _ h;cases h),h⟩
theorem R.clear0 {T E sz:Nat} [ht:SliceT P T E sz] {x:Operand} {p:Option Addr} {m dc:Nat}
  (hx:ev L x=some (.slice p m dc):=by exact rfl) (hm:m=0:=by((first|omega|assumption))) (hc:cls k ⟨none,.call ⟨.builtin .clear,#[x],#[T]⟩,ty,pos,af,g⟩= .eff []:=by exact rfl)
  (h:R P ops Q cls w0 S n l L D H qs):R1 P ops Q cls w0 S n k ⟨none,.call ⟨.builtin .clear,#[x],#[T]⟩,ty,pos,af,g⟩ l L D H qs:=by
 subst hm
 refine R1.effStep hc trivial fun a w w0 S hfr hst=> ?_
 have:(execOp a.eval ⟨none,.call ⟨.builtin .clear,#[x],#[T]⟩,ty,pos,af,g⟩).run P w= .ok (.value (.tuple #[])) w:=by
  cases p<;>simp[execOp,resolve,invoke,Go.builtin,hfr.eval hx,Builtin.clear_,run_underlying ht.und]
 simp only[OpOk,this]
 exact⟨H,hst,(by intro _ _ h;cases h),h⟩
theorem R.appendRoom {T E sz bytes:Nat} {zs:List Value} [ht:SliceT P T E sz] [he:ElemT P E sz bytes zs] {x y:Operand} {gd m cap b q m' mc:Nat} {cs cs' cs2 news:List Value} {E2:TypeId} {fz:Nat×Nat} {H':Hp}
  (hx:ev L x=some (.slice (some ⟨gd,0,none⟩) m cap):=by exact rfl) (hy:ev L y=some (.slice (some ⟨b,q,none⟩) m' mc):=by exact rfl) (hroom:m+m'≤cap:=by((first|omega|assumption))) (hb:Has b (rowf cs2 E2 fz) H:=by((repeat(first|exact Has.here|apply Has.there))))
  (hnews:(cs2.drop q).take (m'*sz)=news:=by((first|assumption|(dsimp only[List.drop,List.take];try exact rfl)|exact rfl))) (hl:news.length=m'*sz:=by((first|assumption|exact rfl|(simp;done)))) (h1:news.all Value.oneCell'=true:=by((first|assumption|exact rfl))) (hu:Upd gd (row cs E) (row cs' E) H H':=by((repeat(first|exact Upd.here|apply Upd.there)))) (hs:setL cs (m*sz) news=cs':=by((first|assumption|(dsimp only[setL,List.set,Value.cells,List.toList_toArray];try exact rfl)|exact rfl))) (hlt:m*sz+m'*sz≤cs.length:=by((first|omega|assumption)))
  (hc:cls k ⟨some d,.call ⟨.builtin .append,#[x,y],#[T,T]⟩,ty,pos,af,g⟩= .eff []:=by exact rfl) (hn:d<n:=by exact nle rfl)
  (h:R P ops Q cls w0 S n l ((d,.slice (some ⟨gd,0,none⟩) (m+m') cap)::L) D H' qs):R1 P ops Q cls w0 S n k ⟨some d,.call ⟨.builtin .append,#[x,y],#[T,T]⟩,ty,pos,af,g⟩ l L D H qs:=by
 refine R1.effStep hc hn fun a w w0 S hfr hst=> ?_
 obtain⟨i,z,e1,e2,e3,e4,e5⟩:=he.get
 subst e2
 have hbl:=hb.st hst
 unfold Upd Take at hu
 obtain⟨F,t1,t2⟩:=hu
 have s1:St w0 S w ([(gd,row cs E)]::F):=hst.perm (by simpa using t1)
 have hg:w.heap[gd]? =some (row cs E):=s1.sat (gd,row cs E) (by simp)
 have hnc:∀j v,news[j]? =some v→w.cell? ((⟨b,q,none⟩:Addr).add j)=some v:=by
  intro j v hv
  rw[Addr.add_mk,cell_of_row w b (q+j) cs2.toArray E2 fz hbl]
  rw[←hnews,List.getElem?_take] at hv
  split at hv
  ·simpa[List.getElem?_drop] using hv
  ·cases hv
 have hr:=run_append_room (P:=P) w T ty E i ht.und e1 gd m cap cs.toArray hg ⟨b,q,none⟩ m' mc news hl hnc (by simpa using h1) hroom (by simpa[hl] using hlt)
 have e6:(cs.toArray.toList.take (m*i.size)++news++cs.toArray.toList.drop (m*i.size+news.length))=cs':=by rw[←hs,setL_eq news cs _ (by omega)]
 rw[e6] at hr
 have hst':St w0 S (w.setRow gd cs'.toArray) H':=(s1.setRow (by rw[←hs,length_setL])).perm (by simpa using t2.symm)
 have:(execOp a.eval ⟨some d,.call ⟨.builtin .append,#[x,y],#[T,T]⟩,ty,pos,af,g⟩).run P w= .ok (.value (.slice (some ⟨gd,0,none⟩) (m+m') cap)) (w.setRow gd cs'.toArray):=by
  simp[execOp,resolve,invoke,Go.builtin,hfr.eval hx,hfr.eval hy,hr]
 simp only[OpOk,this]
 exact⟨H',hst',(by intro _ _ h;cases h),h⟩
theorem R.append0 {T E sz:Nat} [ht:SliceT P T E sz] {x y:Operand} {p p2:Option Addr} {m cap mc:Nat}
  (hx:ev L x=some (.slice p m cap):=by exact rfl) (hy:ev L y=some (.slice p2 0 mc):=by exact rfl) (hroom:m≤cap:=by((first|omega|assumption)))
  (hc:cls k ⟨some d,.call ⟨.builtin .append,#[x,y],#[T,T]⟩,ty,pos,af,g⟩= .eff []:=by exact rfl) (hn:d<n:=by exact nle rfl)
  (h:R P ops Q cls w0 S n l ((d,.slice p m cap)::L) D H qs):R1 P ops Q cls w0 S n k ⟨some d,.call ⟨.builtin .append,#[x,y],#[T,T]⟩,ty,pos,af,g⟩ l L D H qs:=by
 refine R1.effStep hc hn fun a w w0 S hfr hst=> ?_
 have hsz:=ht.size w
 have:(execOp a.eval ⟨some d,.call ⟨.builtin .append,#[x,y],#[T,T]⟩,ty,pos,af,g⟩).run P w= .ok (.value (.slice p m cap)) w:=by
  cases p<;>cases p2<;>simp[execOp,resolve,invoke,Go.builtin,hfr.eval hx,hfr.eval hy,Builtin.append_,run_underlying ht.und,hsz,Builtin.lenOf,Builtin.firstCells,hroom,loadCells,loadCellsFrom,storeCells]
 simp only[OpOk,this]
 exact⟨H,hst,(by intro _ _ h;cases h),h⟩
theorem R.appendZ {T TI E sz bytes:Nat} {kn kk:IntKind} {zs:List Value} [ht:SliceT P T E sz] [hti:IntT P TI kn] [he:ElemT P E sz bytes zs] {x y:Operand} {gd m cap j:Nat} {v:Int} {cs:List Value} {fz:Nat×Nat}
  (hx:ev L x=some (.slice (some ⟨gd,0,none⟩) m cap):=by exact rfl) (hy:ev L y=some (.int kk v):=by exact rfl) (hv:v=(j:Int):=by((first|assumption|exact rfl))) (hroom:cap<m+j:=by((first|omega|assumption))) (hb:Has gd (rowf cs E fz) H:=by((repeat(first|exact Has.here|apply Has.there))))
  (hlt:m*sz≤cs.length:=by((first|omega|assumption))) (hz:zs.length=sz:=by exact rfl) (hz0:0<sz:=by((exact nle rfl))) (hj0:0<j:=by((first|omega|assumption))) (hmax:m+j≤maxLen:=by((simp only[maxLen];omega))) (hmc:m≤cap:=by((first|omega|assumption))) (hby:(m+j)*bytes≤140737488355328:=by((first|omega|assumption)))
  (hc:cls k ⟨some d,.call ⟨.builtin .append,#[x,y],#[T,TI]⟩,ty,pos,af,g⟩= .eff []:=by exact rfl) (hn:d<n:=by exact nle rfl)
  (h:∀b' cap' rest,(cs.take (m*sz)++zrep j zs).length+rest.length=cap'*sz→m+j≤cap'→cap'≤maxLen→
   R P ops Q cls w0 S n l ((d,.slice (some ⟨b',0,none⟩) (m+j) cap')::L) D ([(b',row ((cs.take (m*sz)++zrep j zs)++rest) E)]::H) qs):
  R1 P ops Q cls w0 S n k ⟨some d,.call ⟨.builtin .append,#[x,y],#[T,TI]⟩,ty,pos,af,g⟩ l L D H qs:=by
 refine R1.effStep hc hn fun a w w0 S hfr hst=> ?_
 subst hv
 obtain⟨i,z,e1,e2,e3,e4,e5⟩:=he.get
 subst e2 e3
 have hbl:=hb.st hst
 have h63:¬(9223372036854775807<(m:Int)+(j:Int)):=by simp only[maxLen] at hmax;omega
 have hw:IntKind.i64.wrap (j:Int)=j:=by rw[wrap_i64];simp only[maxLen] at hmax;omega
 have hneg:¬((j:Int)<0):=by omega
 have hfit:=growslice_fits (need:=m+j) (old:=cap) (by omega) hby
 have hfit':¬(281474976710656<Builtin.nextslicecap (m+j) cap*i.bytes):=by omega
 have h48i:¬(281474976710656<(j:Int)*(i.bytes:Int)):=by
  have:j*i.bytes≤(m+j)*i.bytes:=Nat.mul_le_mul_right _ (by omega)
  rw[←Int.natCast_mul]
  omega
 have hold:∀q u,(cs.take (m*i.size))[q]? =some u→w.cell? ((⟨gd,0,none⟩:Addr).add q)=some u:=by
  intro q u hu
  rw[Addr.add_mk,Nat.zero_add,cell_of_row w gd q cs.toArray E fz hbl]
  rw[List.getElem?_take] at hu
  split at hu
  ·simpa using hu
  ·cases hu
 have hf:=run_firstCells_some (P:=P) w.drew i.size m ⟨gd,0,none⟩ m cap (cs.take (m*i.size)) (by simp;omega) (by intro q u hu;exact hold q u hu)
 have hns:¬(j*i.size=0):=Nat.mul_ne_zero (by omega) (by omega)
 have hnr:¬(m+j≤cap):=by omega
 have hzc:∀q,(Builtin.zeroCells z.cells q)=(zrep q zs).toArray:=by
  intro q
  have:=zero_row q zs (by omega)
  rw[Builtin.zeroCells,e5]
  have e6:q*zs.toArray.size=q*zs.length:=by simp
  rw[e6,this]
 have hrun:(Builtin.append_ #[T,TI] ty #[.slice (some ⟨gd,0,none⟩) m cap,.int kk j]).run P w=
   .ok (.slice (some ⟨w.heap.size,0,none⟩) (m+j) (grownCap w (m+j) cap E)) (w.drew.alloc (row ((cs.take (m*i.size)++zrep j zs)++zrep (grownCap w (m+j) cap E-(m+j)) zs) E)):=by
  simp[Builtin.append_,run_underlying ht.und,run_underlying hti.und,sizeOf,typeInfo,zeroValue,e1,e4,asInt,asIntOf,hw,hneg,hns,h63,hfit',h48i,hnr,Question.forced,hf,newRow,grownCap,hzc,row,List.append_assoc]
 have:(execOp a.eval ⟨some d,.call ⟨.builtin .append,#[x,y],#[T,TI]⟩,ty,pos,af,g⟩).run P w= .ok (.value (.slice (some ⟨w.heap.size,0,none⟩) (m+j) (grownCap w (m+j) cap E))) (w.drew.alloc (row ((cs.take (m*i.size)++zrep j zs)++zrep (grownCap w (m+j) cap E-(m+j)) zs) E)):=by
  simp[execOp,resolve,invoke,Go.builtin,hfr.eval hx,hfr.eval hy,hrun]
 simp only[OpOk,this]
 have hge:=grownCap_ge w (m+j) cap E
 refine⟨_,hst.allocDrew _,(by intro _ _ h;cases h),h w.heap.size (grownCap w (m+j) cap E) (zrep (grownCap w (m+j) cap E-(m+j)) zs) ?_ hge (grownCap_le_maxLen w (m+j) cap E hmax)⟩
 simp only[List.length_append,List.length_take,zrep_length,hz]
 rw[Nat.min_eq_left hlt,←Nat.add_mul,←Nat.add_mul]
 congr 1;omega
def cutA (a:Option Addr) (i cap sz:Nat):Option Addr:=if cap=i then a else a.map (·.add (i*sz))
theorem R.sliceLHx {T E sz:Nat} [ht:SliceT P T E sz] {x y z:Operand} {p:Option Addr} {len cap i m:Nat} {ky kz:IntKind} {a b:Int} (hx:ev L x=some (.slice p len cap):=by exact rfl) (hy:ev L y=some (.int ky a):=by exact rfl) (hz:ev L z=some (.int kz b):=by exact rfl)
  (hb:0≤a∧a≤b∧b≤(cap:Int):=by((first|omega|(constructor<;>omega)|(refine⟨?_,?_,?_⟩<;>omega)|(refine⟨?_,?_,?_,?_⟩<;>omega)))) (hi:a.toNat=i:=by((first|(with_reducible exact Int.toNat_natCast _)|assumption|exact rfl))) (hm:b.toNat=m:=by((first|(with_reducible exact Int.toNat_natCast _)|assumption|exact rfl))) (hc:cls k ⟨some d,.slice T x (some y) (some z) none,ty,pos,af,g⟩= .pure:=by exact rfl) (hn:d<n:=by exact nle rfl)
  (h:R P ops Q cls w0 S n l ((d,.slice (cutA p i cap sz) (m-i) (cap-i))::L) D H qs):R1 P ops Q cls w0 S n k ⟨some d,.slice T x (some y) (some z) none,ty,pos,af,g⟩ l L D H qs:=
 R1.pureStep hc rfl hn (fun ac hf w=>by
  obtain⟨h1,h2,h3⟩:=hb
  have e1:(b.toNat:Int)=b:=Int.toNat_of_nonneg (by omega)
  have h5:0≤b:=by omega
  have hr:(Instr.sliceBounds true len cap (some (.int ky a)) (some (.int kz b)) none).run P w= .ok (i,m,cap) w:=by
   subst hi hm
   simp[Instr.sliceBounds,run_sliceBound,h1,h2,h3,e1,h5]
  have:=run_sliceAtS (P:=P) (T:=T) (a:=p) hr
  simp[execOp,hf.eval hx,hf.eval hy,hf.eval hz,this,cutA]) h
theorem R.sliceLx {T E sz:Nat} [ht:SliceT P T E sz] {x y:Operand} {p:Option Addr} {len cap i:Nat} {ky:IntKind} {a:Int} (hx:ev L x=some (.slice p len cap):=by exact rfl) (hy:ev L y=some (.int ky a):=by exact rfl)
  (hb:0≤a∧a≤(len:Int)∧len≤cap:=by((first|omega|(constructor<;>omega)|(refine⟨?_,?_,?_⟩<;>omega)|(refine⟨?_,?_,?_,?_⟩<;>omega)))) (hi:a.toNat=i:=by((first|(with_reducible exact Int.toNat_natCast _)|assumption|exact rfl))) (hc:cls k ⟨some d,.slice T x (some y) none none,ty,pos,af,g⟩= .pure:=by exact rfl) (hn:d<n:=by exact nle rfl)
  (h:R P ops Q cls w0 S n l ((d,.slice (cutA p i cap sz) (len-i) (cap-i))::L) D H qs):R1 P ops Q cls w0 S n k ⟨some d,.slice T x (some y) none none,ty,pos,af,g⟩ l L D H qs:=
 R1.pureStep hc rfl hn (fun ac hf w=>by
  obtain⟨h1,h2,h3⟩:=hb
  have hr:(Instr.sliceBounds true len cap (some (.int ky a)) none none).run P w= .ok (i,len,cap) w:=by
   simp[Instr.sliceBounds,run_sliceBound,h1,h2,hi]
  have:=run_sliceAtS (P:=P) (T:=T) (a:=p) hr
  simp[execOp,hf.eval hx,hf.eval hy,this,cutA]) h
theorem run_overlaps {w:World} {tS tR e:TypeId} (ht:P.underlying tS=some (.slice e)) {size:Nat} (hz:∀w,(Go.sizeOf e).run P w= .ok size w)
  {ba oa la ca bb ob lb cb:Nat} {csa csb:List Value} {tA tB:TypeId} (hne:ba≠bb) (ha:w.heap[ba]? =some (row csa tA)) (hb:w.heap[bb]? =some (row csb tB)) (hlen:csb.length≠0):
  (Extern.SlicesOverlaps.overlaps #[tS,tS] #[tR] #[.slice (some ⟨ba,oa,none⟩) la ca,.slice (some ⟨bb,ob,none⟩) lb cb]).run P w= .ok (.bool false) w:=by
 have hsa:w.shape? ba=some (tA,csa.length):=by simp[World.shape?,ha,row]
 have hsb:w.shape? bb=some (tB,csb.length):=by simp[World.shape?,hb,row]
 have hfa:∀o,w.frozen? ⟨ba,o,none⟩=false:=fun o=>by simp[World.frozen?,ha,row]
 have hnb:(ba !=bb)=true:=by simpa using hne
 have hnb':(ba==bb)=false:=by simpa using hne
 change Sem.run P (α:=Value) (do
  let some t:=(#[tS,tS]:Array TypeId)[0]? |stuck "slices.overlaps: no parameter types"
  let .slice elem←underlying t|stuck "slices.overlaps: slice type expected"
  let size←sizeOf elem
  match(some ⟨ba,oa,none⟩:Option Addr),(some ⟨bb,ob,none⟩:Option Addr) with
  |some a,some b=>
   if la=0∨lb=0∨size=0 then pure (Value.bool false)
   else if a.block !=b.block&&(←frozen a)&&(←frozen b) then unsupported .addressObserved
   else do
    if a.block !=b.block then do
     noView a;noView b
     if←mayBeOne a b then return Value.bool ((←choose _)==1)
    pure (Value.bool (a.block==b.block&&a.off<b.off+lb*size&&b.off<a.off+la*size))
  |_,_=>pure (Value.bool false)) w=_
 by_cases h0:la=0∨lb=0∨size=0
 ·simp[run_underlying ht,hz,h0]
 ·cases hk:csb.length with
  |zero=>exact absurd hk hlen
  |succ kB=>
   rw[hk] at hsb
   simp[run_underlying ht,hz,h0,hnb,hnb',frozen,noView,viewAt,mayBeOne,stringish,shape,Sem.run,hsa,hsb,hfa]
theorem R.callE {f:FuncId} {as:List Operand} {aT:Array TypeId} {vs:List Value} {v:Value} (hargs:evs L as=some vs) (hrun:∀u S0 w,St u S0 w H→(callFunc f vs.toArray).run P w= .ok (.value v) w)
  (hc:cls k ⟨some d,.call ⟨.value (.func f),as.toArray,aT⟩,ty,pos,af,g⟩= .eff []) (hn:d<n) (h:R P ops Q cls w0 S n l ((d,v)::L) D H qs):
  R1 P ops Q cls w0 S n k ⟨some d,.call ⟨.value (.func f),as.toArray,aT⟩,ty,pos,af,g⟩ l L D H qs:=by
 refine R1.effStep hc hn fun a w w0 S hfr hst=> ?_
 have h1:=hfr.evals hargs
 have:=hrun _ _ w hst
 have:(execOp a.eval ⟨some d,.call ⟨.value (.func f),as.toArray,aT⟩,ty,pos,af,g⟩).run P w= .ok (.value v) w:=by
  simp[execOp,resolve,Deferred.ofValue,Act.eval,invoke,h1,this]
 simp only[OpOk,this]
 exact⟨H,hst,(by intro _ _ h;cases h),h⟩
end ops
end Go.SL
namespace Go.SL
open Go.RowKit
theorem St.permS {w w':World} {S S':List Nat} {H:Hp} (hs:∀k,k∈S↔k∈S') (h:St w S w' H):St w S' w' H:=
 {h with
  own:=fun k hk=>(h.own k hk).imp (fun x=>(hs k).1 x) id
  frame:=fun b hb hn=>h.frame b hb (fun hh=>hn ((hs b).1 hh))}
theorem keys_perm {H H2:Hp} (hp:H.flatten.Perm H2.flatten) (k:Nat):k∈keys H↔k∈keys H2:=(hp.map _).mem_iff
theorem Ct.permH {P:Program} {f:FuncId} {args:List Value} {H H2:Hp} {R:Value→Hp→Prop} (h:Ct P f args H2 R) (hp:H.flatten.Perm H2.flatten):Ct P f args H R:=by
 unfold Ct at h⊢
 intro w hw
 have h1:St w (keys H2) w H2:=(hw.perm hp).permS (keys_perm hp)
 refine(h w h1).mono fun e w' ⟨v,H',e1,e2,e3⟩=>⟨v,H',e1,e2,e3.permS fun k=>(keys_perm hp k).symm⟩
theorem Ct.convP {P:Program} {f:FuncId} {args:List Value} {H H2:Hp} {R R2:Value→Hp→Prop} (h:Ct P f args H2 R2) (he:H.flatten.Perm H2.flatten)
  (hr:∀v H',R2 v H'→∃H'',R v H''∧H'.flatten.Perm H''.flatten):Ct P f args H R:=by
 have h1:Ct P f args H2 R:=Ct.conv h rfl hr
 exact h1.permH he
theorem CtQ.convP {P:Program} {f:FuncId} {args:List Value} {H H2:Hp} {v:Value} (h:CtQ P f args H2 v) (he:H.flatten.Perm H2.flatten):CtQ P f args H v:=
 Ct.convP h he fun _ _ ⟨h1,h2⟩=>⟨H,⟨h1,rfl⟩,by rw[h2];exact he.symm⟩
def Cb (P:Program) (f:FuncId) (args:List Value) (H:Hp) (R:Value→Hp→Prop):Prop:=Ct P f args H R∧Cd P f args H R
theorem Cd.permH {P:Program} {f:FuncId} {args:List Value} {H H2:Hp} {R:Value→Hp→Prop} (h:Cd P f args H2 R) (hp:H.flatten.Perm H2.flatten):Cd P f args H R:=by
 unfold Cd at h⊢
 intro u w hw
 have h1:St w (keys H2) w H2:=(hw.perm hp).permS (keys_perm hp)
 exact(h u w h1).mono fun e u' w' ⟨hu,v,H',e1,e2,e3⟩=>⟨hu,v,H',e1,e2,e3.permS fun k=>(keys_perm hp k).symm⟩
theorem Cd.conv {P:Program} {f:FuncId} {args:List Value} {H H2:Hp} {R R2:Value→Hp→Prop} (h:Cd P f args H2 R2) (he:H.flatten.Perm H2.flatten)
  (hr:∀v H',R2 v H'→∃H'',R v H''∧H'.flatten.Perm H''.flatten):Cd P f args H R:=by
 have h2:Cd P f args H2 R:=by
  unfold Cd at h⊢
  intro u w hw
  refine(h u w hw).mono fun e u' w' ⟨hu,v,H',e1,e2,e3⟩=> ?_
  obtain⟨H'',h4,h5⟩:=hr v H' e2
  exact⟨hu,v,H'',e1,h4,e3.perm h5⟩
 exact h2.permH he
theorem Cb.conv {P:Program} {f:FuncId} {args:List Value} {H H2:Hp} {R R2:Value→Hp→Prop} (h:Cb P f args H2 R2) (he:H.flatten.Perm H2.flatten)
  (hr:∀v H',R2 v H'→∃H'',R v H''∧H'.flatten.Perm H''.flatten):Cb P f args H R:=⟨Ct.convP h.1 he hr,Cd.conv h.2 he hr⟩
theorem Cb.mono {P:Program} {f:FuncId} {args:List Value} {H:Hp} {R R':Value→Hp→Prop} (h:Cb P f args H R) (hr:∀v H',R v H'→R' v H'):Cb P f args H R':=h.conv (.refl _) fun v H' hh=>⟨H',hr v H' hh,.refl _⟩
theorem Cb.intro {P:Program} {f:FuncId} {fn:Func} {c:Code} {n:Nat} {args:List Value} {H:Hp} {R:Value→Hp→Prop} (hf:P.funcs[f]? =some fn) (hb:fn.body=some c) (ht:fn.ntmps=n) (hn:args.length≤n)
  (h:∀w0,G P (bodyPost P fn (Post w0 (keys H) R)) w0 (keys H) n c (argSlots 0 args) [] H):Cb P f args H R:=⟨Ct.intro hf hb ht hn h,Cd.intro hf hb ht hn h⟩
section ops
variable {P:Program} {ops:Array Oper} {Q:Exit→Act→World→Prop} {cls:Nat→Oper→Cls} {w0:World} {S:List Nat} {n:Nat}
variable {k:Nat} {l:List (Nat×Oper)} {L:Slots} {D:List Deferred} {H H2:Hp} {qs:List Rd}
theorem R.recut (hp:H.flatten.Perm H2.flatten) (h:R P ops Q cls w0 S n l L D H2 qs):R P ops Q cls w0 S n l L D H qs:=by
 unfold R at h⊢
 exact fun hl a hf hD=>(h hl a hf hD).perm hp.symm
theorem R1.recut {o:Oper} (hp:H.flatten.Perm H2.flatten) (h:R1 P ops Q cls w0 S n k o l L D H2 qs):R1 P ops Q cls w0 S n k o l L D H qs:=by
 unfold R1 at h⊢
 exact fun hl a hf hD hw=>(h hl a hf hD hw).perm hp.symm
theorem Dn.recut {e:Exit} (hp:H.flatten.Perm H2.flatten) (h:Dn Q w0 S n e L D H2):Dn Q w0 S n e L D H:=by
 unfold Dn at h⊢
 exact fun a w hf hD hw=>h a w hf hD (hw.perm hp)
theorem G.recut {c:Code} (hp:H.flatten.Perm H2.flatten) (h:G P Q w0 S n c L D H2):G P Q w0 S n c L D H:=by
 unfold G at h⊢
 exact fun a w hf hD hw=>h a w hf hD (hw.perm hp)
theorem join_perm {c1 c2:Chunk} {Ha Hb:Hp} (h1:Take c1 H Ha) (h2:Take c2 Ha Hb):H.flatten.Perm (((c1++c2)::Hb).flatten):=by
 unfold Take at h1 h2
 simp only[List.flatten_cons,List.append_assoc]
 exact h1.trans (List.Perm.append_left c1 h2)
theorem R1.join {o:Oper} {c1 c2:Chunk} {Ha Hb:Hp} (h1:Take c1 H Ha) (h2:Take c2 Ha Hb) (h:R1 P ops Q cls w0 S n k o l L D ((c1++c2)::Hb) qs):R1 P ops Q cls w0 S n k o l L D H qs:=R1.recut (join_perm h1 h2) h
theorem R.join {c1 c2:Chunk} {Ha Hb:Hp} (h1:Take c1 H Ha) (h2:Take c2 Ha Hb) (h:R P ops Q cls w0 S n l L D ((c1++c2)::Hb) qs):R P ops Q cls w0 S n l L D H qs:=R.recut (join_perm h1 h2) h
theorem Dn.join {e:Exit} {c1 c2:Chunk} {Ha Hb:Hp} (h1:Take c1 H Ha) (h2:Take c2 Ha Hb) (h:Dn Q w0 S n e L D ((c1++c2)::Hb)):Dn Q w0 S n e L D H:=Dn.recut (join_perm h1 h2) h
variable {d:Nat} {ty:TypeId} {pos:String} {af:Array Edge} {g:Option (Nat×Bool)}
theorem R.sliceAL {T m E sz:Nat} [ho:ArrT P T m E sz] {x y:Operand} {b p i:Nat} {ky:IntKind} {a:Int} (hx:ev L x=some (.pointer (some ⟨b,p,none⟩)):=by exact rfl) (hy:ev L y=some (.int ky a):=by exact rfl)
  (hb:0≤a∧a<(m:Int):=by((first|omega|(constructor<;>omega)|(refine⟨?_,?_,?_⟩<;>omega)|(refine⟨?_,?_,?_,?_⟩<;>omega)))) (hi:a.toNat=i:=by((first|(with_reducible exact Int.toNat_natCast _)|assumption|exact rfl))) {q:Nat} (hq:p+i*sz=q:=by((first|exact ad1 _|exact ad4 _ _|exact Nat.zero_add _|exact Nat.add_zero _|exact ad2 _ _|exact ad3 _ _|(simp only[Nat.reduceAdd];done)|exact rfl))) (hc:cls k ⟨some d,.slice T x (some y) none none,ty,pos,af,g⟩= .pure:=by exact rfl) (hn:d<n:=by exact nle rfl)
  (h:R P ops Q cls w0 S n l ((d,.slice (some ⟨b,q,none⟩) (m-i) (m-i))::L) D H qs):R1 P ops Q cls w0 S n k ⟨some d,.slice T x (some y) none none,ty,pos,af,g⟩ l L D H qs:=
 R1.pureStep hc rfl hn (fun ac hf w=>by
  obtain⟨h1,h2⟩:=hb
  have hr:(Instr.sliceBounds false m m (some (.int ky a)) none none).run P w= .ok (i,m,m) w:=by
   subst hi
   have:a≤(m:Int):=by omega
   simp[Instr.sliceBounds,run_sliceBound,h1,this]
  have h3:¬m=i:=by omega
  simp[execOp,hf.eval hx,hf.eval hy,Instr.sliceAt,run_underlying ho.und,Instr.sureAddr,hr,ho.size,h3,Addr.add_mk,hq]) h
theorem R.sliceALx {T m E sz:Nat} [ho:ArrT P T m E sz] {x y:Operand} {b p:Nat} {ky:IntKind} {a:Int} (hx:ev L x=some (.pointer (some ⟨b,p,none⟩)):=by exact rfl) (hy:ev L y=some (.int ky a):=by exact rfl)
  (hb:a=(m:Int):=by((omega))) (hc:cls k ⟨some d,.slice T x (some y) none none,ty,pos,af,g⟩= .pure:=by exact rfl) (hn:d<n:=by exact nle rfl)
  (h:R P ops Q cls w0 S n l ((d,.slice (some ⟨b,p,none⟩) 0 0)::L) D H qs):R1 P ops Q cls w0 S n k ⟨some d,.slice T x (some y) none none,ty,pos,af,g⟩ l L D H qs:=
 R1.pureStep hc rfl hn (fun ac hf w=>by
  subst hb
  have hr:(Instr.sliceBounds false m m (some (.int ky (m:Int))) none none).run P w= .ok (m,m,m) w:=by
   simp[Instr.sliceBounds,run_sliceBound]
  simp[execOp,hf.eval hx,hf.eval hy,Instr.sliceAt,run_underlying ho.und,Instr.sureAddr,hr,ho.size]) h
theorem R.sliceAH {T m E sz:Nat} [ho:ArrT P T m E sz] {x y:Operand} {b p i:Nat} {ky:IntKind} {a:Int} (hx:ev L x=some (.pointer (some ⟨b,p,none⟩)):=by exact rfl) (hy:ev L y=some (.int ky a):=by exact rfl)
  (hb:0≤a∧a≤(m:Int):=by((first|omega|(constructor<;>omega)|(refine⟨?_,?_,?_⟩<;>omega)|(refine⟨?_,?_,?_,?_⟩<;>omega)))) (hi:a.toNat=i:=by((first|(with_reducible exact Int.toNat_natCast _)|assumption|exact rfl))) (hc:cls k ⟨some d,.slice T x none (some y) none,ty,pos,af,g⟩= .pure:=by exact rfl) (hn:d<n:=by exact nle rfl)
  (h:R P ops Q cls w0 S n l ((d,.slice (some ⟨b,p,none⟩) i m)::L) D H qs):R1 P ops Q cls w0 S n k ⟨some d,.slice T x none (some y) none,ty,pos,af,g⟩ l L D H qs:=
 R1.pureStep hc rfl hn (fun ac hf w=>by
  obtain⟨h1,h2⟩:=hb
  have hr:(Instr.sliceBounds false m m none (some (.int ky a)) none).run P w= .ok (0,i,m) w:=by
   subst hi
   simp[Instr.sliceBounds,run_sliceBound,h1,h2]
  simp[execOp,hf.eval hx,hf.eval hy,Instr.sliceAt,run_underlying ho.und,Instr.sureAddr,hr,ho.size,addr_add_zero]) h
theorem R.defer {f:FuncId} {as:List Operand} {aT:Array TypeId} {vs:List Value} (hargs:evs L as=some vs:=by exact rfl) (hc:cls k ⟨none,.defer ⟨.value (.func f),as.toArray,aT⟩,ty,pos,af,g⟩= .defer:=by exact rfl)
  (h:R P ops Q cls w0 S n l L (⟨.fn (.func f) #[],vs.toArray⟩::D) H qs):R1 P ops Q cls w0 S n k ⟨none,.defer ⟨.value (.func f),as.toArray,aT⟩,ty,pos,af,g⟩ l L D H qs:=
 R1.deferStep hc rfl (fun a hf w=>by
  have h1:=hf.evals hargs
  simp[execOp,resolve,Deferred.ofValue,Act.eval,h1]) h
theorem R.deferV {f:FuncId} {x:Operand} {as:List Operand} {aT:Array TypeId} {fs vs us:List Value} (hx:ev L x=some (.func (.func f) fs.toArray us.toArray):=by exact rfl) (hargs:evs L as=some vs:=by exact rfl) (hc:cls k ⟨none,.defer ⟨.value x,as.toArray,aT⟩,ty,pos,af,g⟩= .defer:=by exact rfl)
  (h:R P ops Q cls w0 S n l L (⟨.fn (.func f) us.toArray,(fs++vs).toArray⟩::D) H qs):R1 P ops Q cls w0 S n k ⟨none,.defer ⟨.value x,as.toArray,aT⟩,ty,pos,af,g⟩ l L D H qs:=
 R1.deferStep hc rfl (fun a hf w=>by
  have h1:=hf.evals hargs
  simp[execOp,resolve,Deferred.ofValue,hf.eval hx,h1]) h
theorem run_invokeF {f:FuncId} [hf:Callable P f] {us args:List Value} (w:World):(invoke (.fn (.func f) us.toArray) args.toArray).run P w= .ok (.enter f (args++us).toArray) w:=by
 simp[invoke,hf.run]
theorem Lv.call {fn:Func} {R:Value→Hp→Prop} {f:FuncId} (hf:Callable P f:=by exact inferInstance) {us args:List Value} {ds:List Deferred} {Hf F:Hp} {Rf:Value→Hp→Prop} (hc:Cd P f (args++us) Hf Rf) (hs:Split H Hf F:=by repeat(first|exact Split.nil|(apply Split.cons;·(repeat(first|exact Take.here|apply Take.there|exact Take.nil)))))
  (h:∀v H2,Rf v H2→Lv P fn w0 S n R ds L (H2++F)):Lv P fn w0 S n R (⟨.fn (.func f) us.toArray,args.toArray⟩::ds) L H:=by
 unfold Split at hs
 have hs':Split H Hf F:=by unfold Split;exact hs
 exact Lv.cons (fun w=>run_invokeF w) hc hs' h
end ops
end Go.SL
namespace Go.SL
open Go.RowKit
class Meth (P:Program) (T:TypeId) (name:String) (f:outParam FuncId):Prop where
 run:∀a w,(Go.method (P.types.size+Made.depth) T (.pointer a) name).run P w= .ok (f,.pointer a) w
theorem Meth.of {P:Program} {T:TypeId} {name:String} {f:FuncId} [hp:PtrT P T]
  (h:(P.info? T).bind (fun i=>(i.methods.find? (·.name==name)).map (fun m=>(m.path.toList.length,m.func)))=some (0,some (f,true))):Meth P T name f:=⟨fun a w=>by
 cases hi:P.info? T with
 |none=>simp[hi] at h
 |some i=>
  simp only[hi,Option.bind_some] at h
  cases hm:i.methods.find? (·.name==name) with
  |none=>simp[hm] at h
  |some m=>
   simp only[hm,Option.map_some,Option.some.injEq,Prod.mk.injEq] at h
   obtain⟨h1,h2⟩:=h
   have h3:m.path.toList=[]:=List.eq_nil_of_length_eq_zero h1
   have hd:P.types.size+Made.depth=(P.types.size+99)+1:=rfl
   rw[hd,Go.method]
   simp[typeInfo,hi,hm,h2,h3,Go.follow,Go.receiverAt,run_underlying hp.und,Go.Place.get]⟩
section ops
variable {P:Program} {ops:Array Oper} {Q:Exit→Act→World→Prop} {cls:Nat→Oper→Cls} {w0:World} {S:List Nat} {n:Nat}
variable {k:Nat} {l:List (Nat×Oper)} {L:Slots} {D:List Deferred} {H:Hp} {qs:List Rd}
variable {d:Nat} {ty:TypeId} {pos:String} {af:Array Edge} {g:Option (Nat×Bool)}
theorem run_invoke {T:TypeId} {name:String} {f:FuncId} [hm:Meth P T name f] [hf:Callable P f] {x:Operand} {as:List Operand} {aT:Array TypeId} {vs:List Value} {p:Option Addr} {a:Act} (hfr:Fr n a L) (hx:ev L x=some (.iface T (.pointer p))) (hargs:evs L as=some vs) {dst:Option Tmp} (w:World):
  (execOp a.eval ⟨dst,.call ⟨.invoke x name,as.toArray,aT⟩,ty,pos,af,g⟩).run P w= .ok (.enter f (.pointer p::vs).toArray) w:=by
 have h1:=hfr.evals hargs
 have h2:=hfr.eval hx
 have h3:=hm.run p w
 have e:((#[Value.iface T (.pointer p)]++vs.toArray:Array Value).extract 1 (#[Value.iface T (.pointer p)]++vs.toArray).size)=vs.toArray:=by
  apply Array.ext';simp
 simp only[execOp,resolve,h2,List.map_toArray,h1,Sem.run_bind,Sem.run_pure,Result.andThen_ok,invoke]
 simp only[Array.getElem?_append_left,List.size_toArray,List.length_cons,List.length_nil,Nat.zero_add,Nat.lt_one_iff]
 have h4:Sem.run P (method (P.types.size+100) T (.pointer p) name) w= .ok (f,.pointer p) w:=h3
 simp[e,callMethod,Made.depth,h4,hf.run]
theorem R.invoke {T:TypeId} {name:String} {f:FuncId} {x:Operand} {as:List Operand} {aT:Array TypeId} {vs:List Value} {p:Option Addr} {Hf F:Hp} {Rf:Value→Hp→Prop} (hx:ev L x=some (.iface T (.pointer p)):=by exact rfl) (hm:Meth P T name f:=by exact inferInstance) (hf:Callable P f:=by exact inferInstance) (hargs:evs L as=some vs:=by exact rfl)
  (hct:Ct P f (.pointer p::vs) Hf Rf) (hs:Split H Hf F:=by repeat(first|exact Split.nil|(apply Split.cons;·(repeat(first|exact Take.here|apply Take.there|exact Take.nil))))) (hc:cls k ⟨some d,.call ⟨.invoke x name,as.toArray,aT⟩,ty,pos,af,g⟩= .eff []:=by exact rfl) (hn:d<n:=by exact nle rfl) (h:∀v H',Rf v H'→R P ops Q cls w0 S n l ((d,v)::L) D (H'++F) qs):
  R1 P ops Q cls w0 S n k ⟨some d,.call ⟨.invoke x name,as.toArray,aT⟩,ty,pos,af,g⟩ l L D H qs:=by
 refine R1.effStep hc hn fun a w w0 S hfr hst=> ?_
 unfold Split at hs
 have hst':St w0 S w (Hf++F):=hst.perm hs
 simp only[OpOk,run_invoke hfr hx hargs]
 exact(hct.frame hst').mono fun e w' ⟨v,H',h1,h2,h3⟩=>⟨v,h1,H'++F,h3,(by intro _ _ h;cases h),h v H' h2⟩
theorem R.invokeP {T:TypeId} {name:String} {f:FuncId} {x:Operand} {as:List Operand} {aT:Array TypeId} {vs:List Value} {p:Option Addr} {Hf F:Hp} {v:Value} (hx:ev L x=some (.iface T (.pointer p)):=by exact rfl) (hm:Meth P T name f:=by exact inferInstance) (hf:Callable P f:=by exact inferInstance) (hargs:evs L as=some vs:=by exact rfl)
  (hct:CtQ P f (.pointer p::vs) Hf v) (hs:Split H Hf F:=by repeat(first|exact Split.nil|(apply Split.cons;·(repeat(first|exact Take.here|apply Take.there|exact Take.nil))))) (hc:cls k ⟨some d,.call ⟨.invoke x name,as.toArray,aT⟩,ty,pos,af,g⟩= .eff []:=by exact rfl) (hn:d<n:=by exact nle rfl) (h:R P ops Q cls w0 S n l ((d,v)::L) D H qs):
  R1 P ops Q cls w0 S n k ⟨some d,.call ⟨.invoke x name,as.toArray,aT⟩,ty,pos,af,g⟩ l L D H qs:=by
 refine R1.effStep hc hn fun a w w0 S hfr hst=> ?_
 unfold Split at hs
 have hst':St w0 S w (Hf++F):=hst.perm hs
 simp only[OpOk,run_invoke hfr hx hargs]
 exact(hct.frame hst').mono fun e w' ⟨v',H',h1,⟨h2,h3⟩,h4⟩=>⟨v',h1,H,(by subst h3;exact h4.perm hs.symm),(by intro _ _ h;cases h),(by subst h2;exact h)⟩
theorem R.mkIface {T:TypeId} [ho:PtrT P T] {x:Operand} {p:Option Addr} (hx:ev L x=some (.pointer p):=by exact rfl) (hc:cls k ⟨some d,.makeInterface T x,ty,pos,af,g⟩= .pure:=by exact rfl) (hn:d<n:=by exact nle rfl)
  (h:R P ops Q cls w0 S n l ((d,.iface T (.pointer p))::L) D H qs):R1 P ops Q cls w0 S n k ⟨some d,.makeInterface T x,ty,pos,af,g⟩ l L D H qs:=
 R1.pureStep hc rfl hn (fun a hf w=>by simp[execOp,hf.eval hx,Instr.makeInterface,run_underlying ho.und]) h
theorem R.mkIfaceS {T:TypeId} {fs:Array Field} {x:Operand} {v:Value} (hx:ev L x=some v) (hu:P.underlying T=some (.struct fs)) (hc:cls k ⟨some d,.makeInterface T x,ty,pos,af,g⟩= .pure) (hn:d<n)
  (h:R P ops Q cls w0 S n l ((d,.iface T v)::L) D H qs):R1 P ops Q cls w0 S n k ⟨some d,.makeInterface T x,ty,pos,af,g⟩ l L D H qs:=
 R1.pureStep hc rfl hn (fun a hf w=>by simp[execOp,hf.eval hx,Instr.makeInterface,run_underlying hu]) h
end ops
end Go.SL
namespace Go.SL
section ops
variable {P:Program} {ops:Array Oper} {Q:Exit→Act→World→Prop} {cls:Nat→Oper→Cls} {w0:World} {S:List Nat} {n:Nat}
variable {k:Nat} {l:List (Nat×Oper)} {L:Slots} {D:List Deferred} {H H2:Hp} {qs:List Rd}
theorem open_perm {c c1 c2:Chunk} {Ha:Hp} (h1:Take c H Ha) (hp:c.Perm (c1++c2)):H.flatten.Perm ((c1::c2::Ha).flatten):=by
 unfold Take at h1
 simp only[List.flatten_cons]
 rw[←List.append_assoc]
 exact h1.trans (hp.append_right _)
theorem R1.open {o:Oper} {c c1 c2:Chunk} {Ha:Hp} (hp:c.Perm (c1++c2)) (h1:Take c H Ha) (h:R1 P ops Q cls w0 S n k o l L D (c1::c2::Ha) qs):R1 P ops Q cls w0 S n k o l L D H qs:=R1.recut (open_perm h1 hp) h
theorem R.open {c c1 c2:Chunk} {Ha:Hp} (hp:c.Perm (c1++c2)) (h1:Take c H Ha) (h:R P ops Q cls w0 S n l L D (c1::c2::Ha) qs):R P ops Q cls w0 S n l L D H qs:=R.recut (open_perm h1 hp) h
theorem G.open {x:Code} {c c1 c2:Chunk} {Ha:Hp} (hp:c.Perm (c1++c2)) (h1:Take c H Ha) (h:G P Q w0 S n x L D (c1::c2::Ha)):G P Q w0 S n x L D H:=G.recut (open_perm h1 hp) h
end ops
end Go.SL
