/-
  Parts of the proof, put together: PathP, CutA, GraphIn, Pieces, Ref21. No condition.
-/
import Derived.Deep.SlicePairs
import Derived.Test.YtlnehgklibbjiaaGreatE24
set_option linter.unusedVariables false
set_option linter.unusedSimpArgs false
set_option linter.unnecessarySimpa false
set_option maxHeartbeats 4000000
namespace Go.Proofs.YtlnehgklibbjiaaGreat
open Go.SL Go.Tup Go.Srt Go.Gr
theorem o12eq {a b:List T5} (ha:a.Pairwise o12R) (hb:b.Pairwise o12R) (h:∀z,z∈a↔z∈b):a=b:=by
 have hnd:∀{l:List T5},l.Pairwise o12R→l.Nodup:=fun hl=>hl.imp fun {x y} h hq=>by subst hq;unfold o12R at h;omega
 refine List.Perm.eq_of_pairwise (le:=o12R) ?_ ha hb ((List.perm_ext_iff_of_nodup (hnd ha) (hnd hb)).2 h)
 intro x y _ _ h1 h2
 unfold o12R at h1 h2
 exact absurd h1 (by omega)
def pathL (m:Nat):List IE:=(List.range m).map fun (i:Nat)=>((i:Int),((i+1:Nat):Int))
def starL (m:Nat):List IE:=(List.range m).map fun (i:Nat)=>((0:Int),((i+1:Nat):Int))
def circL (m:Nat):List IE:=pathL m++[(0,(m:Int))]
theorem pathL_len (m:Nat):(pathL m).length=m:=by simp[pathL]
theorem starL_len (m:Nat):(starL m).length=m:=by simp[starL]
theorem circL_len (m:Nat):(circL m).length=m+1:=by simp[circL,pathL]
theorem pathL_at {m i:Nat} (h:i<m):eAt (pathL m) i=((i:Int),((i+1:Nat):Int)):=by
 unfold eAt pathL
 rw[List.getD_eq_getElem?_getD,List.getElem?_map,List.getElem?_range h];rfl
theorem starL_at {m i:Nat} (h:i<m):eAt (starL m) i=(0,((i+1:Nat):Int)):=by
 unfold eAt starL
 rw[List.getD_eq_getElem?_getD,List.getElem?_map,List.getElem?_range h];rfl
theorem circL_at {m i:Nat} (h:i<m):eAt (circL m) i=((i:Int),((i+1:Nat):Int)):=by
 rw[←pathL_at h]
 unfold eAt circL
 rw[List.getD_eq_getElem?_getD,List.getD_eq_getElem?_getD,List.getElem?_append_left (by rw[pathL_len];exact h)]
theorem circL_end (m:Nat):eAt (circL m) m=(0,(m:Int)):=by
 unfold eAt circL
 rw[List.getD_eq_getElem?_getD,List.getElem?_append_right (by rw[pathL_len];exact Nat.le_refl _),pathL_len,Nat.sub_self];rfl
theorem pathL_in (m:Nat):∀e∈pathL m,inE ((m+1:Nat):Int) e:=by
 intro e he
 obtain⟨i,hi,rfl⟩:=List.mem_map.1 he
 have:=List.mem_range.1 hi
 unfold inE;dsimp only;omega
theorem starL_in (m:Nat):∀e∈starL m,inE ((m+1:Nat):Int) e:=by
 intro e he
 obtain⟨i,hi,rfl⟩:=List.mem_map.1 he
 have:=List.mem_range.1 hi
 unfold inE;dsimp only;omega
theorem circL_in (m:Nat):∀e∈circL m,inE ((m+1:Nat):Int) e:=by
 intro e he
 rcases List.mem_append.1 he with he|he
 ·exact pathL_in m e he
 ·rw[List.mem_singleton.1 he]
  unfold inE;dsimp only;omega
section
variable {m:Nat} {ls:List (List Int)} {nm:List Int}
theorem path_name (hA:ApOk (m+1) (pathL m) ls) (h:NamesOk (m+1) m (pathL m) ls nm) {i:Nat} (hi:i<m):iAt nm i=(i:Int):=by
 have hn:∀j,j<m→nonL (pathL m) j:=fun j hj=>by unfold nonL;rw[pathL_at hj];dsimp only;omega
 obtain⟨_,k,k1,k2,k3,k4,_⟩:=h.of hi (h.some_ hi (hn i hi))
 rcases Nat.eq_or_lt_of_le k2 with rfl|hk
 ·exact k1
 ·exfalso
  have h1:=k4 i (by omega)
  rw[sd_at hA (pathL_in m) (pathL_len m) (u:=i+1) (by omega) hi (hn i hi) (.inr (by rw[pathL_at hi])) (by omega),
   sd_at hA (pathL_in m) (pathL_len m) (u:=k) (by omega) (by omega) k3 (.inl (by rw[pathL_at (by omega)])) (by omega),
   hA.lab_eq (by omega) (by omega) (by omega) (by omega) (by omega)] at h1
  have h2:=h1.stay (X:=fun z=>i<z) (by omega) fun j hj=>by
   obtain⟨j1,j2,j3⟩:=(Act_iff (pathL_in m)).1 hj
   rw[pathL_len] at j1
   rw[gE_at (by rw[pathL_len];exact j1),pathL_at j1] at j2 j3⊢
   dsimp only at j2 j3⊢
   omega
  omega
theorem star_name (hA:ApOk (m+1) (starL m) ls) (h:NamesOk (m+1) m (starL m) ls nm) {i:Nat} (hi:i<m):iAt nm i=(i:Int):=by
 have hn:∀j,j<m→nonL (starL m) j:=fun j hj=>by unfold nonL;rw[starL_at hj];dsimp only;omega
 obtain⟨_,k,k1,k2,k3,k4,_⟩:=h.of hi (h.some_ hi (hn i hi))
 rcases Nat.eq_or_lt_of_le k2 with rfl|hk
 ·exact k1
 ·exfalso
  have h1:=k4 0 (by omega)
  rw[sd_at hA (starL_in m) (starL_len m) (u:=i+1) (by omega) hi (hn i hi) (.inr (by rw[starL_at hi])) (by omega),
   sd_at hA (starL_in m) (starL_len m) (u:=k+1) (by omega) (by omega) k3 (.inr (by rw[starL_at (by omega)])) (by omega),
   hA.lab_eq (by omega) (by omega) (by omega) (by omega) (by omega)] at h1
  have h2:=h1.stay (X:=fun z=>z=i+1) rfl fun j hj=>by
   obtain⟨j1,j2,j3⟩:=(Act_iff (starL_in m)).1 hj
   rw[starL_len] at j1
   rw[gE_at (by rw[starL_len];exact j1),starL_at j1] at j2
   exact(j2 rfl).elim
  omega
theorem circ_cn {w u v:Nat} (hu:u≤m) (hv:v≤m) (hw:w≤m) (hne:u≠w) (hnv:v≠w):Cn (gE (circL m)) (Act (circL m) w) u v:=by
 have hstep:∀k,k<m→k≠w→k+1≠w→Cn (gE (circL m)) (Act (circL m) w) k (k+1):=fun k hk h1 h2=>by
  have hg:gE (circL m) k=(k,k+1):=by
   rw[gE_at (by rw[circL_len];omega),circL_at hk]
   dsimp only
   rw[Int.toNat_natCast,Int.toNat_natCast]
  have ha:Act (circL m) w k:=(Act_iff (circL_in m)).2 ⟨by rw[circL_len];omega,by rw[hg];exact h1,by rw[hg];exact h2⟩
  have:=Cn.edge (g:=gE (circL m)) ha
  rwa[hg] at this
 have hup:∀d k,k+d≤m→w<k→Cn (gE (circL m)) (Act (circL m) w) k (k+d):=by
  intro d
  induction d with
  |zero=>intro k _ _;exact .refl _
  |succ d ih=>intro k h1 h2;exact(ih k (by omega) h2).trans (hstep (k+d) (by omega) (by omega) (by omega))
 have hlo:∀k,k<w→Cn (gE (circL m)) (Act (circL m) w) 0 k:=by
  intro k
  induction k with
  |zero=>intro _;exact .refl _
  |succ k ih=>intro h1;exact(ih (by omega)).trans (hstep k (by omega) (by omega) (by omega))
 have hend:w≠0→w≠m→Cn (gE (circL m)) (Act (circL m) w) 0 m:=fun h1 h2=>by
  have hg:gE (circL m) m=(0,m):=by
   rw[gE_at (by rw[circL_len];omega),circL_end]
   dsimp only
   rw[Int.toNat_natCast];rfl
  have ha:Act (circL m) w m:=(Act_iff (circL_in m)).2 ⟨by rw[circL_len];omega,by rw[hg];exact fun h=>h1 h.symm,by rw[hg];exact fun h=>h2 h.symm⟩
  have:=Cn.edge (g:=gE (circL m)) ha
  rwa[hg] at this
 have hhi:∀k,w<k→k≤m→Cn (gE (circL m)) (Act (circL m) w) k m:=fun k h1 h2=>by
  have:=hup (m-k) k (by omega) h1
  rwa[show k+(m-k)=m by omega] at this
 rcases Nat.lt_or_gt_of_ne hne with h1|h1
 ·rcases Nat.lt_or_gt_of_ne hnv with h2|h2
  ·exact(hlo u h1).symm.trans (hlo v h2)
  ·exact(hlo u h1).symm.trans ((hend (by omega) (by omega)).trans (hhi v h2 hv).symm)
 ·rcases Nat.lt_or_gt_of_ne hnv with h2|h2
  ·exact(hhi u h1 hu).trans ((hend (by omega) (by omega)).symm.trans (hlo v h2))
  ·exact(hhi u h1 hu).trans (hhi v h2 hv).symm
theorem circ_name (hm:2≤m) (hA:ApOk (m+1) (circL m) ls) (h:NamesOk (m+1) (m+1) (circL m) ls nm) {i k:Nat} (hi:i<m+1) (hk:k<m+1):iAt nm i=iAt nm k:=by
 have hat:∀j,j<m+1→∃a b:Nat,eAt (circL m) j=((a:Int),(b:Int))∧a≠b∧a≤m∧b≤m:=fun j hj=>by
  rcases Nat.eq_or_lt_of_le (Nat.lt_succ_iff.1 hj) with rfl|h1
  ·exact⟨0,j,circL_end j,by omega,by omega,by omega⟩
  ·exact⟨j,j+1,circL_at h1,by omega,by omega,by omega⟩
 have hn:∀j,j<m+1→nonL (circL m) j:=fun j hj=>by
  obtain⟨a,b,h1,h2,_⟩:=hat j hj
  unfold nonL;rw[h1];dsimp only;omega
 have hE:∀j w,j<m+1→∃u:Nat,u≤m∧u≠w∧Endp (circL m) j u:=fun j w hj=>by
  obtain⟨a,b,h1,h2,h3,h4⟩:=hat j hj
  by_cases hq:a=w
  ·exact⟨b,h4,by omega,.inr (by rw[h1])⟩
  ·exact⟨a,h3,hq,.inl (by rw[h1])⟩
 rw[h.eq hi hk (hn i hi) (hn k hk)]
 intro w hw
 obtain⟨u,u1,u2,u3⟩:=hE i w hi
 obtain⟨v,v1,v2,v3⟩:=hE k w hk
 rw[sd_at hA (circL_in m) (circL_len m) hw hi (hn i hi) u3 u2,sd_at hA (circL_in m) (circL_len m) hw hk (hn k hk) v3 v2,hA.lab_eq hw (by omega) (by omega) u2 v2]
 exact circ_cn u1 v1 (by omega) u2 v2
theorem path_cuts (hm:m≤100000) (hA:ApOk (m+1) (pathL m) ls) (h:NamesOk (m+1) m (pathL m) ls nm):cutsF (edT (pathL m)) (blkL nm m)=(List.range (2*(m-1))).map fun (j:Nat)=>(⟨((1+j/2:Nat):Int),(((j+1)/2:Nat):Int),0,0,0⟩:T5):=by
 have hI:∀v x:Int,Inc m (pathL m) nm v x↔∃i:Nat,i<m∧x=(i:Int)∧(v=(i:Int)∨v=((i+1:Nat):Int)):=fun v x=>by
  constructor
  ·rintro⟨i,hi,h1,_,h3⟩
   rw[path_name hA h hi] at h1
   rw[pathL_at hi] at h3
   dsimp only at h3
   exact⟨i,hi,h1.symm,h3.imp Eq.symm Eq.symm⟩
  ·rintro⟨i,hi,rfl,h2⟩
   refine⟨i,hi,path_name hA h hi,by omega,?_⟩
   rw[pathL_at hi]
   exact h2.imp Eq.symm Eq.symm
 refine o12eq (cuts_rise _ _) ?_ fun z=> ?_
 ·rw[List.pairwise_map]
  refine List.pairwise_lt_range.imp fun {a b} hab=> ?_
  unfold o12R
  dsimp only
  omega
 ·rw[cuts_mem h (pathL_len m) (pathL_in m) (by omega) (by omega),hI,List.mem_map]
  constructor
  ·rintro⟨⟨i,hi,h1,h2⟩,h3,x,hx,h4⟩
   obtain⟨i',hi',rfl,h5⟩:=(hI _ _).1 h4
   rw[h3]
   by_cases hq:z.c0=(i:Int)
   ·refine⟨2*i-1,List.mem_range.2 (by omega),?_⟩
    congr 1<;>omega
   ·refine⟨2*i,List.mem_range.2 (by omega),?_⟩
    congr 1<;>omega
  ·rintro⟨j,hj,rfl⟩
   have hj:=List.mem_range.1 hj
   dsimp only
   refine⟨⟨(j+1)/2,by omega,rfl,by omega⟩,rfl,?_⟩
   by_cases hq:j%2=0
   ·exact⟨((j/2+1:Nat):Int),by omega,(hI _ _).2 ⟨j/2+1,by omega,rfl,by omega⟩⟩
   ·exact⟨((j/2:Nat):Int),by omega,(hI _ _).2 ⟨j/2,by omega,rfl,by omega⟩⟩
theorem star_cuts (hm2:2≤m) (hm:m≤100000) (hA:ApOk (m+1) (starL m) ls) (h:NamesOk (m+1) m (starL m) ls nm):cutsF (edT (starL m)) (blkL nm m)=(List.range m).map fun (j:Nat)=>(⟨0,(j:Int),0,0,0⟩:T5):=by
 have hI:∀v x:Int,Inc m (starL m) nm v x↔∃i:Nat,i<m∧x=(i:Int)∧(v=0∨v=((i+1:Nat):Int)):=fun v x=>by
  constructor
  ·rintro⟨i,hi,h1,_,h3⟩
   rw[star_name hA h hi] at h1
   rw[starL_at hi] at h3
   dsimp only at h3
   exact⟨i,hi,h1.symm,h3.imp Eq.symm Eq.symm⟩
  ·rintro⟨i,hi,rfl,h2⟩
   refine⟨i,hi,star_name hA h hi,by omega,?_⟩
   rw[starL_at hi]
   exact h2.imp Eq.symm Eq.symm
 refine o12eq (cuts_rise _ _) ?_ fun z=> ?_
 ·rw[List.pairwise_map]
  refine List.pairwise_lt_range.imp fun {a b} hab=> ?_
  unfold o12R
  dsimp only
  omega
 ·rw[cuts_mem h (starL_len m) (starL_in m) (by omega) (by omega),hI,List.mem_map]
  constructor
  ·rintro⟨⟨i,hi,h1,h2⟩,h3,x,hx,h4⟩
   obtain⟨i',hi',rfl,h5⟩:=(hI _ _).1 h4
   rw[h3]
   refine⟨i,List.mem_range.2 hi,?_⟩
   congr 1<;>omega
  ·rintro⟨j,hj,rfl⟩
   have hj:=List.mem_range.1 hj
   dsimp only
   refine⟨⟨j,hj,rfl,.inl rfl⟩,rfl,?_⟩
   by_cases hq:j=0
   ·exact⟨((1:Nat):Int),by omega,(hI _ _).2 ⟨1,by omega,rfl,.inl rfl⟩⟩
   ·exact⟨((0:Nat):Int),by omega,(hI _ _).2 ⟨0,by omega,rfl,.inl rfl⟩⟩
theorem circ_cuts (hm2:2≤m) (hm:m≤100000) (hA:ApOk (m+1) (circL m) ls) (h:NamesOk (m+1) (m+1) (circL m) ls nm):cutsF (edT (circL m)) (blkL nm (m+1))=[]:=by
 refine List.eq_nil_iff_forall_not_mem.2 fun z hz=> ?_
 rw[cuts_mem h (circL_len m) (circL_in m) (by omega) (by omega)] at hz
 obtain⟨⟨i,hi,h1,_⟩,_,x,hx,⟨k,hk,h2,_⟩⟩:=hz
 exact hx (by rw[←h1,←h2,circ_name hm2 hA h hi hk])
end
end Go.Proofs.YtlnehgklibbjiaaGreat
namespace Go.Proofs.YtlnehgklibbjiaaGreat
open Go.SL Go.Spc Go.Tup Go.Srt Go.Gr
theorem awake21ct:CtQ Tryz.prog 27 [] [] (.bool true):=by
 have hWk:Ct Tryz.prog 30 [.int .i64 9] [] fun v H'=>
  ∃bw bd ba bs cd ca cs,v=pv bw∧H'=[wrow bw bd ba bs,cd,ca,cs]∧Wc bd ba bs (wk0 10 9000 90) cd ca cs:=work21ct 9 (by omega)
 refine Ct.intro Tryz.func27 rfl Tryz.ntmps27 (nle rfl) fun w0=> ?_;dsimp only[argSlots,Nat.reduceAdd]
 repeat(refine st ?_;intros)
 refine R.call (hct:=hWk) (h:= ?_)
 rintro _ _ ⟨bw,bd,ba,bs,cd,ca,cs,rfl,rfl,hW⟩
 try dsimp only[List.cons_append,List.nil_append]
 repeat(refine st ?_;intros)
 rename_i bl
 have hRw:Rw ecl 2 (some ⟨bl,0,none⟩) 2 (pathL 2) [(bl,row [.int .i64 0,.int .i64 1,.int .i64 1,.int .i64 2] 62)]:=⟨rfl,.inr ⟨bl,0,_,_,_,rfl,rfl,rfl⟩⟩
 have hC:=cuts21ct bw bd ba bs 90 (by omega) cd ca cs hW 3 (by omega) _ 2 2 _ _ hRw (by omega) (pathL_in 2)
 unfold gv at hC
 refine R.call (hct:=hC) (h:= ?_)
 rintro _ _ ⟨cd',ca',cs',W,pl,k,cap',co,bq,f,h,x,nm,ls,rfl,rfl,hW1,hR,_,hT⟩
 try dsimp only[List.cons_append,List.nil_append]
 rw[path_cuts (by omega) hT.ap hT.nms] at hR
 have hk:k=2:=by
  have:=hR.1
  simpa using this.symm
 subst hk
 repeat(refine st ?_;intros)
 (refine Dn.post (Hr:=[]) Tryz.results27 (hR:= ?_);exact⟨congrArg Value.bool (dec_true rfl),rfl⟩)
end Go.Proofs.YtlnehgklibbjiaaGreat
namespace Go.Proofs.YtlnehgklibbjiaaGreat
open Go.ChangeShapes Go.WideShapes Go.ChangeAt Go.RowKit Go.SL Go.Tup Go.Spc
theorem pairs_of (cs:List Value):∀(len off:Nat),(∀i,i<len→∃e:IE,∀j,j<2→cs[off+i*2+j]? =(ecl e)[j]?)→∃es:List IE,es.length=len∧(cs.drop off).take (len*2)=es.flatMap ecl
 |0,off,_=>⟨[],rfl,by simp⟩
 |len+1,off,h=>by
  obtain⟨t,ht⟩:=h 0 (by omega)
  obtain⟨ts,hl,he⟩:=pairs_of cs len (off+2) (fun i hi=>by
   obtain⟨t,ht⟩:=h (i+1) (by omega)
   exact⟨t,fun j hj=>by rw[←ht j hj];congr 1;omega⟩)
  refine⟨t::ts,by simp[hl],?_⟩
  have hd:cs.drop off=ecl t++cs.drop (off+2):=by
   apply List.ext_getElem?
   intro j
   rw[List.getElem?_drop]
   by_cases hj:j<2
   ·rw[List.getElem?_append_left (by simpa[ecl] using hj),←ht j hj];simp
   ·rw[List.getElem?_append_right (by simp[ecl];omega),List.getElem?_drop]
    congr 1
    simp[ecl];omega
  rw[hd,List.flatMap_cons,←he,List.take_append]
  rw[List.take_of_length_le (by simp[ecl];omega)]
  congr 2
  simp[ecl];omega
theorem open_graphR {H:Type} {enc:TypeId×Value→H} {P:Program} {w:World} {base:Nat} {t E:TypeId} {f0 f1 g0 g1:Field} {v:Value} {d:DataW H} {ps:List MemPlace} (ht:P.underlying t=some (.struct #[f0,f1]))
  (hI:P.underlying f0.type=some (.int .i64)) (hE:P.underlying f1.type=some (.slice E)) (hEu:P.underlying E=some (.struct #[g0,g1])) (hg0:P.underlying g0.type=some (.int .i64)) (hg1:P.underlying g1.type=some (.int .i64))
  (ho0:f0.offset=0) (ho1:f1.offset=1) (hc0:P.cellsOf f0.type=1) (hc1:P.cellsOf f1.type=1) (hct:P.cellsOf t=2) (ce:P.cellsOf E=2) (ho2:g0.offset=0) (ho3:g1.offset=1) (hc2:P.cellsOf g0.type=1) (hc3:P.cellsOf g1.type=1)
  (h:DataW.Trod enc P w 0 (fun _=>true) true t v d ps) (hok:Value.okWide P w .any base t v):
  ∃n p m cap es c,v=gv n p m cap∧Rw ecl 2 p m es c∧m≤maxLen∧(∀q∈c,w.heap[q.1]? =some q.2)∧(c.map (·.1)).Nodup:=by
 have h':∃cs,v= .agg cs∧cs.size=P.cellsOf t∧Row.okWide P w .any base t cs:=by
  simpa only[Value.okWide,ht] using hok
 obtain⟨cs,rfl,hsz,_⟩:=h'
 obtain⟨l⟩:=cs
 rw[hct] at hsz
 obtain⟨a,b,rfl⟩:∃a b,l=[a,b]:=by
  match l,hsz with
  |[a,b],_=>exact⟨a,b,rfl⟩
 obtain⟨fuel,h⟩:=h
 obtain⟨y0,y1,k,_,_,h0,h1⟩:=trod_struct2 ht h
 rw[ho0,hc0] at h0
 rw[ho1,hc1] at h1
 simp only[Value.cells,List.drop_zero,List.drop_succ_cons,List.take_succ_cons,List.take_zero] at h0 h1
 obtain⟨n,hn,_,_⟩:=DataW.trod_int hI h0
 obtain rfl:a= .int .i64 n:=by simpa using hn
 rcases Go.Deep.open_slice_pairs hE hEu ce ho2 ho3 hc2 hc3 h1 with⟨hb,_⟩|⟨ad,len,cap,m,k',V0,V1,D0,D1,P0,P1,hb,_,hl,hm,hmm,_,hx⟩
 ·obtain rfl:b= .slice none 0 0:=by simpa using hb
  exact⟨n,none,0,0,[],[],rfl,⟨rfl,.inl ⟨rfl,rfl⟩⟩,by decide,by simp,by simp⟩
 ·obtain rfl:b= .slice (some ad) len cap:=by simpa using hb
  by_cases hz:len=0
  ·subst hz
   exact⟨n,some ad,0,cap,[],[],rfl,⟨rfl,.inl ⟨rfl,rfl⟩⟩,by decide,by simp,by simp⟩
  ·simp only[if_true] at hmm
   subst hmm
   have each:∀i,i<len→∃e:IE,∀j,j<2→w.cell? (ad.add (i*2+j))=(ecl e)[j]? :=by
    intro i hi
    obtain⟨x0,x1,t0,t1⟩:=hx i (by omega)
    obtain⟨a0,ha0,_,_⟩:=DataW.trod_int hg0 t0
    obtain⟨a1,ha1,_,_⟩:=DataW.trod_int hg1 t1
    refine⟨(a0,a1),fun j hj=> ?_⟩
    match j,hj with
    |0,_=>rw[Nat.add_zero,x0];simpa[ecl] using ha0
    |1,_=>rw[x1];simpa[ecl] using ha1
   obtain⟨bk,off,spot⟩:=ad
   obtain⟨t0,ht0⟩:=each 0 (by omega)
   have hq0:=ht0 0 (by omega)
   have hs:spot=none:=by
    cases spot with
    |none=>rfl
    |some s=>
     exfalso
     simp only[Addr.add,World.cell?,ecl,List.getElem?_cons_zero] at hq0
     revert hq0
     split<;>simp
   subst hs
   have hadd:∀i,((⟨bk,off,none⟩:Addr).add i)=⟨bk,off+i,none⟩:=fun i=>Addr.add_mk ..
   cases hbk:w.heap[bk]? with
   |none=>rw[hadd] at hq0;simp[World.cell?,hbk,ecl] at hq0
   |some ob=>
    cases ob with
    |cells arr T fz=>
     obtain⟨es,hes,hflat⟩:=pairs_of arr.toList len off (fun i hi=>by
      obtain⟨t,ht⟩:=each i hi
      refine⟨t,fun j hj=> ?_⟩
      rw[←ht j hj,hadd,cell_of_row w bk _ arr T fz hbk]
      simp[Nat.add_assoc])
     refine⟨n,_,len,_,es,[(bk,rowf arr.toList T fz)],rfl,⟨hes,.inr ⟨bk,off,arr.toList,T,fz,rfl,rfl,hflat⟩⟩,by omega,?_,by simp⟩
     intro q hq
     simp only[List.mem_singleton] at hq
     subst hq
     simpa[rowf] using hbk
    |_=>rw[hadd] at hq0;simp[World.cell?,hbk,ecl] at hq0
end Go.Proofs.YtlnehgklibbjiaaGreat
namespace Go.Proofs.YtlnehgklibbjiaaGreat
open Go.SL Go.Tup Go.Srt Go.Gr
theorem LabOk.uniq' {g:Nat→Ed} {S:Nat→Prop} {N:Nat} {w:Int} {l l':List Int} (h:LabOk g S N w l) (h':LabOk g S N w l'):l=l':=by
 apply List.ext_getElem?
 intro v
 by_cases hv:v<N
 ·by_cases hw:(v:Int)=w
  ·rw[h.out v hv hw,h'.out v hv hw]
  ·obtain⟨x,h1,h2,_,h3⟩:=h.at_ v hv hw
   obtain⟨y,g1,g2,_,g3⟩:=h'.at_ v hv hw
   have e1:=h3 y g2
   have e2:=g3 x h2
   rw[h1,g1,show x=y by omega]
 ·rw[List.getElem?_eq_none (by rw[h.len];omega),List.getElem?_eq_none (by rw[h'.len];omega)]
theorem least_cn (g:Nat→Ed) (S:Nat→Prop) (v:Nat):∃x,Cn g S v x∧x≤v∧∀u,Cn g S v u→x≤u:=by
 have key:∀n,(∃x,x≤n∧Cn g S v x)→∃x,Cn g S v x∧x≤n∧∀u,Cn g S v u→x≤u:=by
  intro n
  induction n with
  |zero=>
   rintro⟨x,hx,hc⟩
   exact⟨x,hc,hx,fun u _=>by omega⟩
  |succ n ih=>
   rintro⟨x,hx,hc⟩
   by_cases h:∃y,y≤n∧Cn g S v y
   ·obtain⟨y,h1,h2,h3⟩:=ih h
    exact⟨y,h1,by omega,h3⟩
   ·refine⟨x,hc,hx,fun u hu=> ?_⟩
    by_cases hq:u≤n
    ·exact(h ⟨u,hq,hu⟩).elim
    ·omega
 exact key v ⟨v,Nat.le_refl _,.refl _⟩
theorem lab_ex (g:Nat→Ed) (S:Nat→Prop) (N:Nat) (w:Int):∃l,LabOk g S N w l:=by
 let f:Nat→Int:=fun v=>if(v:Int)=w then-1 else((Classical.choose (least_cn g S v):Nat):Int)
 refine⟨(List.range N).map f,by simp,fun v hv hw=> ?_,fun v hv hw=> ?_⟩
 ·obtain⟨h1,h2,h3⟩:=Classical.choose_spec (least_cn g S v)
  refine⟨_,?_,h1,h2,h3⟩
  rw[List.getElem?_map,List.getElem?_range hv]
  show some (f v)=_
  unfold f
  rw[if_neg hw]
 ·rw[List.getElem?_map,List.getElem?_range hv]
  show some (f v)=_
  unfold f
  rw[if_pos hw]
theorem len_sub:∀{a b:List Nat},a.Nodup→(∀x∈a,x∈b)→a.length≤b.length
 |[],_,_,_=>Nat.zero_le _
 |x::a,b,hn,h=>by
  rw[List.nodup_cons] at hn
  have h1:x∈b:=h x List.mem_cons_self
  have h2:=len_sub (a:=a) (b:=b.erase x) hn.2 fun y hy=>by
   have hxy:y≠x:=fun hq=>hn.1 (hq▸hy)
   exact(List.mem_erase_of_ne hxy).2 (h y (List.mem_cons_of_mem _ hy))
  have h3:=List.length_erase_of_mem h1
  have h4:=List.length_pos_of_mem h1
  simp only[List.length_cons];omega
theorem nodup_map_on {f:Nat→Nat}:∀{l:List Nat},l.Nodup→(∀x∈l,∀y∈l,f x=f y→x=y)→(l.map f).Nodup
 |[],_,_=>by simp
 |x::l,hn,h=>by
  rw[List.nodup_cons] at hn
  rw[List.map_cons,List.nodup_cons]
  refine⟨fun hm=> ?_,nodup_map_on hn.2 fun a ha b hb=>h a (List.mem_cons_of_mem _ ha) b (List.mem_cons_of_mem _ hb)⟩
  obtain⟨y,hy,hq⟩:=List.mem_map.1 hm
  have:=h y (List.mem_cons_of_mem _ hy) x List.mem_cons_self hq
  exact hn.1 (this▸hy)
def pcB (l:List Int) (w:Int) (v:Nat):Bool:=decide (iAt l v=(v:Int)∧(v:Int)≠w)
def pcL (N:Nat) (l:List Int) (w:Int):Nat:=((List.range N).filter (pcB l w)).length
section
variable {N m:Nat} {es:List IE} {ls:List (List Int)} {nm:List Int}
structure LgOk (N:Nat) (es:List IE) (l:List Int):Prop where
 lab:LabOk (gE es) (actE es [] (-1)) N (-1) l
theorem actE_all (hf:∀e∈es,inE N e) (i:Nat):actE es [] (-1) i↔i<es.length:=by
 unfold actE
 constructor
 ·rintro⟨e,he,_⟩;exact(List.getElem?_eq_some_iff.1 he).1
 ·intro hi
  have h:=hf _ (List.getElem_mem hi)
  unfold inE at h
  exact⟨_,List.getElem?_eq_getElem hi,by omega,by omega,by simp⟩
theorem LgOk.at_ {l:List Int} (h:LgOk N es l) {u:Nat} (hu:u<N):∃x:Nat,iAt l u=(x:Int)∧Cn (gE es) (actE es [] (-1)) u x∧x≤u∧∀w,Cn (gE es) (actE es [] (-1)) u w→x≤w:=by
 obtain⟨x,h1,h2,h3,h4⟩:=h.lab.at_ u hu (by omega)
 exact⟨x,by unfold iAt;rw[List.getD_eq_getElem?_getD,h1];rfl,h2,h3,h4⟩
theorem LgOk.eq {l:List Int} (h:LgOk N es l) {u w:Nat} (hu:u<N) (hw:w<N):iAt l u=iAt l w↔Cn (gE es) (actE es [] (-1)) u w:=by
 obtain⟨x,h1,h2,_,h3⟩:=h.at_ hu
 obtain⟨y,g1,g2,_,g3⟩:=h.at_ hw
 rw[h1,g1]
 constructor
 ·intro hq
  obtain rfl:x=y:=by omega
  exact h2.trans g2.symm
 ·intro hc
  have a:=h3 y (hc.trans g2)
  have b:=g3 x (hc.symm.trans h2)
  omega
theorem Act_keep (hf:∀e∈es,inE N e) {v u x:Nat} (h:Cn (gE es) (Act es v) u x) (hu:u≠v):x≠v:=by
 cases h with
 |refl=>exact hu
 |step _ hj=>
  obtain⟨i,hi,hq⟩:=hj
  obtain⟨_,h2,h3⟩:=(Act_iff hf).1 hi
  omega
theorem Act_all (hf:∀e∈es,inE N e) {v u x:Nat} (h:Cn (gE es) (Act es v) u x):Cn (gE es) (actE es [] (-1)) u x:=h.mono fun i hi=>(actE_all hf i).2 ((Act_iff hf).1 hi).1
theorem ApOk.rep (hA:ApOk N es ls) (hf:∀e∈es,inE N e) {v u:Nat} (hv:v<N) (hu:u<N) (hne:u≠v):∃x:Nat,lvE ls v u=(x:Int)∧x<N∧x≠v∧lvE ls v x=(x:Int)∧Cn (gE es) (Act es v) u x:=by
 have hl:=lAt_get (ls:=ls) (v:=v) (by rw[hA.len];exact hv)
 obtain⟨y,_,_,y2,_⟩:=(hA.lab v _ hl).at_ u hu (by omega)
 obtain⟨x,h1,h2,h3⟩:=hA.lab_at hv hu hne
 have hx:x<N:=by have:=h3 u (.refl _);omega
 have hxv:=Act_keep hf h2 hne
 refine⟨x,h1,hx,hxv,?_,h2⟩
 rw[←h1]
 exact((hA.lab_eq hv hu hx hne hxv).2 h2).symm
theorem other_end (hf:∀e∈es,inE N e) (hm:es.length=m) {v i:Nat} (hi:i<m) (hn:nonL es i) (hv:Endp es i v):∃a:Nat,a<N∧a≠v∧Endp es i a∧Cn (gE es) (actE es [] (-1)) v a:=by
 have he:=eAt_in hf (i:=i) (by omega)
 unfold inE at he
 unfold nonL at hn
 have hg:=gE_at (es:=es) (i:=i) (by omega)
 have hc:=Cn.edge (g:=gE es) ((actE_all hf i).2 (by omega))
 rw[hg] at hc
 dsimp only at hc
 rcases hv with hv|hv
 ·refine⟨(eAt es i).2.toNat,by omega,by omega,.inr (by omega),?_⟩
  rwa[hv,Int.toNat_natCast] at hc
 ·refine⟨(eAt es i).1.toNat,by omega,by omega,.inl (by omega),?_⟩
  rw[hv,Int.toNat_natCast] at hc
  exact hc.symm
theorem through (hA:ApOk N es ls) (hf:∀e∈es,inE N e) (hm:es.length=m) {v:Nat} (hv:v<N) (hall:∀i k,i<m→k<m→nonL es i→nonL es k→Endp es i v→Endp es k v→sdE es ls v i=sdE es ls v k) {u x:Nat} (huN:u<N) (hu:u≠v) (h:Cn (gE es) (actE es [] (-1)) u x):
  x<N∧(x≠v→Cn (gE es) (Act es v) u x)∧(x=v→∃i a,i<m∧nonL es i∧Endp es i v∧Endp es i a∧a≠v∧a<N∧Cn (gE es) (Act es v) u a):=by
 induction h with
 |refl=>exact⟨huN,fun _=> .refl _,fun h=>(hu h).elim⟩
 | @step b c _ hj ih=>
  obtain⟨hb,i1,i2⟩:=ih
  obtain⟨i,hi,hq⟩:=hj
  have hil:=(actE_all hf i).1 hi
  have he:=eAt_in hf (i:=i) hil
  unfold inE at he
  have hg:=gE_at (es:=es) (i:=i) hil
  rw[hg] at hq
  dsimp only at hq
  have hc:c<N:=by omega
  have hEb:Endp es i b:=by unfold Endp;omega
  have hEc:Endp es i c:=by unfold Endp;omega
  refine⟨hc,fun hcv=> ?_,fun hcv=> ?_⟩
  ·by_cases hbv:b=v
   ·obtain⟨k,a,k1,k2,k3,k4,k5,k6,k7⟩:=i2 hbv
    have hn:nonL es i:=by unfold nonL;omega
    have h1:=hall i k (by omega) k1 hn k2 (hbv▸hEb) k3
    rw[sd_at hA hf hm hv (by omega) hn hEc hcv,sd_at hA hf hm hv k1 k2 k4 k5,hA.lab_eq hv hc k6 hcv k5] at h1
    exact k7.trans h1.symm
   ·have ha:Act es v i:=(Act_iff hf).2 ⟨hil,by rw[hg];dsimp only;omega,by rw[hg];dsimp only;omega⟩
    exact .step (i1 hbv) ⟨i,ha,by rw[hg];exact hq⟩
  ·by_cases hbv:b=v
   ·exact i2 hbv
   ·exact⟨i,b,by omega,by unfold nonL;omega,hcv▸hEc,hEb,hbv,hb,i1 hbv⟩
theorem pieces_le (hA:ApOk N es ls) {l:List Int} (hL:LgOk N es l) (hf:∀e∈es,inE N e) (hm:es.length=m) {v:Nat} (hv:v<N) (hall:∀i k,i<m→k<m→nonL es i→nonL es k→Endp es i v→Endp es k v→sdE es ls v i=sdE es ls v k):
  pcL N (lAt ls v) v≤pcL N l (-1):=by
 unfold pcL
 have hmem:∀u,u∈(List.range N).filter (pcB (lAt ls v) v)→u<N∧u≠v∧lvE ls v u=(u:Int):=fun u hu=>by
  obtain⟨h1,h2⟩:=List.mem_filter.1 hu
  unfold pcB at h2
  have h3:=of_decide_eq_true h2
  exact⟨List.mem_range.1 h1,by omega,h3.1⟩
 rw[←List.length_map (f:=fun u=>(iAt l u).toNat)]
 refine len_sub (nodup_map_on (List.nodup_range.sublist List.filter_sublist) fun x hx y hy hq=> ?_) fun z hz=> ?_
 ·obtain⟨x1,x2,x3⟩:=hmem x hx
  obtain⟨y1,y2,y3⟩:=hmem y hy
  obtain⟨a,a1,_⟩:=hL.at_ x1
  obtain⟨b,b1,_⟩:=hL.at_ y1
  have hc:=(hL.eq x1 y1).1 (by omega)
  have h4:=(through hA hf hm hv hall x1 x2 hc).2.1 y2
  have h5:=(hA.lab_eq hv x1 y1 x2 y2).2 h4
  omega
 ·obtain⟨u,hu,rfl⟩:=List.mem_map.1 hz
  obtain⟨u1,_,_⟩:=hmem u hu
  obtain⟨x,x1,x2,x3,_⟩:=hL.at_ u1
  rw[x1,Int.toNat_natCast]
  refine List.mem_filter.2 ⟨List.mem_range.2 (by omega),decide_eq_true ⟨?_,by omega⟩⟩
  rw[←x1]
  exact((hL.eq u1 (by omega)).2 x2).symm
theorem pieces_lt (hA:ApOk N es ls) {l:List Int} (hL:LgOk N es l) (hf:∀e∈es,inE N e) (hm:es.length=m) {v:Nat} (hv:v<N) {i k:Nat} (hi:i<m) (hk:k<m) (hni:nonL es i) (hnk:nonL es k) (hvi:Endp es i v) (hvk:Endp es k v) (hne:sdE es ls v i≠sdE es ls v k):
  pcL N l (-1)<pcL N (lAt ls v) v:=by
 obtain⟨a,a1,a2,a3,a4⟩:=other_end hf hm hi hni hvi
 obtain⟨b,b1,b2,b3,b4⟩:=other_end hf hm hk hnk hvk
 rw[sd_at hA hf hm hv hi hni a3 a2,sd_at hA hf hm hv hk hnk b3 b2] at hne
 obtain⟨la,p1,p2,p3,p4,p5⟩:=hA.rep hf hv a1 a2
 obtain⟨lb,q1,q2,q3,q4,q5⟩:=hA.rep hf hv b1 b2
 have hin:∀x,x<N→x≠v→lvE ls v x=(x:Int)→x∈(List.range N).filter (pcB (lAt ls v) v):=fun x h1 h2 h3=>List.mem_filter.2 ⟨List.mem_range.2 h1,decide_eq_true ⟨h3,by omega⟩⟩
 have hB:∀z,z∈(List.range N).filter (pcB l (-1))→z<N∧iAt l z=(z:Int):=fun z hz=>by
  obtain⟨h1,h2⟩:=List.mem_filter.1 hz
  unfold pcB at h2
  exact⟨List.mem_range.1 h1,(of_decide_eq_true h2).1⟩
 let g:Nat→Nat:=fun z=>if z=v then la else(lvE ls v z).toNat
 have hg:∀z,z<N→g z∈(List.range N).filter (pcB (lAt ls v) v)∧g z<N∧iAt l (g z)=iAt l z:=fun z hz=>by
  by_cases hq:z=v
  ·have:g z=la:=if_pos hq
   rw[this]
   refine⟨hin la p2 p3 p4,p2,(hL.eq p2 hz).2 ?_⟩
   rw[hq]
   exact(a4.trans (Act_all hf p5)).symm
  ·obtain⟨x,x1,x2,x3,x4,x5⟩:=hA.rep hf hv hz hq
   have:g z=x:=by
    show(if z=v then la else(lvE ls v z).toNat)=x
    rw[if_neg hq,x1,Int.toNat_natCast]
   rw[this]
   exact⟨hin x x2 x3 x4,x2,(hL.eq x2 hz).2 (Act_all hf x5).symm⟩
 have hinj:∀x∈(List.range N).filter (pcB l (-1)),∀y∈(List.range N).filter (pcB l (-1)),g x=g y→x=y:=fun x hx y hy hq=>by
  obtain⟨x1,x2⟩:=hB x hx
  obtain⟨y1,y2⟩:=hB y hy
  have h1:=(hg x x1).2.2
  have h2:=(hg y y1).2.2
  rw[hq] at h1
  omega
 have hnd:=nodup_map_on (f:=g) (List.nodup_range.sublist List.filter_sublist) hinj
 have hlab:iAt l la=iAt l v∧iAt l lb=iAt l v:=⟨(hL.eq p2 hv).2 (a4.trans (Act_all hf p5)).symm,(hL.eq q2 hv).2 (b4.trans (Act_all hf q5)).symm⟩
 obtain⟨z0,z1,z2,z3,_⟩:=hL.at_ hv
 have hz0:z0<N:=by omega
 have hex:∃x,x<N∧x≠v∧lvE ls v x=(x:Int)∧iAt l x=iAt l v∧x≠g z0:=by
  by_cases hq:la=g z0
  ·exact⟨lb,q2,q3,q4,hlab.2,fun h=>hne (by rw[p1,q1,hq,h])⟩
  ·exact⟨la,p2,p3,p4,hlab.1,hq⟩
 obtain⟨x,x1,x2,x3,x4,x5⟩:=hex
 have hxn:x∉((List.range N).filter (pcB l (-1))).map g:=fun hx=>by
  obtain⟨z,hz,hq⟩:=List.mem_map.1 hx
  obtain⟨w1,w2⟩:=hB z hz
  have h1:=(hg z w1).2.2
  rw[hq,x4,z1,w2] at h1
  have:z=z0:=by omega
  subst this
  exact x5 hq.symm
 have hfin:=len_sub (a:=x::((List.range N).filter (pcB l (-1))).map g) (b:=(List.range N).filter (pcB (lAt ls v) v)) (List.nodup_cons.2 ⟨hxn,hnd⟩) fun y hy=>by
  rcases List.mem_cons.1 hy with rfl|hy1
  ·exact hin y x1 x2 x3
  ·obtain⟨z,hz,rfl⟩:=List.mem_map.1 hy1
   exact(hg z (hB z hz).1).1
 rw[List.length_cons,List.length_map] at hfin
 unfold pcL
 omega
theorem pieces_iff (hA:ApOk N es ls) (h:NamesOk N m es ls nm) {l:List Int} (hL:LgOk N es l) (hf:∀e∈es,inE N e) (hm:es.length=m) {v:Nat} (hv:v<N):pcL N l (-1)<pcL N (lAt ls v) v↔∃x y:Int,x≠y∧Inc m es nm v x∧Inc m es nm v y:=by
 constructor
 ·intro hlt
  refine Classical.byContradiction fun hno=> ?_
  have:=pieces_le hA hL hf hm hv fun i k hi hk hni hnk hvi hvk=>by
   have hnn:iAt nm i=iAt nm k:=Classical.byContradiction fun hq=>hno ⟨_,_,hq,⟨i,hi,rfl,h.some_ hi hni,hvi⟩,⟨k,hk,rfl,h.some_ hk hnk,hvk⟩⟩
   exact(h.eq hi hk hni hnk).1 hnn v hv
  omega
 ·rintro⟨x,y,hxy,⟨i,hi,i1,i2,i3⟩,⟨k,hk,k1,k2,k3⟩⟩
  have hni:=(h.of hi (by omega)).1
  have hnk:=(h.of hk (by omega)).1
  refine pieces_lt hA hL hf hm hv hi hk hni hnk i3 k3 fun hq=>hxy ?_
  rw[←i1,←k1]
  exact(h.eq hi hk hni hnk).2 (sg_of hA hf hm hi hk hni hnk i3 k3 hq)
end
def aloneB (m:Nat) (es:List IE) (v:Nat):Bool:=(List.range m).all fun i=> ! decide ((eAt es i).1≠(eAt es i).2∧((eAt es i).1=(v:Int)∨(eAt es i).2=(v:Int)))
theorem aloneB_iff {m:Nat} {es:List IE} {v:Nat}:aloneB m es v=true↔∀i,i<m→¬((eAt es i).1≠(eAt es i).2∧((eAt es i).1=(v:Int)∨(eAt es i).2=(v:Int))):=by
 unfold aloneB;simp only[List.all_eq_true,List.mem_range,Bool.not_eq_true',decide_eq_false_iff_not]
theorem Alone_ct (N:Nat) (p:Option Addr) (m cap:Nat) (es:List IE) (c:Chunk) (hv:Rw ecl 2 p m es c) (hm:m≤1000000) (v:Nat):
  CtQ Tryz.prog 68 [gv N p m cap,.int .i64 (v:Int)] [c] (.bool (aloneB m es v)):=by
 have hl:=hv.1
 have hiff:=aloneB_iff (m:=m) (es:=es) (v:=v)
 unfold gv
 refine Ct.intro Tryz.func68 rfl Tryz.ntmps68 (nle rfl) fun w0=> ?_;dsimp only[argSlots,Nat.reduceAdd]
 repeat(refine st ?_;intros)
 rename_i b2
 refine G.loop (X:=Nat) (fun i=>i≤m∧∀j,j<i→¬((eAt es j).1≠(eAt es j).2∧((eAt es j).1=(v:Int)∨(eAt es j).2=(v:Int))))
  (fun i=>[(5,.int .i64 (i:Int)),(2,pv b2),(1,.int .i64 (v:Int))]) (fun _=>[[(b2,row [.int .i64 (N:Int),.slice p m cap] 37)],c]) (fun i=>m-i) 0 ⟨Nat.zero_le _,fun j h=>absurd h (Nat.not_lt_zero _)⟩ (body:= ?_)
 rintro i ⟨hi,hno⟩
 by_cases hlt:i<m
 rotate_left
 ·obtain rfl:i=m:=by omega
  rw[hiff.2 hno]
  repeat(refine st ?_;intros)
  (refine Dn.post (Hr:=[c]) Tryz.results68 (hR:= ?_);exact⟨rfl,rfl⟩)
 obtain⟨b,off,cs,T,fz,rfl,rfl,hcut,_⟩:=hv.pos ecl_len (by omega)
 have hc:=hcut i _ (eAt_get (by omega))
 have hnx:¬((eAt es i).1≠(eAt es i).2∧((eAt es i).1=(v:Int)∨(eAt es i).2=(v:Int)))→∀j,j<i+1→¬((eAt es j).1≠(eAt es j).2∧((eAt es j).1=(v:Int)∨(eAt es j).2=(v:Int))):=fun h j hj=>by
  rcases Nat.eq_or_lt_of_le (Nat.lt_succ_iff.1 hj) with rfl|h1
  ·exact h
  ·exact hno j h1
 have hye:((eAt es i).1≠(eAt es i).2∧((eAt es i).1=(v:Int)∨(eAt es i).2=(v:Int)))→aloneB m es v=false:=fun h=>by
  cases hq:aloneB m es v with
  |false=>rfl
  |true=>exact(hiff.1 hq i hlt h).elim
 generalize he:eAt es i=e at*
 obtain⟨x,y⟩:=e
 dsimp only at hnx hye
 have hc':(cs.drop (off+i*2)).take 2=[.int .i64 x,.int .i64 y]:=hc
 by_cases g0:x=y
 ·repeat(refine st ?_;intros)
  refine Dn.round (i+1) ⟨hlt,hnx (by omega)⟩ (by omega)
 by_cases g1:x=(v:Int)
 ·rw[hye ⟨g0,.inl g1⟩]
  repeat(refine st ?_;intros)
  (refine Dn.post (Hr:=[[(b,rowf cs T fz)]]) Tryz.results68 (hR:= ?_);exact⟨rfl,rfl⟩)
 by_cases g2:y=(v:Int)
 ·rw[hye ⟨g0,.inr g2⟩]
  repeat(refine st ?_;intros)
  (refine Dn.post (Hr:=[[(b,rowf cs T fz)]]) Tryz.results68 (hR:= ?_);exact⟨rfl,rfl⟩)
 ·repeat(refine st ?_;intros)
  refine Dn.round (i+1) ⟨hlt,hnx (by omega)⟩ (by omega)
theorem pcL_succ (n:Nat) (l:List Int) (w:Int):((List.range (n+1)).filter (pcB l w)).length=((List.range n).filter (pcB l w)).length+if pcB l w n then 1 else 0:=by
 rw[List.range_succ,List.filter_append,List.length_append]
 cases h:pcB l w n<;>simp[h]
theorem pc_le (n:Nat) (l:List Int) (w:Int):((List.range n).filter (pcB l w)).length≤n:=by
 have:=List.length_filter_le (pcB l w) (List.range n)
 rwa[List.length_range] at this
structure PcX where
 v:Nat
 n:Nat
theorem Pieces_ct (N:Nat) (hN:N≤1000000) (p:Option Addr) (m cap:Nat) (es:List IE) (c:Chunk) (hv:Rw ecl 2 p m es c) (hm:m≤1000000) (hf:∀e∈es,inE N e) (w:Int) (l:List Int) (hL:LabOk (gE es) (actE es [] w) N w l):
  CtQ Tryz.prog 69 [gv N p m cap,.int .i64 w] [c] (.int .i64 ((pcL N l w:Nat):Int)):=by
 have hLb:=LabelsN_ct N hN p m cap es c hv hm hf w
 unfold gv at hLb⊢
 refine Ct.intro Tryz.func69 rfl Tryz.ntmps69 (nle rfl) fun w0=> ?_;dsimp only[argSlots,Nat.reduceAdd]
 repeat(refine st ?_;intros)
 rename_i b2
 refine R.call (hct:=hLb) (h:= ?_)
 rintro _ _ ⟨bl,l',rfl,rfl,hl'⟩
 try dsimp only[List.cons_append,List.nil_append]
 obtain rfl:=hL.uniq' hl'
 have hlen:=hL.len
 repeat(refine st ?_;intros)
 refine G.loop (X:=PcX) (fun s=>s.v≤N∧s.n=((List.range s.v).filter (pcB l w)).length)
  (fun s=>[(7,.int .i64 (s.v:Int)),(6,.int .i64 (s.n:Int)),(5,.slice (some ⟨bl,0,none⟩) N N),(2,pv b2),(1,.int .i64 w)]) (fun _=>[[(b2,row [.int .i64 (N:Int),.slice p m cap] 37)],c,[(bl,row (rcells l) 3)]]) (fun s=>N-s.v) ⟨0,0⟩ ⟨Nat.zero_le _,rfl⟩ (body:= ?_)
 rintro⟨v,n⟩ ⟨hvN,hn⟩
 dsimp only at hvN hn⊢
 by_cases hlt:v<N
 rotate_left
 ·obtain rfl:v=N:=by omega
  have hfin:n=pcL v l w:=hn
  rw[←hfin]
  repeat(refine st ?_;intros)
  (refine Dn.post (Hr:=[c]) Tryz.results69 (hR:= ?_);exact⟨rfl,rfl⟩)
 have q:=rcells_get (iAt_get (l:=l) (i:=v) (by omega))
 have hs:=pcL_succ v l w
 have hle:=pc_le v l w
 have hb:pcB l w v=decide (iAt l v=(v:Int)∧(v:Int)≠w):=rfl
 have e1:IntKind.wrap .i64 ((n:Int)+1)=((n+1:Nat):Int):=wrap_i64 (by omega)
 rw[hb] at hs
 generalize iAt l v=x at*
 by_cases g1:x=(v:Int)
 ·by_cases g2:(v:Int)=w
  ·rw[decide_eq_false (by omega)] at hs
   repeat(refine st ?_;intros)
   refine Dn.round ⟨v+1,n⟩ ⟨hlt,by dsimp only;rw[hs,←hn];rfl⟩ (by dsimp only;omega)
  ·rw[decide_eq_true ⟨g1,g2⟩] at hs
   repeat(refine st ?_;intros)
   refine Dn.round ⟨v+1,n+1⟩ ⟨hlt,by dsimp only;rw[hs,←hn];rfl⟩ (by dsimp only;omega)
 ·rw[decide_eq_false (fun h=>g1 h.1)] at hs
  repeat(refine st ?_;intros)
  refine Dn.round ⟨v+1,n⟩ ⟨hlt,by dsimp only;rw[hs,←hn];rfl⟩ (by dsimp only;omega)
def touB (es:List IE) (nm:List Int) (v b i:Nat):Bool:=decide (iAt nm i=(b:Int)∧((eAt es i).1=(v:Int)∨(eAt es i).2=(v:Int)))
def touchB (m:Nat) (es:List IE) (nm:List Int) (v b:Nat):Bool:=(List.range m).any (touB es nm v b)
def keptB (N m:Nat) (es:List IE) (ls:List (List Int)) (lg:List Int) (v:Nat):Bool:= ! aloneB m es v&&decide (pcL N lg (-1)<pcL N (lAt ls v) v)
def prL (m:Nat) (es:List IE) (nm:List Int) (v n:Nat):List T5:=((List.range n).filter (touchB m es nm v)).map fun (b:Nat)=>⟨(v:Int),(b:Int),0,0,0⟩
def outR (N m:Nat) (es:List IE) (ls:List (List Int)) (lg:List Int) (nm:List Int) (n:Nat):List T5:=(List.range n).flatMap fun v=>if keptB N m es ls lg v then prL m es nm v m else[]
theorem outR_succ (N m:Nat) (es:List IE) (ls:List (List Int)) (lg:List Int) (nm:List Int) (n:Nat):outR N m es ls lg nm (n+1)=outR N m es ls lg nm n++if keptB N m es ls lg n then prL m es nm n m else[]:=by
 unfold outR;rw[List.range_succ,List.flatMap_append];simp
theorem prL_succ (m:Nat) (es:List IE) (nm:List Int) (v n:Nat):prL m es nm v (n+1)=prL m es nm v n++if touchB m es nm v n then[⟨(v:Int),(n:Int),0,0,0⟩] else[]:=by
 unfold prL
 rw[List.range_succ,List.filter_append,List.map_append]
 cases h:touchB m es nm v n<;>simp[h]
theorem any_succ (f:Nat→Bool) (i:Nat):(List.range (i+1)).any f=((List.range i).any f||f i):=by
 rw[List.range_succ,List.any_append];simp
structure R1X where
 v:Nat
 n:Nat
 p:Option Addr
 cap:Nat
 ch:Chunk
structure R3X where
 i:Nat
 fl:Bool
structure R2X where
 b:Nat
 n:Nat
 p:Option Addr
 cap:Nat
 ch:Chunk
theorem Cuts21R_ct (N:Nat) (hN:N≤1000) (p:Option Addr) (m cap:Nat) (es:List IE) (c:Chunk) (hv:Rw ecl 2 p m es c) (hm:m≤1000) (hf:∀e∈es,inE N e) (lg:List Int) (hLg:LgOk N es lg):
  Ct Tryz.prog 36 [gv N p m cap] [c] fun v H'=>∃pb nb kb cb nm ls,v= .slice pb nb kb∧H'=[c,cb]∧ApOk N es ls∧NamesOk N m es ls nm∧RV pb nb (outR N m es ls lg nm N) cb:=by
 have hl:=hv.1
 have hNm:=Names_ct N (by omega) p m cap es c hv (by omega) hf
 unfold gv at hNm⊢
 refine Ct.intro Tryz.func36 rfl Tryz.ntmps36 (nle rfl) fun w0=> ?_;dsimp only[argSlots,Nat.reduceAdd]
 repeat(first|(refine st ?_;intros)|refine G.draw (id:=6) [(2,.quiet),(6,.quiet),(8,.quiet)] (h:= ?_)|(refine cq hAl ?_)|(refine cq hP1 ?_)|(refine cq hP2 ?_))
 rename_i b1
 refine R.call (hct:=hNm) (h:= ?_)
 rintro _ _ ⟨bn,nm,ls,rfl,rfl,hO,hNO⟩
 try dsimp only[List.cons_append,List.nil_append]
 have hnl:=hNO.len
 have hP2:=Pieces_ct N (by omega) p m cap es c hv (by omega) hf (-1) lg hLg.lab
 unfold gv at hP2
 repeat(first|(refine st ?_;intros)|refine G.draw (id:=6) [(2,.quiet),(6,.quiet),(8,.quiet)] (h:= ?_)|(refine cq hAl ?_)|(refine cq hP1 ?_)|(refine cq hP2 ?_))
 refine G.loop (X:=R1X) (fun s=>s.v≤N∧s.n≤s.v*m∧Vec 47 5 s.p s.n s.cap (flat (outR N m es ls lg nm s.v)) s.ch)
  (fun s=>[(5,.int .i64 (s.v:Int)),(3,.slice s.p s.n s.cap),(4,.slice (some ⟨bn,0,none⟩) m m),(1,pv b1)])
  (fun s=>[s.ch,[(b1,row [.int .i64 (N:Int),.slice p m cap] 37)],[(bn,row (rcells nm) 3)],c]) (fun s=>N-s.v) ⟨0,0,none,0,[]⟩ ⟨Nat.zero_le _,Nat.zero_le _,Vec.nil _ _⟩ (by repeat(first|exact trivial|refine⟨rfl,?_⟩)) (by repeat(first|exact Split.nil|(apply Split.cons;·(first|exact Take.nil|(repeat(first|exact Take.here|apply Take.there)))))) ?_
 rintro⟨v,n,q,qc,ch⟩ ⟨hvN,hnv,hV⟩
 dsimp only at hvN hnv hV⊢
 by_cases hlt:v<N
 rotate_left
 ·obtain rfl:v=N:=by omega
  repeat(first|(refine st ?_;intros)|refine G.draw (id:=6) [(2,.quiet),(6,.quiet),(8,.quiet)] (h:= ?_)|(refine cq hAl ?_)|(refine cq hP1 ?_)|(refine cq hP2 ?_))
  (refine Dn.post (Hr:=[c,ch]) Tryz.results36 (hR:= ?_);exact⟨q,n,qc,ch,nm,ls,rfl,rfl,hO,hNO,RV.vec hV⟩)
 have hAl:=Alone_ct N p m cap es c hv (by omega) v
 have hP1:=Pieces_ct N (by omega) p m cap es c hv (by omega) hf (v:Int) (lAt ls v) (hO.lab v _ (lAt_get (by rw[hO.len];exact hlt)))
 unfold gv at hAl hP1
 have hos:=outR_succ N m es ls lg nm v
 have hkb:keptB N m es ls lg v=(! aloneB m es v&&decide (pcL N lg (-1)<pcL N (lAt ls v) v)):=rfl
 have hvm:(v+1)*m=v*m+m:=Nat.succ_mul _ _
 have hvm2:(v+1)*m≤1000*1000:=Nat.mul_le_mul (by omega) hm
 generalize hpc1:pcL N (lAt ls v) v=pc1 at*
 generalize hpc2:pcL N lg (-1)=pc2 at*
 cases hal:aloneB m es v with
 |true=>
  rw[hal] at hAl hkb
  rw[hkb] at hos
  simp only[Bool.not_true,Bool.false_and,Bool.false_eq_true,if_false,List.append_nil] at hos
  repeat(first|(refine st ?_;intros)|refine G.draw (id:=6) [(2,.quiet),(6,.quiet),(8,.quiet)] (h:= ?_)|(refine cq hAl ?_)|(refine cq hP1 ?_)|(refine cq hP2 ?_))
  refine Dn.round ⟨v+1,n,q,qc,ch⟩ ⟨hlt,by dsimp only;omega,by dsimp only;rw[hos];exact hV⟩ (by dsimp only;omega)
 |false=>
 rw[hal] at hAl hkb
 by_cases hpp:pc2<pc1
 rotate_left
 ·rw[hkb,decide_eq_false hpp] at hos
  simp only[Bool.and_false,Bool.false_eq_true,if_false,List.append_nil] at hos
  repeat(first|(refine st ?_;intros)|refine G.draw (id:=6) [(2,.quiet),(6,.quiet),(8,.quiet)] (h:= ?_)|(refine cq hAl ?_)|(refine cq hP1 ?_)|(refine cq hP2 ?_))
  refine Dn.round ⟨v+1,n,q,qc,ch⟩ ⟨hlt,by dsimp only;omega,by dsimp only;rw[hos];exact hV⟩ (by dsimp only;omega)
 rw[hkb,decide_eq_true hpp] at hos
 simp only[Bool.not_false,Bool.and_self,if_true] at hos
 repeat(first|(refine st ?_;intros)|refine G.draw (id:=6) [(2,.quiet),(6,.quiet),(8,.quiet)] (h:= ?_)|(refine cq hAl ?_)|(refine cq hP1 ?_)|(refine cq hP2 ?_))
 refine G.loop (X:=R2X) (fun s=>s.b≤m∧s.n≤v*m+s.b∧Vec 47 5 s.p s.n s.cap (flat (outR N m es ls lg nm v++prL m es nm v s.b)) s.ch)
  (fun s=>[(6,.int .i64 (s.b:Int)),(5,.int .i64 (v:Int)),(3,.slice s.p s.n s.cap),(4,.slice (some ⟨bn,0,none⟩) m m),(1,pv b1)])
  (fun s=>[s.ch,[(b1,row [.int .i64 (N:Int),.slice p m cap] 37)],[(bn,row (rcells nm) 3)],c]) (fun s=>m-s.b) ⟨0,n,q,qc,ch⟩ ⟨Nat.zero_le _,hnv,by
   dsimp only
   rw[show prL m es nm v 0=[] from rfl,List.append_nil];exact hV⟩ (body:= ?_)
 rintro⟨b,n2,q2,qc2,ch2⟩ ⟨hbm,hnb,hV2⟩
 dsimp only at hbm hnb hV2⊢
 by_cases hlb:b<m
 rotate_left
 ·obtain rfl:b=m:=by omega
  repeat(first|(refine st ?_;intros)|refine G.draw (id:=6) [(2,.quiet),(6,.quiet),(8,.quiet)] (h:= ?_)|(refine cq hAl ?_)|(refine cq hP1 ?_)|(refine cq hP2 ?_))
  refine Dn.round ⟨v+1,n2,q2,qc2,ch2⟩ ⟨hlt,by dsimp only;omega,by dsimp only;rw[hos];exact hV2⟩ (by dsimp only;omega)
 have hps:=prL_succ m es nm v b
 repeat(first|(refine st ?_;intros)|refine G.draw (id:=6) [(2,.quiet),(6,.quiet),(8,.quiet)] (h:= ?_)|(refine cq hAl ?_)|(refine cq hP1 ?_)|(refine cq hP2 ?_))
 refine G.loop (X:=R3X) (fun s=>s.i≤m∧s.fl=(List.range s.i).any (touB es nm v b)) (fun s=>[(8,.int .i64 (s.i:Int)),(7,.bool s.fl),(6,.int .i64 (b:Int)),(5,.int .i64 (v:Int)),(3,.slice q2 n2 qc2),(4,.slice (some ⟨bn,0,none⟩) m m),(1,pv b1)])
  (fun _=>[ch2,[(b1,row [.int .i64 (N:Int),.slice p m cap] 37)],[(bn,row (rcells nm) 3)],c]) (fun s=>m-s.i) ⟨0,false⟩ ⟨Nat.zero_le _,rfl⟩ (body:= ?_)
 rintro⟨i,fl⟩ ⟨hi,hfl⟩
 dsimp only at hi hfl⊢
 by_cases hli:i<m
 ·have hq:=rcells_get (iAt_get (l:=nm) (i:=i) (by omega))
  obtain⟨b0,off,cs,T,fz,rfl,rfl,_,hget⟩:=hv.pos ecl_len (by omega)
  have hei:=eAt_get (es:=es) (i:=i) (by omega)
  have q0:=hget i 0 _ _ hei rfl
  have q1:=hget i 1 _ _ hei rfl
  rw[Nat.add_zero] at q0
  have has:=any_succ (touB es nm v b) i
  have htb:touB es nm v b i=decide (iAt nm i=(b:Int)∧((eAt es i).1=(v:Int)∨(eAt es i).2=(v:Int))):=rfl
  generalize iAt nm i=x at*
  generalize (eAt es i).1=ix at*
  generalize (eAt es i).2=iy at*
  rw[htb] at has
  rw[←hfl] at has
  cases fl with
  |true=>
   rw[Bool.true_or] at has
   repeat(first|(refine st ?_;intros)|refine G.draw (id:=6) [(2,.quiet),(6,.quiet),(8,.quiet)] (h:= ?_)|(refine cq hAl ?_)|(refine cq hP1 ?_)|(refine cq hP2 ?_))
   refine Dn.round ⟨i+1,true⟩ ⟨hli,has.symm⟩ (by dsimp only;omega)
  |false=>
   rw[Bool.false_or] at has
   by_cases g0:x=(b:Int)
   ·by_cases g1:ix=(v:Int)
    ·rw[decide_eq_true ⟨g0,.inl g1⟩] at has
     repeat(first|(refine st ?_;intros)|refine G.draw (id:=6) [(2,.quiet),(6,.quiet),(8,.quiet)] (h:= ?_)|(refine cq hAl ?_)|(refine cq hP1 ?_)|(refine cq hP2 ?_))
     refine Dn.round ⟨i+1,true⟩ ⟨hli,has.symm⟩ (by dsimp only;omega)
    ·by_cases g2:iy=(v:Int)
     ·rw[decide_eq_true ⟨g0,.inr g2⟩] at has
      repeat(first|(refine st ?_;intros)|refine G.draw (id:=6) [(2,.quiet),(6,.quiet),(8,.quiet)] (h:= ?_)|(refine cq hAl ?_)|(refine cq hP1 ?_)|(refine cq hP2 ?_))
      refine Dn.round ⟨i+1,dec (iy=(v:Int))⟩ ⟨hli,by dsimp only;rw[dec_true g2];exact has.symm⟩ (by dsimp only;omega)
     ·rw[decide_eq_false (by omega)] at has
      repeat(first|(refine st ?_;intros)|refine G.draw (id:=6) [(2,.quiet),(6,.quiet),(8,.quiet)] (h:= ?_)|(refine cq hAl ?_)|(refine cq hP1 ?_)|(refine cq hP2 ?_))
      refine Dn.round ⟨i+1,dec (iy=(v:Int))⟩ ⟨hli,by dsimp only;rw[dec_false g2];exact has.symm⟩ (by dsimp only;omega)
   ·rw[decide_eq_false (fun h=>g0 h.1)] at has
    repeat(first|(refine st ?_;intros)|refine G.draw (id:=6) [(2,.quiet),(6,.quiet),(8,.quiet)] (h:= ?_)|(refine cq hAl ?_)|(refine cq hP1 ?_)|(refine cq hP2 ?_))
    refine Dn.round ⟨i+1,false⟩ ⟨hli,has.symm⟩ (by dsimp only;omega)
 obtain rfl:i=m:=by omega
 have htc:touchB i es nm v b=(List.range i).any (touB es nm v b):=rfl
 rw[htc,←hfl] at hps
 have hmx:n2+1≤maxLen:=by simp only[maxLen];omega
 cases fl with
 |false=>
  simp only[Bool.false_eq_true,if_false,List.append_nil] at hps
  repeat(first|(refine st ?_;intros)|refine G.draw (id:=6) [(2,.quiet),(6,.quiet),(8,.quiet)] (h:= ?_)|(refine cq hAl ?_)|(refine cq hP1 ?_)|(refine cq hP2 ?_))
  refine Dn.round ⟨b+1,n2,q2,qc2,ch2⟩ ⟨hlb,by dsimp only;omega,by dsimp only;rw[hps];exact hV2⟩ (by dsimp only;omega)
 |true=>
  simp only[if_true] at hps
  have hsn:flat (outR N i es ls lg nm v++prL i es nm v (b+1))=flat (outR N i es ls lg nm v++prL i es nm v b)++[.int .i64 (v:Int),.int .i64 (b:Int),.int .i64 0,.int .i64 0,.int .i64 0]:=by
   rw[hps,←List.append_assoc,flat_append _ [_]];rfl
  repeat(first|(refine st ?_;intros)|refine G.draw (id:=6) [(2,.quiet),(6,.quiet),(8,.quiet)] (h:= ?_)|(refine cq hAl ?_)|(refine cq hP1 ?_)|(refine cq hP2 ?_))
  rename_i p' cap' c' hV'
  have hV3:Vec 47 5 p' (n2+1) cap' (flat (outR N i es ls lg nm v++prL i es nm v (b+1))) c':=by rw[hsn];exact hV'
  refine Dn.round ⟨b+1,n2+1,p',cap',c'⟩ ⟨hlb,by dsimp only;omega,hV3⟩ (by dsimp only;omega)
section
variable {N m:Nat} {es:List IE} {ls:List (List Int)} {nm lg:List Int}
theorem touch_iff (hNO:NamesOk N m es ls nm) {v b:Nat}:touchB m es nm v b=true↔Inc m es nm (v:Int) (b:Int):=by
 unfold touchB
 rw[List.any_eq_true]
 constructor
 ·rintro⟨i,hi,h⟩
  obtain⟨h1,h2⟩:=of_decide_eq_true h
  exact⟨i,List.mem_range.1 hi,h1,by omega,h2⟩
 ·rintro⟨i,hi,h1,_,h3⟩
  exact⟨i,List.mem_range.2 hi,decide_eq_true ⟨h1,h3⟩⟩
theorem kept_iff (hA:ApOk N es ls) (hNO:NamesOk N m es ls nm) (hL:LgOk N es lg) (hf:∀e∈es,inE N e) (hm:es.length=m) {v:Nat} (hv:v<N):keptB N m es ls lg v=true↔∃x y:Int,x≠y∧Inc m es nm v x∧Inc m es nm v y:=by
 unfold keptB
 rw[Bool.and_eq_true,decide_eq_true_iff,pieces_iff hA hNO hL hf hm hv]
 constructor
 ·exact fun h=>h.2
 ·intro h
  refine⟨?_,h⟩
  obtain⟨x,_,_,⟨i,hi,h1,h2,h3⟩,_⟩:=h
  cases hq:aloneB m es v with
  |false=>rfl
  |true=>exact(aloneB_iff.1 hq i hi ⟨(hNO.of hi (by omega)).1,h3⟩).elim
theorem outR_is (hA:ApOk N es ls) (hNO:NamesOk N m es ls nm) (hL:LgOk N es lg) (hf:∀e∈es,inE N e) (hm:es.length=m) (hN:N≤1000000) (hmb:m≤1000000):outR N m es ls lg nm N=cutsF (edT es) (blkL nm m):=by
 have hmem:∀{v:Nat} {z:T5},z∈(if keptB N m es ls lg v then prL m es nm v m else[])↔keptB N m es ls lg v=true∧∃b,b<m∧touchB m es nm v b=true∧z=⟨(v:Int),(b:Int),0,0,0⟩:=fun {v z}=>by
  cases keptB N m es ls lg v with
  |false=>simp
  |true=>
   simp only[if_true,true_and]
   unfold prL
   rw[List.mem_map]
   constructor
   ·rintro⟨b,hb,rfl⟩
    obtain⟨h1,h2⟩:=List.mem_filter.1 hb
    exact⟨b,List.mem_range.1 h1,h2,rfl⟩
   ·rintro⟨b,h1,h2,rfl⟩
    exact⟨b,List.mem_filter.2 ⟨List.mem_range.2 h1,h2⟩,rfl⟩
 refine o12eq ?_ (cuts_rise _ _) fun z=> ?_
 ·unfold outR
  rw[List.pairwise_flatMap]
  refine⟨fun v _=> ?_,List.pairwise_lt_range.imp fun {a b} hab=> ?_⟩
  ·split
   ·unfold prL
    rw[List.pairwise_map]
    refine(List.pairwise_lt_range.filter _).imp fun {a b} hab=> ?_
    unfold o12R;dsimp only;omega
   ·exact .nil
  ·intro x hx y hy
   obtain⟨_,_,_,_,rfl⟩:=hmem.1 hx
   obtain⟨_,_,_,_,rfl⟩:=hmem.1 hy
   unfold o12R;dsimp only;omega
 ·rw[cuts_mem hNO hm hf hN hmb]
  unfold outR
  rw[List.mem_flatMap]
  constructor
  ·rintro⟨v,hv,hz⟩
   obtain⟨h1,b,h2,h3,rfl⟩:=hmem.1 hz
   dsimp only
   have hI:=(touch_iff hNO).1 h3
   obtain⟨x,y,hxy,hx,hy⟩:=(kept_iff hA hNO hL hf hm (List.mem_range.1 hv)).1 h1
   refine⟨hI,rfl,?_⟩
   by_cases hq:x=(b:Int)
   ·exact⟨y,by omega,hy⟩
   ·exact⟨x,hq,hx⟩
  ·rintro⟨hI,hz,x,hx,hx2⟩
   obtain⟨w,i,k,w1,w2,w3,_,w5,_⟩:=hI.edge hNO hf hm
   rw[w1,w3] at hI hz
   rw[w1] at hx2
   rw[w3] at hx
   exact⟨w,List.mem_range.2 w2,hmem.2 ⟨(kept_iff hA hNO hL hf hm w2).2 ⟨_,_,hx,hx2,hI⟩,k,w5,(touch_iff hNO).2 hI,hz⟩⟩
end
end Go.Proofs.YtlnehgklibbjiaaGreat
