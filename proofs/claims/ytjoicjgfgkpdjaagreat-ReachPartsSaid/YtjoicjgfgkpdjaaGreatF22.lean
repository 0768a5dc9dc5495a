/-
  Parts of the proof, put together: OrdM, Join, Look, Look2, Look3, LookS, Js, Rws, Js2, Len64, ReachP. No condition.
-/
import Derived.Laws.MathBits
import Derived.Test.YtjoicjgfgkpdjaaGreatF21
set_option linter.unusedVariables false
set_option linter.unusedSimpArgs false
set_option linter.unnecessarySimpa false
set_option maxHeartbeats 4000000
namespace Go.Proofs.YtjoicjgfgkpdjaaGreat
open Go.SL Go.Tup Go.Srt
theorem eqv_o1 {a b:T5}:eqv (ltO o1) a b=true↔a.c0=b.c0:=by
 have h1:ltO o1 a b=false↔¬a.c0<b.c0:=by rw[←ltO_o1];simp
 have h2:ltO o1 b a=false↔¬b.c0<a.c0:=by rw[←ltO_o1];simp
 rw[eqv_iff,h1,h2];omega
theorem eqv_o1d (a:T5):eqv (ltO o1) a=fun b=>decide (a.c0=b.c0):=by
 funext b
 cases h:eqv (ltO o1) a b with
 |true=>exact(decide_eq_true (eqv_o1.1 h)).symm
 |false=>
  refine(decide_eq_false fun h2=> ?_).symm
  rw[eqv_o1.2 h2] at h;cases h
theorem srt_o1t (l:List T5):(srt (ltO o1) true l).Pairwise fun a c=>a.c0<c.c0:=
 (sd_srt (ltO_swo o1) true l).imp fun {a b} h=>(ltO_o1 a b).1 (by simpa using h)
theorem once_mem {l:List T5} {z:T5}:z∈srt (ltO o1) true l↔(l.filter fun b=>decide (z.c0=b.c0)).head? =some z:=by
 have hp:=sp_srt (ltO_swo o1) true l z
 have hs:=srt_o1t l
 rw[eqv_o1d] at hp
 simp only[keepC,if_true] at hp
 have hh:∀m:List T5,m.head? =some z↔m.take 1=[z]:=by
  intro m;cases m<;>simp
 rw[hh,hp]
 constructor
 ·intro hz
  have hm:z∈(srt (ltO o1) true l).filter fun b=>decide (z.c0=b.c0):=List.mem_filter.2 ⟨hz,by simp⟩
  have hpw:((srt (ltO o1) true l).filter fun b=>decide (z.c0=b.c0)).Pairwise fun a c=>a.c0<c.c0:=hs.sublist List.filter_sublist
  have hal:∀y∈(srt (ltO o1) true l).filter fun b=>decide (z.c0=b.c0),z.c0=y.c0:=fun y hy=>by simpa using(List.mem_filter.1 hy).2
  generalize (srt (ltO o1) true l).filter (fun b=>decide (z.c0=b.c0))=m at*
  match m,hm,hpw,hal with
  |[a],hm,_,_=>simp only[List.mem_singleton] at hm;subst hm;rfl
  |a::b::m,_,hpw,hal=>
   have h1:=List.rel_of_pairwise_cons hpw (List.mem_cons_self (a:=b) (l:=m))
   have h2:=hal a (by simp)
   have h3:=hal b (by simp)
   omega
 ·intro h
  have h1:z∈((srt (ltO o1) true l).filter fun b=>decide (z.c0=b.c0)).take 1:=by rw[h];exact List.mem_singleton.2 rfl
  exact(List.mem_filter.1 (List.mem_of_mem_take h1)).1
theorem okT2eq {a b:T5} (ha:okT 2 a) (hb:okT 2 b) (h0:a.c0=b.c0) (h1:a.c1=b.c1):a=b:=by
 have e2:a.c2=b.c2:=by have x:=ha.2 2 (by omega);have y:=hb.2 2 (by omega);exact x.trans y.symm
 have e3:a.c3=b.c3:=by have x:=ha.2 3 (by omega);have y:=hb.2 3 (by omega);exact x.trans y.symm
 have e4:a.c4=b.c4:=by have x:=ha.2 4 (by omega);have y:=hb.2 4 (by omega);exact x.trans y.symm
 cases a;cases b
 simp only[T5.mk.injEq]
 exact⟨h0,h1,e2,e3,e4⟩
theorem least_mem {m:List T5} (hm:∀t∈m,okT 2 t) {z:T5}:z∈srt (ltO o1) true (srt (ltO o12) false m)↔z∈m∧∀y∈m,y.c0=z.c0→z.c1≤y.c1:=by
 rw[once_mem]
 have hs:((srt (ltO o12) false m).filter fun b=>decide (z.c0=b.c0)).Pairwise fun a c=>a.c0<c.c0∨a.c0=c.c0∧a.c1≤c.c1:=((srt_o12 false m).imp fun h=>by simpa using h).sublist List.filter_sublist
 have hmem:∀y,y∈(srt (ltO o12) false m).filter (fun b=>decide (z.c0=b.c0))↔y∈m∧y.c0=z.c0:=fun y=>by
  rw[List.mem_filter,(perm_srt m).mem_iff];simp[eq_comm]
 generalize (srt (ltO o12) false m).filter (fun b=>decide (z.c0=b.c0))=s at*
 constructor
 ·intro h
  match s,h with
  |a::s,h=>
   simp only[List.head?_cons,Option.some.injEq] at h
   subst h
   refine⟨((hmem a).1 List.mem_cons_self).1,fun y hy hq=> ?_⟩
   rcases List.mem_cons.1 ((hmem y).2 ⟨hy,hq⟩) with rfl|h2
   ·omega
   ·have:=List.rel_of_pairwise_cons hs h2;omega
 ·rintro⟨hz,hle⟩
  have h1:=(hmem z).2 ⟨hz,rfl⟩
  match s,h1 with
  |a::s,h1=>
   simp only[List.head?_cons,Option.some.injEq]
   obtain⟨ha,hq⟩:=(hmem a).1 List.mem_cons_self
   rcases List.mem_cons.1 h1 with rfl|h2
   ·rfl
   ·have h3:=List.rel_of_pairwise_cons hs h2
    have h4:=hle a ha hq
    exact okT2eq (hm a ha) (hm z hz) hq (by omega)
theorem len_ins {lt:T5→T5→Bool} (h:Swo lt) {x:T5}:∀{s:List T5},Sd lt true s→((∃y∈s,eqv lt x y=true)→(insO lt true x s).length=s.length)∧((∀y∈s,eqv lt x y=false)→(insO lt true x s).length=s.length+1)
 |[],_=>⟨fun ⟨_,h,_⟩=>(nomatch h),fun _=>rfl⟩
 |y::s,hs=>by
  obtain⟨h1,h2⟩:=List.pairwise_cons.1 hs
  obtain⟨i1,i2⟩:=len_ins h (x:=x) (s:=s) h2
  unfold insO
  cases hyx:lt y x with
  |true=>
   have hny:eqv lt x y=false:=by simp[eqv,hyx]
   simp only[if_true,List.length_cons]
   refine⟨?_,fun ha=>by rw[i2 fun z hz=>ha z (List.mem_cons_of_mem _ hz)]⟩
   rintro⟨z,hz,he⟩
   rcases List.mem_cons.1 hz with rfl|hz
   ·rw[hny] at he;cases he
   ·rw[i1 ⟨z,hz,he⟩]
  |false=>
   simp only[Bool.false_eq_true,if_false]
   cases hxy:lt x y with
   |true=>
    simp only[Bool.not_true,Bool.and_false,Bool.false_eq_true,if_false,List.length_cons,and_true]
    refine⟨?_,fun _=>trivial⟩
    rintro⟨z,hz,he⟩
    exfalso
    rcases List.mem_cons.1 hz with rfl|hz
    ·simp[eqv,hxy] at he
    ·have h3:=h1 z hz
     simp only[if_true] at h3
     obtain⟨a,b⟩:=eqv_iff.1 he
     have:=h.ntrans x z y a (h.asym _ _ h3)
     rw[hxy] at this;cases this
   |false=>
    simp only[Bool.not_false,Bool.and_true,if_true,List.length_cons]
    refine⟨fun _=>trivial,fun ha=> ?_⟩
    have:=ha y List.mem_cons_self
    simp[eqv,hxy,hyx] at this
theorem once_len:∀(l:List T5),(srt (ltO o1) true l).length=l.length↔l.Pairwise fun a c=>a.c0≠c.c0
 |[]=>by simp[srt]
 |x::l=>by
  have ih:=once_len l
  have hle:=len_srt (lt:=ltO o1) (once:=true) l
  obtain⟨h1,h2⟩:=len_ins (ltO_swo o1) (x:=x) (sd_srt (ltO_swo o1) true l)
  rw[List.pairwise_cons]
  simp only[srt,List.length_cons]
  by_cases hx:∀y∈srt (ltO o1) true l,eqv (ltO o1) x y=false
  ·rw[h2 hx]
   have h3:∀y∈l,x.c0≠y.c0:=by
    intro y hy hq
    obtain⟨w,hw,he⟩:=srt_has (o:=o1) (once:=true) hy
    have h4:=hx w hw
    have h5:=eqv_o1.1 he
    rw[eqv_o1.2 (hq.trans h5)] at h4;cases h4
   constructor
   ·intro h;exact⟨h3,ih.1 (by omega)⟩
   ·rintro⟨_,h⟩;rw[ih.2 h]
  ·have hx2:∃y∈srt (ltO o1) true l,eqv (ltO o1) x y=true:=by
    simp only[Classical.not_forall,Bool.not_eq_false] at hx
    obtain⟨y,hy,he⟩:=hx
    exact⟨y,hy,he⟩
   rw[h1 hx2]
   obtain⟨y,hy,he⟩:=hx2
   constructor
   ·intro h;omega
   ·rintro⟨h3,_⟩
    exact absurd (eqv_o1.1 he) (h3 y (srt_sub hy))
end Go.Proofs.YtjoicjgfgkpdjaaGreat
namespace Go.Proofs.YtjoicjgfgkpdjaaGreat
open Go.SL Go.Spc Go.Tup Go.Srt
def RSt (bw bx:Nat) (f:Fl) (ts:List T5) (g:Gr) (base:List Gr) (W:Wk) (cx cb:Chunk):Prop:=
 (W.α.gs.Perm (g::base)∧∃pos,IsRd bw bx W f ts g pos cx cb)∨(W.α.gs.Perm base∧ClosedRd bx cx)
theorem RCloseAny (bw bd ba bs:Nat) (W:Wk) (cd ca cs:Chunk) (h:Wc bd ba bs W cd ca cs) (bx:Nat) (f:Fl) (ts:List T5) (g:Gr) (base:List Gr) (cx cb:Chunk) (hr:RSt bw bx f ts g base W cx cb):
  Cd Tryz.prog 50 [pv bx] [wrow bw bd ba bs,ca,cx] fun v H'=>
   ∃ca' α' cx',H'=[wrow bw bd ba bs,ca',cx']∧Wc bd ba bs {W with α:=α'} cd ca' cs∧Ev W {W with α:=α'} 0 0∧α'.gs.Perm base:=by
 rcases hr with⟨h1,pos,h2⟩|⟨h1,h2⟩
 ·refine Cd.conv (RClose_uB bw bd ba bs W cd ca cs h bx f ts g base h1 pos cx cb h2).2 (.refl _) ?_
  rintro v H' ⟨ca',α',cx',_,rfl,a1,a2,a3,_⟩
  exact⟨_,⟨ca',α',cx',rfl,a1,a2,a3⟩,.refl _⟩
 ·refine Cd.conv (Cd.wide (RClosed_uB bx cx h2).2 [wrow bw bd ba bs,ca]) (permC fun z=>by simp only[List.flatten_cons,List.flatten_nil,List.append_nil,List.flatten_append,List.count_append];omega) ?_
  rintro v H' ⟨H1,⟨_,rfl⟩,rfl⟩
  exact⟨_,⟨ca,W.α,cx,rfl,h,Ev.refl W,h1⟩,permC fun z=>by simp only[List.flatten_cons,List.flatten_nil,List.append_nil,List.flatten_append,List.count_append];omega⟩
def rangeT (out:Nat→T5) (i:Nat):List T5:=(List.range i).map out
theorem rangeT_len (out:Nat→T5) (i:Nat):(rangeT out i).length=i:=by simp[rangeT]
theorem rangeT_succ (out:Nat→T5) (i:Nat):rangeT out (i+1)=rangeT out i++[out i]:=by simp[rangeT,List.range_succ]
def lookH (bj b8 b4 b5:Nat) (fa fb:Fl):Hp:=[[(b8,row [pv bj] 75)],[(b4,row (fl4 fa) 27)],[(b5,row (fl4 fb) 27)]]
structure Rm (p:Jp) (B m k a:Nat):Prop where
 ok:p.Ok
 le:B≤m
 bs:B≤1000
 room:m*(k+p.L0.length+1)+(k*B+total p.L0)≤p.n
 kk:k≤100
 acts:a≤500000000
structure JobS (p:Jp) (B k a s0:Nat) (e:Int) (er:Option Nat) (Gf:List (Fl×List T5)) (C:Chunk):Prop where
 job:JobC p ⟨e,er,Gf,a+s0*30000,s0*30000⟩ C
 len:Gf.length≤k
 blk:∀x∈Gf,x.1.blocks≤B
theorem sum_le {B:Nat}:∀{l:List Nat},(∀x∈l,x≤B)→l.sum≤l.length*B
 |[],_=>by simp
 |x::l,h=>by
  have h1:=h x List.mem_cons_self
  have h2:=sum_le (l:=l) (fun y hy=>h y (List.mem_cons_of_mem _ hy))
  simp only[List.sum_cons,List.length_cons,Nat.add_mul,Nat.one_mul];omega
theorem Rm.fits {p:Jp} {B m k a:Nat} (h:Rm p B m k a) {Gf:List (Fl×List T5)} (hl:Gf.length≤k) (hb:∀x∈Gf,x.1.blocks≤B) {T:Nat} (hT:T≤m) (e:Int) (er:Option Nat) (x y:Nat):Fits p ⟨e,er,Gf,x,y⟩ T:=by
 left
 unfold roomy
 dsimp only
 have h1:T*(Gf.length+p.L0.length+1)≤m*(k+p.L0.length+1):=Nat.mul_le_mul hT (by omega)
 have h2:=sum_le (B:=B) (l:=Gf.map (·.1.blocks)) (by intro y hy;obtain⟨x,hx,rfl⟩:=List.mem_map.1 hy;exact hb x hx)
 rw[List.length_map] at h2
 have h3:Gf.length*B≤k*B:=Nat.mul_le_mul_right _ hl
 have:=h.room
 omega
structure FB (b c w n:Nat) (e:Int) (f:Fl):Prop where
 cnt:f.count≤b
 blk:f.blocks≤c
 ok:e=0→f.width=w∧f.count=n
theorem JobC.er0 {p:Jp} {J:Jb} {C:Chunk} (h:JobC p J C) (he:J.e=0):J.er=none:=by
 obtain⟨W,cd,ca,cs,held,ph,cap,ch,_,_,_,hJW⟩:=h
 exact(hJW.ok he).2
theorem JobS.er0 {p:Jp} {B k a s0:Nat} {e:Int} {er:Option Nat} {Gf:List (Fl×List T5)} {C:Chunk} (h:JobS p B k a s0 e er Gf C) (he:e=0):er=none:=h.job.er0 he
theorem nbS {s w n c:Nat} (hs:8≤s) (h1:1≤w) (h5:w≤5) (hc:n≤c∨(w≤3∧n≤2*c)):nblocks s w n≤c:=by
 have hp:=holds_pos hs h1 h5
 rcases hc with hc|⟨hw,hc⟩
 ·exact Nat.le_trans (nblocks_le hp) hc
 ·have h2:2≤holds s w:=by
   have:3*2≤s-2:=by omega
   exact(Nat.le_div_iff_mul_le (by omega)).2 (by
    have:2*w≤2*3:=Nat.mul_le_mul_left _ hw
    omega)
  unfold nblocks
  generalize holds s w=q at*
  have:n+q-1<(c+1)*q:=by
   have h3:c*2≤c*q:=Nat.mul_le_mul_left _ h2
   rw[Nat.add_mul,Nat.one_mul]
   omega
  have:=(Nat.div_lt_iff_lt_mul (by omega)).2 this
  omega
inductive Pk {α:Type} (x:α):List α→List α→Prop
 |here {l:List α}:Pk x (x::l) l
 |there {y:α} {l l':List α}:Pk x l l'→Pk x (y::l) (y::l')
theorem Pk.perm {α:Type} {x:α} {l l':List α} (h:Pk x l l'):l.Perm (x::l'):=by
 induction h with
 |here=>exact .refl _
 |there _ ih=>exact(ih.cons _).trans (.swap _ _ _)
inductive Pks {α:Type}:List α→List α→List α→Prop
 |nil {l:List α}:Pks [] l l
 |cons {x:α} {xs l l1 l2:List α}:Pk x l l1→Pks xs l1 l2→Pks (x::xs) l l2
theorem Pks.perm {α:Type} {xs l l':List α} (h:Pks xs l l'):l.Perm (xs++l'):=by
 induction h with
 |nil=>exact .refl _
 |cons h1 _ ih=>exact h1.perm.trans (ih.cons _)
section
variable {p:Jp} {B m k a s0:Nat} {e:Int} {er:Option Nat} {Gf:List (Fl×List T5)} {C:Chunk}
theorem JobC.weak {J J':Jb} (h:JobC p J C) (he:J'.e=J.e) (her:J'.er=J.er) (hG:J'.G=J.G) (ha:J.acts≤J'.acts) (ht:J.took≤J'.took):JobC p J' C:=by
 obtain⟨W,cd,ca,cs,held,ph,cap,ch,h1,h2,h3,h4⟩:=h
 refine⟨W,cd,ca,cs,held,ph,cap,ch,by rw[he];exact h1,h2,h3,{h4 with acts:=Nat.le_trans h4.acts ha,tk:=Nat.le_trans h4.tk (by omega),ok:= ?_,why:= ?_}⟩
 ·rw[he,her,hG];exact h4.ok
 ·rw[he,her];exact h4.why
theorem JobS.push (h:JobS p B k a s0 e er Gf C) (hl:Gf.length+1≤k) {e':Int} {er':Option Nat} {f:Fl} {ts:List T5} {C':Chunk} {A T:Nat} (q:Nat) (hJ:JobC p ⟨e',er',(f,ts)::Gf,a+s0*30000+A,s0*30000+T⟩ C') (hA:A≤q*30000) (hT:T≤q*30000) (hb:f.blocks≤B):JobS p B k a (s0+q) e' er' ((f,ts)::Gf) C' where
 job:=by
  have e1:(s0+q)*30000=s0*30000+q*30000:=Nat.add_mul _ _ _
  exact hJ.weak rfl rfl rfl (by dsimp only;omega) (by dsimp only;omega)
 len:=by simpa using hl
 blk:=by
  intro x hx
  rcases List.mem_cons.1 hx with rfl|hx
  ·exact hb
  ·exact h.blk x hx
theorem SMake (hR:Rm p B m k a) (hJ:JobS p B k a s0 e er Gf C) {K:Type} (M:Maker K) (k0:K) (width bound c κ:Nat) (hwd:1≤width∧width≤5) (mk:Nat) (hcal:Callable Tryz.prog mk) (us:List Value) (ok:K→T5→Prop) (hM:MakeU M width ok mk [] us)
  (hκ:∀k t,ok k t→(M.outs k t).length≤κ) (hκb:κ≤5) (l:List (Fl×List T5)) (hs:∀x∈l,x∈Gf∨In0 p x) (h0:∀x∈l,x.1.count≤1000∧x.1.blocks≤1000) (hll:l.length≤4) (pa:Option Addr) (cap:Nat) (cf:Chunk) (hV:Vec 27 4 pa l.length cap (fcells (l.map (·.1))) cf)
  (hok:e=0→M.oks ok k0 (cat l)) (hbd:e=0→(M.all k0 (cat l)).length≤bound)
  (hc:bound≤c∨(width≤3∧bound≤2*c)) (hcB:c≤B) (hl:Gf.length+1≤k) (hst:s0≤10000):
  Ct Tryz.prog 55 [pv p.bj,.int .i64 (width:Int),.int .i64 (bound:Int),.func (.func mk) #[] us.toArray,.slice pa l.length cap] (C::cf::M.C k0) fun v H'=>
   ∃f C' e' k',v=flv f∧H'=C'::cf::M.C k'∧JobS p B k a (s0+1) e' (er.or (M.bad k0 (cat l))) ((f,M.all k0 (cat l))::Gf) C'∧FB bound c width (M.all k0 (cat l)).length e' f∧(e'=0→e=0∧k'=M.st k0 (cat l)∧M.bad k0 (cat l)=none):=by
 have hB:=hR.bs
 have hkk:=hR.kk
 have hac:=hR.acts
 have hm:=hR.le
 have hlen:=hJ.len
 have hnb:=nbS (s:=p.size) hR.ok.size.1 hwd.1 hwd.2 hc
 have hb2:bound≤2000:=by omega
 have hact:actsOf κ l≤4*6000:=by
  unfold actsOf
  refine Nat.le_trans (sum_le (B:=6000) ?_) (by rw[List.length_map];exact Nat.mul_le_mul_right _ hll)
  intro x hx
  obtain⟨y,hy,rfl⟩:=List.mem_map.1 hx
  have h1:=h0 y hy
  have h2:y.1.count*κ≤1000*5:=Nat.mul_le_mul h1.1 hκb
  omega
 have h2:s0*30000≤10000*30000:=Nat.mul_le_mul hst (Nat.le_refl _)
 refine(JMake p hR.ok _ C hJ.job M k0 width bound κ 24001 c hwd.1 hwd.2 (by omega) mk hcal [] us ok hM hκ (by omega) l hs (fun x hx=>by have:=h0 x hx;omega) pa cap cf hV hok hbd hnb
  (fun _=>hR.fits hJ.len hJ.blk (by omega) _ _ _ _) (by omega) (by dsimp only;omega) (by dsimp only;omega)).mono ?_
 rintro v H' ⟨f,C',e',k',rfl,rfl,h3,h4,h5,h6⟩
 have h7:f.blocks≤c:=Nat.le_trans h6 hnb
 exact⟨f,C',e',k',rfl,rfl,hJ.push hl 1 h3 (by omega) (by omega) (by omega),⟨h5,h7,fun h=>let ⟨_,_,c,d,_⟩:=h4 h;⟨c,d⟩⟩,fun h=>let ⟨a,b,_,_,d⟩:=h4 h;⟨a,b,d⟩⟩
theorem SMake1 (hR:Rm p B m k a) (hJ:JobS p B k a s0 e er Gf C) {K:Type} (M:Maker K) (k0:K) (width bound c κ:Nat) (hwd:1≤width∧width≤5) (mk:Nat) (hcal:Callable Tryz.prog mk) (us:List Value) (ok:K→T5→Prop) (hM:MakeU M width ok mk [] us)
  (hκ:∀k t,ok k t→(M.outs k t).length≤κ) (hκb:κ≤5) (f0:Fl) (ts:List T5) (hs:(f0,ts)∈Gf∨In0 p (f0,ts)) (h0:f0.count≤1000∧f0.blocks≤1000) (hok:e=0→M.oks ok k0 ts) (hbd:e=0→(M.all k0 ts).length≤bound)
  (hc:bound≤c∨(width≤3∧bound≤2*c)) (hcB:c≤B) (hl:Gf.length+1≤k) (hst:s0≤10000) (b:Nat):
  Ct Tryz.prog 55 [pv p.bj,.int .i64 (width:Int),.int .i64 (bound:Int),.func (.func mk) #[] us.toArray,.slice (some ⟨b,0,none⟩) 1 1] (C::[(b,row (fl4 f0) 27)]::M.C k0) fun v H'=>
   ∃f C' e' k',v=flv f∧H'=C'::[(b,row (fl4 f0) 27)]::M.C k'∧JobS p B k a (s0+1) e' (er.or (M.bad k0 ts)) ((f,M.all k0 ts)::Gf) C'∧FB bound c width (M.all k0 ts).length e' f∧(e'=0→e=0∧k'=M.st k0 ts∧M.bad k0 ts=none):=by
 have h:=SMake hR hJ M k0 width bound c κ hwd mk hcal us ok hM hκ hκb [(f0,ts)] (by simpa using hs) (by simpa using h0) (by simp) _ 1 _ (vec1 b f0)
 rw[cat_one] at h
 exact h hok hbd hc hcB hl hst
theorem SMake1n (hR:Rm p B m k a) (hJ:JobS p B k a s0 e er Gf C) {K:Type} (M:Maker K) (hne:∀k t,M.err k t=none) (k0:K) (width bound c κ:Nat) (hwd:1≤width∧width≤5) (mk:Nat) (hcal:Callable Tryz.prog mk) (us:List Value) (ok:K→T5→Prop) (hM:MakeU M width ok mk [] us)
  (hκ:∀k t,ok k t→(M.outs k t).length≤κ) (hκb:κ≤5) (f0:Fl) (ts:List T5) (hs:(f0,ts)∈Gf∨In0 p (f0,ts)) (h0:f0.count≤1000∧f0.blocks≤1000) (hok:e=0→M.oks ok k0 ts) (hbd:e=0→(M.all k0 ts).length≤bound)
  (hc:bound≤c∨(width≤3∧bound≤2*c)) (hcB:c≤B) (hl:Gf.length+1≤k) (hst:s0≤10000) (b:Nat):
  Ct Tryz.prog 55 [pv p.bj,.int .i64 (width:Int),.int .i64 (bound:Int),.func (.func mk) #[] us.toArray,.slice (some ⟨b,0,none⟩) 1 1] (C::[(b,row (fl4 f0) 27)]::M.C k0) fun v H'=>
   ∃f C' e' k',v=flv f∧H'=C'::[(b,row (fl4 f0) 27)]::M.C k'∧JobS p B k a (s0+1) e' er ((f,M.all k0 ts)::Gf) C'∧FB bound c width (M.all k0 ts).length e' f∧(e'=0→e=0∧k'=M.st k0 ts):=by
 refine(SMake1 hR hJ M k0 width bound c κ hwd mk hcal us ok hM hκ hκb f0 ts hs h0 hok hbd hc hcB hl hst b).mono ?_
 rintro v H' ⟨f,C',e',k',h1,h2,h3,h4,h5⟩
 rw[Maker.bad_none hne,or_none'] at h3
 exact⟨f,C',e',k',h1,h2,h3,h4,fun h=>⟨(h5 h).1,(h5 h).2.1⟩⟩
theorem SSort (hR:Rm p B m k a) (hJ:JobS p B k a s0 e er Gf C) (f:Fl) (ts:List T5) (G':List (Fl×List T5)) (o:T5) (ho:formed o=true) (once:Bool) {b c w n:Nat} (hf:FB b c w n e f) (hP:Pk (f,ts) Gf G') (hb:b≤1000) (hcB:c≤B) (hT:sortT c≤m) (hst:s0≤10000):
  Ct Tryz.prog 43 [pv p.bj,flv f,tv o,.bool once] [C] fun v H'=>
   ∃g C' e',v=flv g∧H'=[C']∧JobS p B k a (s0+1) e' er ((g,srt (ltO o) once ts)::G') C'∧FB b c w (srt (ltO o) once ts).length e' g∧(e'=0→e=0):=by
 have hB:=hR.bs
 have hac:=hR.acts
 have hcn:=hf.cnt
 have hbl:=hf.blk
 have h2:s0*30000≤10000*30000:=Nat.mul_le_mul hst (Nat.le_refl _)
 have hle:=hP.perm.length_eq
 have hT2:sortT f.blocks≤sortT c:=sortT_mono hbl
 have hsm:sortT f.blocks≤30000:=by
  have h1:=sortT_le (b:=f.blocks) (m:=1000) (l:=5) (by omega) (by decide)
  exact Nat.le_trans h1 (nle rfl)
 refine(JSort p hR.ok _ C hJ.job f ts G' o ho once 20000 (sortT f.blocks) (fun _=>hP.perm) (fun _=>Nat.le_refl _) (fun _=>hR.fits hJ.len hJ.blk (by omega) _ _ _ _) (fun _=>sortA_small (by omega)) (by dsimp only;omega) (by omega)).mono ?_
 rintro v H' ⟨g,C',e',rfl,rfl,h3,h4,h5,h6⟩
 refine⟨g,C',e',rfl,rfl,⟨?_,?_,?_⟩,⟨by omega,by omega,fun h=> ?_⟩,fun h=>(h4 h).1⟩
 ·have e1:(s0+1)*30000=s0*30000+1*30000:=Nat.add_mul _ _ _
  refine h3.weak rfl rfl rfl (by dsimp only;omega) ?_
  show s0*30000+sortT f.blocks≤(s0+1)*30000
  rw[e1]
  exact Nat.add_le_add_left hsm _
 ·have:=hJ.len;simp only[List.length_cons] at hle⊢;omega
 ·intro x hx
  rcases List.mem_cons.1 hx with rfl|hx
  ·dsimp only;omega
  ·exact hJ.blk x (hP.perm.mem_iff.2 (List.mem_cons_of_mem _ hx))
 ·obtain⟨h7,h8,h9⟩:=h4 h
  exact⟨h8.trans (hf.ok h7).1,h9⟩
theorem SFree (hR:Rm p B m k a) (hJ:JobS p B k a s0 e er Gf C) (fts G':List (Fl×List T5)) (hP:Pks fts Gf G') (hfl:fts.length≤1000) (pa:Option Addr) (cap:Nat) (cf:Chunk) (hV:Vec 27 4 pa (fts.map (·.1)).length cap (fcells (fts.map (·.1))) cf):
  Ct Tryz.prog 68 [pv p.bj,.slice pa (fts.map (·.1)).length cap] [C,cf] fun v H'=>∃C',v= .tuple #[]∧H'=[C',cf]∧JobS p B k a s0 e er G' C':=by
 refine(JFree p hR.ok _ C hJ.job (fts.map (·.1)) fts G' (fun _=>⟨hP.perm,rfl⟩) (by rw[List.length_map];exact hfl) pa cap cf hV).mono ?_
 rintro v H' ⟨C',rfl,rfl,h⟩
 have hle:=hP.perm.length_eq
 exact⟨C',rfl,rfl,h,by have:=hJ.len;rw[List.length_append] at hle;omega,fun x hx=>hJ.blk x (hP.perm.mem_iff.2 (List.mem_append_right _ hx))⟩
theorem SRun (hR:Rm p B m k a) (hJ:JobS p B k a s0 e er Gf C) (mk:Nat) (hcal:Callable Tryz.prog mk) (us:List Value) (Hx:Hp) (A T q:Nat) (er':Option Nat) (ts:List T5) (hA:A≤q*30000) (hT:T≤q*30000) {b c w n:Nat}
  (hst:e=0→∀x y,x≤a+s0*30000→StepCt p ⟨e,er,Gf,x,y⟩ mk us Hx A T er' ts fun f e Hx'=>Hx'=Hx∧FB b c w n e f) (hcB:c≤B) (hl:Gf.length+1≤k):
  Ct Tryz.prog 40 [pv p.bj,.func (.func mk) #[] us.toArray] (C::Hx) fun v H'=>∃f C' e',v=flv f∧H'=C'::Hx∧JobS p B k a (s0+q) e' (er.or er') ((f,ts)::Gf) C'∧FB b c w n e' f∧(e'=0→e=0):=by
 have hkk:=hR.kk
 refine(JRunK p hR.ok _ C hJ.job mk hcal us Hx A T er' ts _ (fun h=>hst h _ _ (Nat.le_refl _)) (by have:=hJ.len;dsimp only;omega)).mono ?_
 rintro v H' ⟨f,C',e',rfl,rfl,h3,h4⟩
 dsimp only at h3 h4
 have hf:FB b c w n e' f∧(e'=0→e=0):=by
  rcases h4 with⟨h5,h6⟩|⟨h5,h6,rfl⟩
  ·exact⟨h6,fun _=>h5⟩
  ·exact⟨⟨Nat.zero_le _,Nat.zero_le _,fun h=>absurd (h6▸h) h5⟩,fun h=>absurd (h6▸h) h5⟩
 have:=hf.1.blk
 exact⟨f,C',e',rfl,rfl,hJ.push hl q h3 hA hT (by omega),hf.1,hf.2⟩
theorem SResult (hR:Rm p B m k a) (hJ:JobS p B k a s0 e er Gf C) (f:Fl) (b:Nat):
  Ct Tryz.prog 44 [pv p.bj,.slice (some ⟨b,0,none⟩) 1 1] [C,[(b,row (fl4 f) 27)]] fun v H'=>∃cd ca cs W,v= .int .i64 e∧H'=[wrow p.bw p.bd p.ba p.bs,cd,ca,cs,[(b,row (fl4 f) 27)]]∧Wc p.bd p.ba p.bs W cd ca cs∧DoneW p ⟨e,er,Gf,a+s0*30000,s0*30000⟩ [f] W:=
 JResult1 p hR.ok _ C hJ.job f b
end
end Go.Proofs.YtjoicjgfgkpdjaaGreat
namespace Go.Proofs.YtjoicjgfgkpdjaaGreat
open Go.SL Go.Tup
section
variable {α:Type} {f:α→List Value} {k:Nat}
theorem fm_len (hf:∀a,(f a).length=k):∀l:List α,(l.flatMap f).length=l.length*k
 |[]=>by simp
 |a::l=>by rw[List.flatMap_cons,List.length_append,hf,fm_len hf l,List.length_cons,Nat.succ_mul];omega
theorem fm_drop (hf:∀a,(f a).length=k):∀(l:List α) (i:Nat),(l.flatMap f).drop (i*k)=(l.drop i).flatMap f
 |[],i=>by simp
 |a::l,0=>by simp
 |a::l,i+1=>by
  rw[List.flatMap_cons,List.drop_succ_cons,←fm_drop hf l i,show(i+1)*k=(f a).length+i*k by rw[hf,Nat.succ_mul];omega,List.drop_append]
  simp
theorem fm_cut (hf:∀a,(f a).length=k) {l:List α} {i:Nat} {a:α} (h:l[i]? =some a):((l.flatMap f).drop (i*k)).take k=f a:=by
 obtain⟨hi,rfl⟩:=List.getElem?_eq_some_iff.1 h
 rw[fm_drop hf,List.drop_eq_getElem_cons hi,List.flatMap_cons,List.take_left' (hf _)]
theorem fm_cutR (hf:∀a,(f a).length=k) {l:List α} {i:Nat} {a:α} (h:l[i]? =some a) (rest:List Value):((l.flatMap f++rest).drop (i*k)).take k=f a:=by
 obtain⟨hi,_⟩:=List.getElem?_eq_some_iff.1 h
 have hl:=fm_len hf l
 have h1:(i+1)*k≤l.length*k:=Nat.mul_le_mul_right _ hi
 rw[Nat.succ_mul] at h1
 rw[List.drop_append_of_le_length (by omega),List.take_append_of_le_length (by rw[List.length_drop];omega),fm_cut hf h]
theorem fm_get (hf:∀a,(f a).length=k) {l:List α} {i j:Nat} {a:α} {v:Value} (h:l[i]? =some a) (hj:(f a)[j]? =some v) (rest:List Value):(l.flatMap f++rest)[i*k+j]? =some v:=by
 have h1:=fm_cutR hf h rest
 have hjk:j<k:=by have:=(List.getElem?_eq_some_iff.1 hj).1;rw[hf] at this;exact this
 have h2:=congrArg (fun l=>l[j]?) h1
 simp only[List.getElem?_take,if_pos hjk,List.getElem?_drop] at h2
 rw[h2,hj]
theorem fm_set (hf:∀a,(f a).length=k) (l:List α) (i:Nat) (b:α) (rest:List Value) (h:i<l.length):setL (l.flatMap f++rest) (i*k) (f b)=(l.set i b).flatMap f++rest:=by
 obtain⟨l1,a,l2,rfl,hl1⟩:∃l1 a l2,l=l1++a::l2∧l1.length=i:=⟨l.take i,l[i],l.drop (i+1),by rw[←List.drop_eq_getElem_cons h,List.take_append_drop],by simp;omega⟩
 subst hl1
 have h1:=fm_len hf l1
 rw[setL_eq _ _ _ (by simp only[List.flatMap_append,List.flatMap_cons,List.length_append,fm_len hf,hf];omega)]
 rw[List.set_append_right _ _ (Nat.le_refl _),Nat.sub_self,List.set_cons_zero]
 simp only[List.flatMap_append,List.flatMap_cons,List.append_assoc]
 rw[←h1,List.take_left,hf]
 congr 2
 rw[←List.drop_drop,List.drop_left,←hf a,List.drop_left]
theorem view_get {cs xs:List Value} {off m i:Nat} {v:Value} (h:(cs.drop off).take m=xs) (hv:xs[i]? =some v):cs[off+i]? =some v:=by
 rw[←h,List.getElem?_take] at hv
 split at hv
 ·rwa[List.getElem?_drop] at hv
 ·cases hv
theorem view_cut {cs xs vs:List Value} {off m i q:Nat} (h:(cs.drop off).take m=xs) (hv:(xs.drop i).take q=vs) (hq:vs.length=q):(cs.drop (off+i)).take q=vs:=by
 rw[←h,List.drop_take,List.drop_drop,List.take_take] at hv
 have h1:(vs.length:Nat)≤m-i:=by
  rw[←hv,List.length_take];omega
 rw[show min q (m-i)=q by omega] at hv
 exact hv
def Rw (f:α→List Value) (k:Nat) (p:Option Addr) (m:Nat) (xs:List α) (c:Chunk):Prop:=
 xs.length=m∧((m=0∧c=[])∨∃b off cs T fz,p=some ⟨b,off,none⟩∧c=[(b,rowf cs T fz)]∧(cs.drop off).take (m*k)=xs.flatMap f)
theorem Rw.pos (hf:∀a,(f a).length=k) {p:Option Addr} {m:Nat} {xs:List α} {c:Chunk} (h:Rw f k p m xs c) (hm:0<m):∃b off cs T fz,p=some ⟨b,off,none⟩∧c=[(b,rowf cs T fz)]∧
  (∀i a,xs[i]? =some a→(cs.drop (off+i*k)).take k=f a)∧∀i j a v,xs[i]? =some a→(f a)[j]? =some v→cs[off+i*k+j]? =some v:=by
 obtain⟨hl,⟨h0,_⟩|⟨b,off,cs,T,fz,rfl,rfl,h⟩⟩:=h
 ·omega
 ·refine⟨b,off,cs,T,fz,rfl,rfl,fun i a hi=>view_cut h (fm_cut hf hi) (hf a),fun i j a v hi hj=> ?_⟩
  have:=fm_get hf hi hj []
  rw[List.append_nil] at this
  rw[Nat.add_assoc]
  exact view_get h this
end
def icl (x:Int):List Value:=[.int .i64 x]
theorem icl_len (e:Int):(icl e).length=1:=rfl
theorem flat_fm:∀ts:List T5,flat ts=ts.flatMap tcells
 |[]=>rfl
 |t::ts=>by rw[List.flatMap_cons,←flat_fm ts];rfl
theorem tcells_len (t:T5):(tcells t).length=5:=rfl
theorem RV.rw {p:Option Addr} {n:Nat} {ts:List T5} {c:Chunk} (h:RV p n ts c):Rw tcells 5 p n ts c:=by
 obtain⟨h1,h2⟩:=h
 rw[flat_fm] at h2
 exact⟨h1,h2⟩
end Go.Proofs.YtjoicjgfgkpdjaaGreat
namespace Go.Proofs.YtjoicjgfgkpdjaaGreat
open Go.SL Go.Spc Go.Tup Go.Srt
theorem Fail_raw (bj bw:Nat) (e:Int) (p:Option Addr) (n cap:Nat) (m:Nat) (hm:m≤1000):
  Ct Tryz.prog 53 [pv bj,.int .i64 (m:Int)] [jrow bj bw e p n cap] fun v H'=>v= .tuple #[]∧H'=[jrow bj bw (if e=0 then(m:Int) else e) p n cap]:=by
 unfold jrow
 by_cases he:e=0
 ·subst he
  rw[if_pos rfl]
  refine Ct.intro Tryz.func53 rfl Tryz.ntmps53 (nle rfl) fun w0=> ?_;dsimp only[argSlots,Nat.reduceAdd]
  repeat(refine st ?_;intros)
  (refine Dn.postEnd (Hr:=[[(bj,row [pv bw,.int .i64 (m:Int),.slice p n cap] 102)]]) Tryz.results53 (hR:= ?_);exact⟨rfl,rfl⟩)
 ·rw[if_neg he]
  refine Ct.intro Tryz.func53 rfl Tryz.ntmps53 (nle rfl) fun w0=> ?_;dsimp only[argSlots,Nat.reduceAdd]
  repeat(refine st ?_;intros)
  (refine Dn.postEnd (Hr:=[[(bj,row [pv bw,.int .i64 e,.slice p n cap] 102)]]) Tryz.results53 (hR:= ?_);exact⟨rfl,rfl⟩)
theorem JobS.orE {p:Jp} {B k a s0:Nat} {e:Int} {er:Option Nat} {Gf:List (Fl×List T5)} {C:Chunk} (h:JobS p B k a s0 e er Gf C) (x:Option Nat) (hx:e=0→x=none):JobS p B k a s0 e (er.or x) Gf C:=by
 obtain⟨⟨W,cd,ca,cs,held,ph,cap,ch,h1,hW,hV,hJW⟩,hl,hb⟩:=h
 refine⟨⟨W,cd,ca,cs,held,ph,cap,ch,h1,hW,hV,{hJW with ok:=fun h=> ?_,why:=fun h=> ?_}⟩,hl,hb⟩
 ·obtain⟨a,b⟩:=hJW.ok h
  dsimp only at b
  exact⟨a,by rw[b,hx h];rfl⟩
 ·refine(hJW.why h).imp id ?_
  rintro⟨n,h1,h2⟩
  dsimp only at h1 h2
  exact⟨n,by rw[h1];rfl,h2⟩
theorem SFail {p:Jp} {B k a s0:Nat} {e:Int} {er:Option Nat} {Gf:List (Fl×List T5)} {C:Chunk} (hJ:JobS p B k a s0 e er Gf C) (m:Nat) (hm0:m≠0) (hm:m≤1000) (x:Option Nat) (hx:e=0→x=some m):
  Ct Tryz.prog 53 [pv p.bj,.int .i64 (m:Int)] [C] fun v H'=>∃e' C',v= .tuple #[]∧H'=[C']∧JobS p B k a s0 e' (er.or x) Gf C'∧e'≠0:=by
 obtain⟨⟨W,cd,ca,cs,held,ph,cap,ch,rfl,hW,hV,hJW⟩,hl,hb⟩:=hJ
 refine Ct.convP (Ct.wide (Fail_raw p.bj p.bw e ph held.length cap m hm) [wrow p.bw p.bd p.ba p.bs,cd,ca,cs,ch]) (by unfold jobC;refine permC fun z=> ?_;simp only[List.flatten_cons,List.flatten_nil,List.append_nil,List.flatten_append,List.count_append];omega) ?_
 rintro v H' ⟨H1,⟨rfl,rfl⟩,rfl⟩
 have hne:(if e=0 then(m:Int) else e)≠0:=by split<;>omega
 refine⟨[jobC p (if e=0 then(m:Int) else e) cd ca cs ph held.length cap ch],⟨_,_,rfl,rfl,⟨⟨W,cd,ca,cs,held,ph,cap,ch,rfl,hW,hV,{hJW with ok:=fun h=>absurd h hne,why:=fun _=> ?_}⟩,hl,hb⟩,hne⟩,?_⟩
 ·have hv:∀z:Int,z=(if e=0 then(m:Int) else e)→(z=6∧p.fl)∨∃n:Nat,er.or x=some n∧z=(n:Int):=by
   rintro z rfl
   by_cases he:e=0
   ·have:=(hJW.ok he).2
    dsimp only at this
    rw[if_pos he,this,hx he]
    exact .inr ⟨m,rfl,rfl⟩
   ·rw[if_neg he]
    refine(hJW.why he).imp id ?_
    rintro⟨n,h1,h2⟩
    dsimp only at h1 h2
    exact⟨n,by rw[h1];rfl,h2⟩
  exact hv _ rfl
 ·unfold jobC;refine permC fun z=> ?_;simp only[List.flatten_cons,List.flatten_nil,List.append_nil,List.flatten_append,List.count_append];omega
end Go.Proofs.YtjoicjgfgkpdjaaGreat
namespace Go.Proofs.YtjoicjgfgkpdjaaGreat
open Go.SL
section
variable {P:Program} {ops:Array Oper} {Q:Exit→Act→World→Prop} {cls:Nat→Oper→Cls} {w0:World} {S:List Nat} {n:Nat} {l:List (Nat×Oper)} {L:Slots} {D:List Deferred} {H:Hp} {qs:List Rd} {k d:Nat} {ty:TypeId} {pos:String} {af:Array Edge} {g:Option (Nat×Bool)}
theorem R.indexS {T:TypeId} {x y:Operand} {s:ByteArray} {ky:IntKind} {i:Int} {j:Nat} {b:Int} (hu:P.underlying T=some .string) (hx:ev L x=some (.string s)) (hy:ev L y=some (.int ky i)) (hj:i=(j:Int)) (hlt:j<s.size) (hb:((s[j]'hlt).toNat:Int)=b)
  (hc:cls k ⟨some d,.index T x y,ty,pos,af,g⟩= .pure) (hn:d<n)
  (h:R P ops Q cls w0 S n l ((d,.int .u8 b)::L) D H qs):R1 P ops Q cls w0 S n k ⟨some d,.index T x y,ty,pos,af,g⟩ l L D H qs:=
 R1.pureStep hc rfl hn (fun a hf w=>by
  subst hj hb
  have h2:=run_index_string (P:=P) w T s ky (j:Int) hu
  rw[dif_pos ⟨by omega,by exact_mod_cast hlt⟩] at h2
  simp only[execOp,hf.eval hx,hf.eval hy]
  simp only[Int.toNat_natCast] at h2
  simp[h2,Result.andThen]) h
end
set_option maxRecDepth 100000 in
theorem len64c (x:Nat) (h:x<65536):CtQ Tryz.prog 70 [.int .u64 (x:Int)] [] (.int .i64 (bitLen x:Int)):=by
 by_cases h8:x<256
 ·have e1:IntKind.wrap .u8 (x:Int)=(x:Int):=wrap_u8 (by omega)
  have hl:(bitLen x:Int)≤8:=by have:=bitLen_le8 x h8;omega
  have e2:IntKind.wrap .i64 (bitLen x:Int)=(bitLen x:Int):=wrap_i64 (by omega)
  have e3:IntKind.wrap .i64 (0+(bitLen x:Int))=(bitLen x:Int):=by rw[wrap_i64 (by omega)];omega
  have hu:=Tryz.underlying9
  refine Ct.intro Tryz.func70 rfl Tryz.ntmps70 (nle rfl) fun w0=> ?_;dsimp only[argSlots,Nat.reduceAdd]
  repeat(first|(apply R.indexS (j:=x);exact hu;exact rfl;exact rfl;exact rfl;exact congrArg Int.ofNat (len8tab_get x h8);exact rfl;exact nle rfl)|(refine st ?_;intros))
  (refine Dn.post (Hr:=[]) Tryz.results70 (hR:= ?_);exact⟨rfl,rfl⟩)
 ·have h4:x/256<256:=by omega
  have e1:IntKind.wrap .u8 ((x/256:Nat):Int)=((x/256:Nat):Int):=wrap_u8 (by omega)
  have hl:(bitLen (x/256):Int)≤8:=by have:=bitLen_le8 (x/256) h4;omega
  have e2:IntKind.wrap .i64 (bitLen (x/256):Int)=(bitLen (x/256):Int):=wrap_i64 (by omega)
  have hb:bitLen x=8+bitLen (x/256):=bitLen_shift x 8 (by show x/256≠0;omega)
  have e3:IntKind.wrap .i64 (8+(bitLen (x/256):Int))=(bitLen x:Int):=by rw[hb,wrap_i64 (by omega)];omega
  have e4:(x:Int).fdiv (2^(min (8:Int).toNat IntKind.u64.bits))=((x/256:Nat):Int):=by
   have:(2:Int)^(min (8:Int).toNat IntKind.u64.bits)=256:=by decide
   rw[this,Int.fdiv_eq_ediv_of_nonneg _ (by omega)];omega
  have hu:=Tryz.underlying9
  refine Ct.intro Tryz.func70 rfl Tryz.ntmps70 (nle rfl) fun w0=> ?_;dsimp only[argSlots,Nat.reduceAdd]
  repeat(first|(apply R.indexS (j:=x/256);exact hu;exact rfl;exact rfl;exact rfl;exact congrArg Int.ofNat (len8tab_get (x/256) h4);exact rfl;exact nle rfl)|(refine st ?_;intros))
  (refine Dn.post (Hr:=[]) Tryz.results70 (hR:= ?_);exact⟨rfl,rfl⟩)
end Go.Proofs.YtjoicjgfgkpdjaaGreat
namespace Go.Proofs.YtjoicjgfgkpdjaaGreat
open Go.SL Go.Tup Go.Srt
def rmin (v:Nat→Int) (i:Nat):Nat→Int
 |0=>v i
 |n+1=>min (rmin v i n) (v (i+n+1))
theorem rmin_le (v:Nat→Int) (i:Nat):∀(n j:Nat),j≤n→rmin v i n≤v (i+j)
 |0,j,h=>by
  obtain rfl:j=0:=by omega
  exact Int.le_refl _
 |n+1,j,h=>by
  simp only[rmin]
  by_cases hj:j≤n
  ·have:=rmin_le v i n j hj;omega
  ·obtain rfl:j=n+1:=by omega
   have:i+(n+1)=i+n+1:=by omega
   rw[this];omega
theorem rmin_at (v:Nat→Int) (i:Nat):∀n:Nat,∃j,j≤n∧rmin v i n=v (i+j)
 |0=>⟨0,Nat.le_refl _,rfl⟩
 |n+1=>by
  obtain⟨j,hj,h⟩:=rmin_at v i n
  simp only[rmin]
  by_cases hc:rmin v i n≤v (i+n+1)
  ·exact⟨j,by omega,by rw[←h];omega⟩
  ·exact⟨n+1,Nat.le_refl _,by
    have:i+(n+1)=i+n+1:=by omega
    rw[this];omega⟩
theorem rmin_is {v:Nat→Int} {i n:Nat} {x:Int} (h1:∀j,j≤n→x≤v (i+j)) (h2:∃j,j≤n∧x=v (i+j)):x=rmin v i n:=by
 obtain⟨j,hj,rfl⟩:=h2
 obtain⟨k,hk,h3⟩:=rmin_at v i n
 have:=rmin_le v i n j hj
 have:=h1 k hk
 omega
theorem rmin_two (v:Nat→Int) (i n m:Nat) (h:m≤n+1):min (rmin v i n) (rmin v (i+m) n)=rmin v i (n+m):=by
 obtain⟨a,ha,h1⟩:=rmin_at v i n
 obtain⟨b,hb,h2⟩:=rmin_at v (i+m) n
 refine rmin_is (fun j hj=> ?_) ?_
 ·by_cases hj2:j≤n
  ·have:=rmin_le v i n j hj2;omega
  ·have h3:=rmin_le v (i+m) n (j-m) (by omega)
   have:i+m+(j-m)=i+j:=by omega
   rw[this] at h3;omega
 ·by_cases hc:rmin v i n≤rmin v (i+m) n
  ·exact⟨a,by omega,by rw[←h1];omega⟩
  ·exact⟨m+b,by omega,by
    have:i+(m+b)=i+m+b:=by omega
    rw[this,←h2];omega⟩
def at0 (ts:List T5) (i:Nat):Int:=(ts.getD i T5.zero).c0
theorem at0get {ts:List T5} {i:Nat} {t:T5} (h:ts[i]? =some t):at0 ts i=t.c0:=by unfold at0;rw[List.getD_eq_getElem?_getD,h];rfl
def stepL (on:Nat) (ts:List T5):List T5:=rangeT (fun i=>⟨min (at0 ts i) (at0 ts (i+on)),0,0,0,0⟩) (ts.length-on)
def levT (vts:List T5) (k:Nat):List T5:=rangeT (fun i=>⟨rmin (at0 vts) i (2^k-1),0,0,0,0⟩) (vts.length+1-2^k)
theorem rangeT_get {out:Nat→T5} {n i:Nat} (h:i<n):(rangeT out n)[i]? =some (out i):=by simp[rangeT,h]
theorem rangeT_congr {out out':Nat→T5} {n:Nat} (h:∀i,i<n→out i=out' i):rangeT out n=rangeT out' n:=by
 unfold rangeT
 exact List.map_congr_left fun i hi=>h i (List.mem_range.1 hi)
theorem levT_len (vts:List T5) (k:Nat):(levT vts k).length=vts.length+1-2^k:=by unfold levT;rw[rangeT_len]
theorem levT_at {vts:List T5} {k i:Nat} (h:i+2^k≤vts.length):at0 (levT vts k) i=rmin (at0 vts) i (2^k-1):=by
 unfold levT
 have:=Nat.two_pow_pos k
 rw[at0get (rangeT_get (by omega))]
theorem levT_zero {vts:List T5} (h:∀t∈vts,okT 1 t):levT vts 0=vts:=by
 apply List.ext_getElem?
 intro i
 by_cases hi:i<vts.length
 ·have h1:vts[i]? =some vts[i]:=List.getElem?_eq_getElem hi
  unfold levT
  rw[rangeT_get (by simpa using hi),h1]
  have h2:=(h vts[i] (List.getElem_mem hi)).2
  simp only[Nat.pow_zero,Nat.sub_self,rmin,at0get h1,Option.some.injEq]
  generalize vts[i]=t at*
  cases t
  simp only[T5.mk.injEq,true_and]
  exact⟨(h2 1 (by omega)).symm,(h2 2 (by omega)).symm,(h2 3 (by omega)).symm,(h2 4 (by omega)).symm⟩
 ·rw[List.getElem?_eq_none (by rw[levT_len];simpa using hi),List.getElem?_eq_none (by omega)]
theorem levT_succ (vts:List T5) (k:Nat):stepL (2^k) (levT vts k)=levT vts (k+1):=by
 have hp:=Nat.two_pow_pos k
 have e:2^(k+1)=2^k+2^k:=by rw[Nat.pow_succ];omega
 unfold stepL
 rw[levT_len]
 have hl:vts.length+1-2^k-2^k=vts.length+1-2^(k+1):=by omega
 rw[hl]
 unfold levT
 refine rangeT_congr fun i hi=> ?_
 rw[show rangeT (fun i=>(⟨rmin (at0 vts) i (2^k-1),0,0,0,0⟩:T5)) (vts.length+1-2^k)=levT vts k from rfl,levT_at (by omega),levT_at (by omega),rmin_two _ _ _ _ (by omega)]
 have:2^k-1+2^k=2^(k+1)-1:=by omega
 rw[this]
def okQ (n:Nat) (q:T5):Prop:=0≤q.c0∧0≤q.c1∧q.c1≤q.c2∧q.c2<n
instance (n:Nat) (q:T5):Decidable (okQ n q):=by unfold okQ;infer_instance
def okQs (n:Nat) (qts:List T5):Prop:=(∀q∈qts,okQ n q)∧qts.Pairwise fun a c=>a.c0≠c.c0
def lgQ (q:T5):Nat:=Nat.log2 (q.c2-q.c1+1).toNat
theorem lgQ_is {n:Nat} {q:T5} (h:okQ n q):((2^lgQ q:Nat):Int)≤q.c2-q.c1+1∧q.c2-q.c1+1<((2^(lgQ q+1):Nat):Int):=by
 unfold okQ at h
 unfold lgQ
 generalize hx:(q.c2-q.c1+1).toNat=x
 have hx0:x≠0:=by omega
 have h1:=Nat.log2_self_le hx0
 have h2:=Nat.lt_log2_self (n:=x)
 omega
def halfT (q:T5):List T5:=[⟨(lgQ q:Int),q.c1,q.c0,0,0⟩,⟨(lgQ q:Int),q.c2-((2^lgQ q:Nat):Int)+1,q.c0,0,0⟩]
def partsF (qts:List T5):List T5:=srt (ltO o12) false (qts.flatMap halfT)
def foundT (vts:List T5) (p:T5):T5:=⟨p.c2,rmin (at0 vts) p.c1.toNat (2^p.c0.toNat-1),0,0,0⟩
def leastF (vts qts:List T5):List T5:=srt (ltO o1) true (srt (ltO o12) false ((partsF qts).map (foundT vts)))
def okP (n:Nat) (p:T5):Prop:=0≤p.c0∧0≤p.c1∧p.c1+((2^p.c0.toNat:Nat):Int)≤n
theorem halfT_ok {n:Nat} {q:T5} (h:okQ n q):∀p∈halfT q,okP n p:=by
 have h1:=lgQ_is h
 have h2:=Nat.two_pow_pos (lgQ q)
 unfold okQ at h
 intro p hp
 unfold halfT at hp
 simp only[List.mem_cons,List.not_mem_nil,or_false] at hp
 rcases hp with rfl|rfl
 ·unfold okP;dsimp only;rw[Int.toNat_natCast];omega
 ·unfold okP;dsimp only;rw[Int.toNat_natCast];omega
theorem partsF_mem {qts:List T5} {p:T5}:p∈partsF qts↔∃q∈qts,p∈halfT q:=by
 unfold partsF
 rw[(perm_srt _).mem_iff,List.mem_flatMap]
theorem partsF_len (qts:List T5):(partsF qts).length=2*qts.length:=by
 unfold partsF
 rw[(perm_srt _).length_eq]
 induction qts with
 |nil=>rfl
 |cons q l ih=>rw[List.flatMap_cons,List.length_append,ih];simp[halfT];omega
theorem partsF_sorted (qts:List T5):(partsF qts).Pairwise fun a c=>a.c0<c.c0∨a.c0=c.c0∧a.c1≤c.c1:=(srt_o12 false _).imp fun h=>by simpa using h
def ansQ (vts:List T5) (q:T5):T5:=⟨q.c0,rmin (at0 vts) q.c1.toNat (q.c2-q.c1).toNat,0,0,0⟩
theorem ans_two {vts:List T5} {n:Nat} {q:T5} (h:okQ n q):min (rmin (at0 vts) q.c1.toNat (2^lgQ q-1)) (rmin (at0 vts) (q.c2-((2^lgQ q:Nat):Int)+1).toNat (2^lgQ q-1))=rmin (at0 vts) q.c1.toNat (q.c2-q.c1).toNat:=by
 have h1:=lgQ_is h
 have h2:=Nat.two_pow_pos (lgQ q)
 rw[Nat.pow_succ] at h1
 unfold okQ at h
 have h3:=rmin_two (at0 vts) q.c1.toNat (2^lgQ q-1) ((q.c2-q.c1+1).toNat-2^lgQ q) (by omega)
 have e1:q.c1.toNat+((q.c2-q.c1+1).toNat-2^lgQ q)=(q.c2-((2^lgQ q:Nat):Int)+1).toNat:=by omega
 have e2:2^lgQ q-1+((q.c2-q.c1+1).toNat-2^lgQ q)=(q.c2-q.c1).toNat:=by omega
 rw[e1,e2] at h3
 exact h3
theorem inI64rmin {vts:List T5} (h:∀t∈vts,inI64 t.c0) (i n:Nat):inI64 (rmin (at0 vts) i n):=by
 obtain⟨j,_,h1⟩:=rmin_at (at0 vts) i n
 rw[h1]
 by_cases hi:i+j<vts.length
 ·rw[at0get (List.getElem?_eq_getElem hi)];exact h _ (List.getElem_mem hi)
 ·unfold at0;rw[List.getD_eq_getElem?_getD,List.getElem?_eq_none (by omega)];exact in_0
theorem found_mem {vts qts:List T5} {y:T5}:y∈(partsF qts).map (foundT vts)↔∃q∈qts,y=⟨q.c0,rmin (at0 vts) q.c1.toNat (2^lgQ q-1),0,0,0⟩∨y=⟨q.c0,rmin (at0 vts) (q.c2-((2^lgQ q:Nat):Int)+1).toNat (2^lgQ q-1),0,0,0⟩:=by
 rw[List.mem_map]
 constructor
 ·rintro⟨p,hp,rfl⟩
  obtain⟨q,hq,h⟩:=partsF_mem.1 hp
  refine⟨q,hq,?_⟩
  unfold halfT at h
  simp only[List.mem_cons,List.not_mem_nil,or_false] at h
  rcases h with rfl|rfl
  ·left;simp[foundT]
  ·right;simp[foundT]
 ·rintro⟨q,hq,rfl|rfl⟩
  ·exact⟨⟨(lgQ q:Int),q.c1,q.c0,0,0⟩,partsF_mem.2 ⟨q,hq,by simp[halfT]⟩,by simp[foundT]⟩
  ·exact⟨⟨(lgQ q:Int),q.c2-((2^lgQ q:Nat):Int)+1,q.c0,0,0⟩,partsF_mem.2 ⟨q,hq,by simp[halfT]⟩,by simp[foundT]⟩
theorem pw_same {α:Type} {f:α→Int}:∀{l:List α},l.Pairwise (fun a c=>f a≠f c)→∀{x y:α},x∈l→y∈l→f x=f y→x=y
 |[],_,x,y,h,_,_=>nomatch h
 |a::l,hp,x,y,hx,hy,he=>by
  rw[List.pairwise_cons] at hp
  rcases List.mem_cons.1 hx with rfl|hx2
  ·rcases List.mem_cons.1 hy with rfl|hy2
   ·rfl
   ·exact absurd he (hp.1 y hy2)
  ·rcases List.mem_cons.1 hy with rfl|hy2
   ·exact absurd he.symm (hp.1 x hx2)
   ·exact pw_same hp.2 hx2 hy2 he
theorem leastF_mem {vts qts:List T5} (hv:∀t∈vts,inI64 t.c0) (hi:∀q∈qts,inI64 q.c0) (hq:okQs vts.length qts) {z:T5}:z∈leastF vts qts↔∃q∈qts,z=ansQ vts q:=by
 have hok:∀t∈(partsF qts).map (foundT vts),okT 2 t:=by
  intro t ht
  obtain⟨q,hm,rfl|rfl⟩:=found_mem.1 ht
  ·exact okT2 (hi q hm) (inI64rmin hv _ _)
  ·exact okT2 (hi q hm) (inI64rmin hv _ _)
 unfold leastF
 rw[least_mem hok]
 have hone:∀{q q':T5},q∈qts→q'∈qts→q.c0=q'.c0→q=q':=fun h1 h2 h3=>pw_same (f:=fun t:T5=>t.c0) hq.2 h1 h2 h3
 constructor
 ·rintro⟨hz,hle⟩
  obtain⟨q,hm,h⟩:=found_mem.1 hz
  have h2:=ans_two (vts:=vts) (hq.1 q hm)
  have ha:=hle _ (found_mem.2 ⟨q,hm,.inl rfl⟩) (by rcases h with rfl|rfl<;>rfl)
  have hb:=hle _ (found_mem.2 ⟨q,hm,.inr rfl⟩) (by rcases h with rfl|rfl<;>rfl)
  refine⟨q,hm,?_⟩
  unfold ansQ
  rw[←h2]
  rcases h with rfl|rfl
  ·dsimp only at ha hb⊢
   congr 1;omega
  ·dsimp only at ha hb⊢
   congr 1;omega
 ·rintro⟨q,hm,rfl⟩
  have h2:=ans_two (vts:=vts) (hq.1 q hm)
  unfold ansQ
  constructor
  ·rw[←h2]
   refine found_mem.2 ⟨q,hm,?_⟩
   by_cases hc:rmin (at0 vts) q.c1.toNat (2^lgQ q-1)≤rmin (at0 vts) (q.c2-((2^lgQ q:Nat):Int)+1).toNat (2^lgQ q-1)
   ·left;congr 1;omega
   ·right;congr 1;omega
  ·intro y hy h0
   dsimp only at h0⊢
   obtain⟨q',hm',h⟩:=found_mem.1 hy
   have hqq:q'=q:=hone hm' hm (by rw[←h0];rcases h with rfl|rfl<;>rfl)
   subst hqq
   rw[←h2]
   rcases h with rfl|rfl
   ·dsimp only;omega
   ·dsimp only;omega
theorem leastF_rise (vts qts:List T5):(leastF vts qts).Pairwise fun a c=>a.c0<c.c0:=srt_o1t _
theorem rise_ext:∀{a b:List T5},a.Pairwise (fun x y=>x.c0<y.c0)→b.Pairwise (fun x y=>x.c0<y.c0)→(∀z,z∈a↔z∈b)→a=b
 |[],[],_,_,_=>rfl
 |[],y::b,_,_,h=>absurd ((h y).2 List.mem_cons_self) (by simp)
 |x::a,[],_,_,h=>absurd ((h x).1 List.mem_cons_self) (by simp)
 |x::a,y::b,ha,hb,h=>by
  rw[List.pairwise_cons] at ha hb
  have hxy:x=y:=by
   rcases List.mem_cons.1 ((h x).1 List.mem_cons_self) with h1|h1
   ·exact h1
   ·rcases List.mem_cons.1 ((h y).2 List.mem_cons_self) with h2|h2
    ·exact h2.symm
    ·have:=ha.1 y h2;have:=hb.1 x h1;omega
  subst hxy
  congr 1
  refine rise_ext ha.2 hb.2 fun z=> ?_
  have hz:=h z
  simp only[List.mem_cons] at hz
  constructor
  ·intro h1
   rcases hz.1 (.inr h1) with rfl|h2
   ·have:=ha.1 z h1;omega
   ·exact h2
  ·intro h1
   rcases hz.2 (.inr h1) with rfl|h2
   ·have:=hb.1 z h1;omega
   ·exact h2
theorem leastF_inc {vts qts:List T5} (hv:∀t∈vts,inI64 t.c0) (hi:∀q∈qts,inI64 q.c0) (hq:okQs vts.length qts) (hs:qts.Pairwise fun a c=>a.c0<c.c0):leastF vts qts=qts.map (ansQ vts):=by
 refine rise_ext (leastF_rise _ _) (by rw[List.pairwise_map];exact hs) fun z=> ?_
 rw[leastF_mem hv hi hq,List.mem_map]
 exact⟨fun ⟨q,h1,h2⟩=>⟨q,h1,h2.symm⟩,fun ⟨q,h1,h2⟩=>⟨q,h1,h2.symm⟩⟩
theorem rmin_cov (v:Nat→Int) {a b d e:Nat} (h1:a≤b) (h2:b≤d) (h3:d≤e):rmin v a (e-a)=min (rmin v a (d-a)) (rmin v b (e-b)):=by
 obtain⟨x,hx,e1⟩:=rmin_at v a (d-a)
 obtain⟨y,hy,e2⟩:=rmin_at v b (e-b)
 symm
 refine rmin_is (fun j hj=> ?_) ?_
 ·by_cases hj2:j≤d-a
  ·have:=rmin_le v a (d-a) j hj2;omega
  ·have h4:=rmin_le v b (e-b) (a+j-b) (by omega)
   have:b+(a+j-b)=a+j:=by omega
   rw[this] at h4;omega
 ·by_cases hc:rmin v a (d-a)≤rmin v b (e-b)
  ·exact⟨x,by omega,by rw[←e1];omega⟩
  ·exact⟨b-a+y,by omega,by
    have:a+(b-a+y)=b+y:=by omega
    rw[this,←e2];omega⟩
end Go.Proofs.YtjoicjgfgkpdjaaGreat
